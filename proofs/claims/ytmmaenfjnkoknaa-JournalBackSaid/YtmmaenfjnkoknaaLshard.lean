/- The compact code of the shards' functions. -/
import Derived.Test.YtmmaenfjnkoknaaVC
set_option linter.unusedVariables false
set_option maxRecDepth 100000
namespace Go.Proofs.Ytmmaenfjnkoknaa.VA
open Go
noncomputable section
def A_clavigerbook_Same_int_L0 : ACode := (.seq (.seq (rg [oM 11 5, oM 12 0, oO 13 (.lenSl (.t 12)), oO 14 (.bin .lss (.t 11) (.t 13))]) (.cond (.t 14) .skip (.exit 0))) (.seq (.block 1 (.seq (rg [oM 17 0, oM 18 5, oO 19 (.idxSl 1 (.t 17) (.t 18)), oL 20 19, oM 21 1, oM 22 5, oO 23 (.idxSl 1 (.t 21) (.t 22)), oL 24 23, oO 25 (.bin .neq (.t 20) (.t 24))]) (.cond (.t 25) (.seq (rg [oO 4 (.mov (.c (.bool false)))]) .ret) .skip))) (rg [oM 15 5, oO 16 (.bin .add (.t 15) (ci 1)), oM 5 16])))
def A_clavigerbook_Same_int : ACode := (.seq (rg [oO 4 (.mov (.c (.bool false)))]) (.seq (.seq (rg [oM 6 0, oO 7 (.lenSl (.t 6)), oM 8 1, oO 9 (.lenSl (.t 8)), oO 10 (.bin .neq (.t 7) (.t 9))]) (.cond (.t 10) (.seq (rg [oO 4 (.mov (.c (.bool false)))]) .ret) .skip)) (.seq (.seq (rg [oO 5 (.mov (ci 0))]) (.block 0 (.loop A_clavigerbook_Same_int_L0))) (.seq (rg [oO 4 (.mov (.c (.bool true)))]) .ret))))
theorem A_clavigerbook_Same_int_ok : Try.f78.body.bind (cCode Try.prog) = some A_clavigerbook_Same_int := by kernel_rfl
theorem A_clavigerbook_Same_int_res : cRes Try.prog Try.f78.results.toList = some [(.tmp 4)] := by kernel_rfl
theorem A_clavigerbook_Same_int_nt : Try.f78.ntmps = 26 := by kernel_rfl
end
end Go.Proofs.Ytmmaenfjnkoknaa.VA
