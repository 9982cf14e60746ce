/- The compact code of Within. -/
import Derived.Test.YtehinkckdeodhaaVC
set_option linter.unusedVariables false
set_option maxRecDepth 100000
namespace Go.Proofs.Ytehinkckdeodhaa.VA
open Go
noncomputable section

def A_clavigerbook_Within : ACode := (.seq (.region [] [⟨(some 6), (.mov (.c (.int .i64 0))), none⟩]) (.seq (.seq (.region [] [⟨(some 7), (.mov (.t 0)), none⟩, ⟨(some 8), (.mov (.t 1)), none⟩, ⟨(some 9), (.bin .geq (.t 7) (.t 8)), none⟩, ⟨(some 10), (.mov (.t 9)), none⟩, ⟨(some 11), (.mov (.t 0)), (some (10, true))⟩, ⟨(some 12), (.mov (.t 2)), (some (10, true))⟩, ⟨(some 13), (.bin .leq (.t 11) (.t 12)), (some (10, true))⟩, ⟨(some 14), (.pick (.t 10) (.t 13) (.c (.bool false))), none⟩]) (.cond (.t 14) (.seq (.region [] [⟨(some 15), (.mov (.t 0)), none⟩, ⟨(some 6), (.mov (.t 15)), none⟩]) .ret) .skip)) (.seq (.region [] [⟨(some 16), (.mov (.t 0)), none⟩, ⟨(some 17), (.mov (.t 2)), none⟩, ⟨(some 18), (.mov (.t 1)), none⟩, ⟨(some 19), (.bin .sub (.t 17) (.t 18)), none⟩, ⟨(some 20), (.bin .add (.t 19) (.c (.int .i64 1))), none⟩, ⟨(some 21), (.bin .rem (.t 16) (.t 20)), none⟩, ⟨(some 0), (.mov (.t 21)), none⟩]) (.seq (.seq (.region [] [⟨(some 22), (.mov (.t 0)), none⟩, ⟨(some 23), (.bin .lss (.t 22) (.c (.int .i64 0))), none⟩]) (.cond (.t 23) (.region [] [⟨(some 24), (.mov (.t 0)), none⟩, ⟨(some 25), (.mov (.t 2)), none⟩, ⟨(some 26), (.bin .add (.t 24) (.t 25)), none⟩, ⟨(some 27), (.mov (.t 1)), none⟩, ⟨(some 28), (.bin .sub (.t 26) (.t 27)), none⟩, ⟨(some 29), (.bin .add (.t 28) (.c (.int .i64 1))), none⟩, ⟨(some 0), (.mov (.t 29)), none⟩]) .skip)) (.seq (.region [] [⟨(some 30), (.mov (.t 1)), none⟩, ⟨(some 31), (.mov (.t 0)), none⟩, ⟨(some 32), (.bin .add (.t 30) (.t 31)), none⟩, ⟨(some 6), (.mov (.t 32)), none⟩]) .ret)))))
theorem A_clavigerbook_Within_ok : Try.f30.body.bind (cCode Try.prog) = some A_clavigerbook_Within := by kernel_rfl
theorem A_clavigerbook_Within_res : cRes Try.prog Try.f30.results.toList = some [(.tmp 6)] := by kernel_rfl
theorem A_clavigerbook_Within_nt : Try.f30.ntmps = 33 := by kernel_rfl

end
end Go.Proofs.Ytehinkckdeodhaa.VA
