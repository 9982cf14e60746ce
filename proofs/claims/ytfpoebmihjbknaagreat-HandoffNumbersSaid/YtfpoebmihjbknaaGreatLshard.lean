/- The compact code of the shards' functions. -/
import Derived.Test.YtfpoebmihjbknaaGreatVC
set_option linter.unusedVariables false
set_option maxRecDepth 100000
namespace Go.Proofs.YtfpoebmihjbknaaGreat.VA
open Go
noncomputable section
def A_shard_Right : ACode := (.seq (rg [oO 2 (.mov (.c (.bool false)))]) (.seq (rg [oM 3 0, oO 4 (.bin .geq (.t 3) (ci 0)), oM 5 4, oG 6 (.mov (.t 0)) 5 true, oG 7 (.bin .lss (.t 6) (ci 16)) 5 true, oO 8 (.pick (.t 5) (.t 7) (.c (.bool false))), oM 2 8]) .ret))
theorem A_shard_Right_ok : Tryz.f56.body.bind (cCode Tryz.prog) = some A_shard_Right := by kernel_rfl
theorem A_shard_Right_res : cRes Tryz.prog Tryz.f56.results.toList = some [(.tmp 2)] := by kernel_rfl
theorem A_shard_Right_nt : Tryz.f56.ntmps = 9 := by kernel_rfl
end
end Go.Proofs.YtfpoebmihjbknaaGreat.VA
