/- Frames are sealed, opened, chained: the program's and the document's. -/
import Derived.Test.YtfpoebmihjbknaaGreatLframe
import Derived.Test.YtfpoebmihjbknaaGreatPV
import Derived.Test.YtfpoebmihjbknaaGreatPR
import Derived.Test.YtfpoebmihjbknaaGreatVC
set_option linter.unusedVariables false
set_option linter.unusedSimpArgs false
set_option maxRecDepth 100000
namespace Go.Proofs.YtfpoebmihjbknaaGreat.VA
open Go
attribute [local irreducible] WK NK XK TK RK FK CK CFK CallRel C
attribute [local irreducible] putR sealF textF fits recS RightR
theorem putR_le {r : Rec} (h : RightR r) : (putR r).length ≤ 1000 := by
  have fl : RisingP r.vaults.l → (r.vaults.l.flatMap putV).length ≤ 112 * r.vaults.l.length := fun h => flat_le _ fun i hi => (h.2 i hi).1
  have hk := rightR_kind h
  unfold putR
  split
  · have hv : RightV r.vault := by
      unfold RightR at h
      rcases h with h | ⟨_, h | h | h⟩ <;> first | exact h.2.1 | omega
    have := right_sec hv
    simp only [List.length_append, putV_len, List.length_cons, List.length_nil]; omega
  · split
    · simp only [List.length_append, numI_len, List.length_cons, List.length_nil]; omega
    · split
      · have hr : RisingP r.vaults.l := by
          unfold RightR at h
          rcases h with h | ⟨_, h | h | h⟩ <;> first | exact h.2.2 | omega
        have := fl hr
        have := hr.1
        simp only [List.length_append, numI_len, List.length_cons, List.length_nil]; omega
      · simp only [List.length_append, numI_len, List.length_cons, List.length_nil]; omega
theorem recOut_no {s : RecS} (h : ¬ R3 s) : recOut s = .tup [.agg (cRec Rec.zero), vi .i64 12] := if_neg h
theorem recOut_yes {s : RecS} (h : R3 s) : recOut s = .tup [.agg (cRec s.x), vi .i64 0] := if_pos h
end Go.Proofs.YtfpoebmihjbknaaGreat.VA
