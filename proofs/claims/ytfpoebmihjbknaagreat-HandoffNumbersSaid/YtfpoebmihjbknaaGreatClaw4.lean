/- Layer 4's laws. -/
import Derived.Test.YtfpoebmihjbknaaGreatLlaw4
import Derived.Test.YtfpoebmihjbknaaGreatPV
import Derived.Test.YtfpoebmihjbknaaGreatPB
import Derived.Test.YtfpoebmihjbknaaGreatVC
set_option linter.unusedVariables false
set_option linter.unusedSimpArgs false
set_option maxRecDepth 100000
namespace Go.Proofs.YtfpoebmihjbknaaGreat.VA
open Go
attribute [local irreducible] WK NK XK TK RK FK CK CFK CallRel C
theorem seal_text (k : Bn 16) (n : Nat) (ad t : List UInt8) (h : t.length ≤ 8184) : textF k n (sealF k n ad t) = t := by
  have hl := hid_len k n t (by omega)
  have e : (sealF k n ad t).take ((sealF k n ad t).length - 8) = hidF k n t := by
    rw [seal_len _ _ _ _ (by omega), Nat.add_sub_cancel, sealF, List.take_left' hl]
  rw [textF, e, hidF, hl, hidF, xor_twice _ _ (stream_len k n _ (by omega))]
theorem seal_fits (k : Bn 16) (n : Nat) (ad t : List UInt8) (h : t.length ≤ 8184) (ha : ad.length ≤ 8192) : fits k n ad (sealF k n ad t) := by
  have hl := hid_len k n t (by omega)
  have sl := seal_len k n ad t (by omega)
  refine ⟨by omega, by omega, ha, ?_⟩
  rw [seal_text k n ad t h, sl, Nat.add_sub_cancel, sealF, List.drop_left' hl]
attribute [local irreducible] sealF hidF markF textF keyedF twoF streamF sumF
end Go.Proofs.YtfpoebmihjbknaaGreat.VA
