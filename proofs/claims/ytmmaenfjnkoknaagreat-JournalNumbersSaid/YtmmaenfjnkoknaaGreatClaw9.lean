/- Layer 9's laws: known, same, open, FrameTells. -/
import Derived.Test.YtmmaenfjnkoknaaGreatLlaw9
import Derived.Test.YtmmaenfjnkoknaaGreatCframe
import Derived.Test.YtmmaenfjnkoknaaGreatPR
import Derived.Test.YtmmaenfjnkoknaaGreatPK
import Derived.Test.YtmmaenfjnkoknaaGreatVC
set_option linter.unusedVariables false
set_option linter.unusedSimpArgs false
set_option maxRecDepth 100000
namespace Go.Proofs.YtmmaenfjnkoknaaGreat.VA
open Go
attribute [local irreducible] WK NK XK TK RK FK CK CFK CallRel C
theorem seal_text9 (k : Bn 16) (n : Nat) (ad t : List UInt8) (h : t.length ≤ 8184) : textF k n (sealF k n ad t) = t := by
  have hl := hid_len k n t (by omega)
  have e : (sealF k n ad t).take ((sealF k n ad t).length - 8) = hidF k n t := by
    rw [seal_len _ _ _ _ (by omega), Nat.add_sub_cancel, sealF, List.take_left' hl]
  rw [textF, e, hidF, hl, hidF, xor_twice _ _ (stream_len k n _ (by omega))]
theorem seal_fits9 (k : Bn 16) (n : Nat) (ad t : List UInt8) (h : t.length ≤ 8184) (ha : ad.length ≤ 8192) : fits k n ad (sealF k n ad t) := by
  have hl := hid_len k n t (by omega)
  have sl := seal_len k n ad t (by omega)
  refine ⟨by omega, by omega, ha, ?_⟩
  rw [seal_text9 k n ad t h, sl, Nat.add_sub_cancel, sealF, List.drop_left' hl]
attribute [local irreducible] putR sealF textF fits recS RightR twoF sumF keepR frameF
theorem frame_back (k : Bn 16) (n : Nat) (prev : Bn 16) (r : Rec) (h : RightR r) (he : 0 ≤ r.epoch) : frecV k n prev (frameF k n prev r) ∧ sameR (frec k n (frameF k n prev r)).x r := by
  have hl := putR_le h
  have ht : textF k n (frameF k n prev r) = putR r := by unfold frameF; exact seal_text9 k n prev.1 (putR r) (by omega)
  have hf : fits k n prev.1 (frameF k n prev r) := by unfold frameF; exact seal_fits9 k n prev.1 (putR r) (by omega) (by rw [prev.2]; decide)
  have hb := rec_back h he (r := rd0 (.of (putR r))) (at_rd0 _)
  have e : frec k n (frameF k n prev r) = recS (rd0 (.of (putR r))) := by unfold frec; rw [ht]
  refine ⟨⟨hf, ?_⟩, ?_⟩
  · rw [e]; exact ⟨hb.2.1, hb.2.2⟩
  · rw [e]; exact hb.1
theorem frec_le (k : Bn 16) (n : Nat) (b : List UInt8) : (frec k n b).x.vaults.l.length ≤ 5 := by
  unfold frec recS
  split
  · simp [Lst.l]
  · split
    · simp [Lst.l]
    · split
      · simp only [lstOf_l, seqV_len]; omega
      · split <;> simp [Lst.l]
end Go.Proofs.YtmmaenfjnkoknaaGreat.VA
