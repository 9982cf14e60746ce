/- Journals: what was written is what is loaded: plain facts. -/
import Derived.Test.YtmmaenfjnkoknaaGreatGjou
import Derived.Test.YtmmaenfjnkoknaaGreatPR
import Derived.Test.YtmmaenfjnkoknaaGreatVC
set_option linter.unusedVariables false
set_option linter.unusedSimpArgs false
set_option maxRecDepth 100000
namespace Go.Proofs.YtmmaenfjnkoknaaGreat.VA
open Go
attribute [local irreducible] WK NK XK TK RK FK CK CFK CallRel C
attribute [local irreducible] sealF textF fits sumF rightR frec headF imgR frameF keepR putR RightR
theorem rgW_f (k : Bn 16) (l : List KR) (n : Nat) : (rgW k l n).count = (n : Int) ∧ (rgW k l n).base = ((8 * (n / 8) : Nat) : Int) ∧ (rgW k l n).point = ((n / 8 % 2 : Nat) : Int) := ⟨rfl, rfl, rfl⟩
theorem getD_set_eq {l : List Slo} {n : Nat} (x : Slo) (h : n < l.length) : (l.set n x).getD n default = x := by
  rw [List.getD_eq_getElem?_getD, List.getElem?_set_self h]; rfl
theorem getD_set_ne {l : List Slo} {n m : Nat} (x : Slo) (h : n ≠ m) : (l.set n x).getD m default = l.getD m default := by
  rw [List.getD_eq_getElem?_getD, List.getD_eq_getElem?_getD, List.getElem?_set_ne h]
theorem put_eq {d : Dsk} (hd : d.ok) (n : Nat) (hn : n < 10) (b : Row) : (putD d n b).now.getD n default = ⟨true, b⟩ := getD_set_eq _ (by rw [hd.1]; exact hn)
theorem put_ne (d : Dsk) {n m : Nat} (h : n ≠ m) (b : Row) : (putD d n b).now.getD m default = d.now.getD m default := getD_set_ne _ h
theorem put_fine {d : Dsk} (hd : d.fine) (n : Nat) (b : Row) (h : b.l.length ≤ 8192) : (putD d n b).fine := by
  refine ⟨putD_ok hd.1 n b, fun m => ?_⟩
  by_cases hm : n = m
  · subst hm
    by_cases hn : n < 10
    · rw [put_eq hd.1 n hn]; exact h
    · have : (putD d n b).now.getD n default = default := by
        rw [List.getD_eq_getElem?_getD, List.getElem?_eq_none (by rw [(putD_ok hd.1 n b).1]; omega)]; rfl
      rw [this]; decide
  · rw [put_ne d hm]; exact hd.2 m
theorem zero_fine : Dsk.zero.fine := by
  refine ⟨dsk_zero, fun m => ?_⟩
  have : Dsk.zero.now.getD m default = Slo.zero := by
    unfold Dsk.zero
    rw [List.getD_eq_getElem?_getD]
    rcases Nat.lt_or_ge m 10 with h | h
    · rw [List.getElem?_replicate_of_lt h]; rfl
    · rw [List.getElem?_eq_none (by simpa using h)]; rfl
  rw [this]; decide
theorem frW_len (k : Bn 16) (l : List KR) (i : Nat) (hf : (l.getD i default).fine) : (frW k l i).length ≤ 8192 := by
  have kr := keepR_right (l.getD i default) hf
  have fl := frame_len (k := k) (n := i + 1) (prev := hdW k l i) kr.1
  have fp := putR_le kr.1
  unfold frW; omega
theorem dkW_fine (k : Bn 16) (l : List KR) (hl : ∀ i, i < l.length → (l.getD i default).fine) : ∀ n, n ≤ l.length → (dkW k l n).fine
  | 0, _ => zero_fine
  | n + 1, h => by
    have ih := dkW_fine k l hl n (by omega)
    have h1 := put_fine ih (2 + n % 8) (.of (frW k l n)) (frW_len k l n (hl n (by omega)))
    unfold dkW
    split
    · exact put_fine h1 _ _ (im_len k n)
    · exact h1
theorem dkW_fr (k : Bn 16) (l : List KR) : ∀ n j, j < n % 8 → (dkW k l n).now.getD (2 + j) default = ⟨true, .of (frW k l (8 * (n / 8) + j))⟩
  | 0, j, h => by omega
  | n + 1, j, h => by
    unfold dkW
    by_cases hm : (n + 1) % 8 = 0
    · omega
    · rw [if_neg hm]
      have e8 : (n + 1) / 8 = n / 8 := by omega
      by_cases hj : j = n % 8
      · subst hj
        rw [put_eq (dkW_ok k l n) _ (by omega), e8, show 8 * (n / 8) + n % 8 = n by omega]
      · rw [put_ne _ (by omega), dkW_fr k l n j (by omega), e8]
theorem dkW_im (k : Bn 16) (l : List KR) : ∀ n, 8 ≤ n → (dkW k l n).now.getD (n / 8 % 2) default = ⟨true, .of (imW k (8 * (n / 8) - 1))⟩
  | 0, h => by omega
  | n + 1, h => by
    unfold dkW
    by_cases hm : (n + 1) % 8 = 0
    · rw [if_pos hm, show (n + 1) / 8 % 2 = 1 - n / 8 % 2 by omega, put_eq (putD_ok (dkW_ok k l n) _ _) _ (by omega), show 8 * ((n + 1) / 8) - 1 = n by omega]
    · rw [if_neg hm, put_ne _ (by omega), show (n + 1) / 8 = n / 8 by omega, dkW_im k l n (by omega)]
def rcW (k : Bn 16) (l : List KR) (b : Nat) (j : Nat) : List Rec := (List.range j).map fun i => (frec k (b + i + 1) (frW k l (b + i))).x
theorem hdW_S (k : Bn 16) (l : List KR) (i : Nat) (h : ¬ (i + 1) % 8 = 0) : hdW k l (i + 1) = headF (hdW k l i) (frW k l i) := by
  rw [hdW, if_neg h]; rfl
theorem ld_back (k : Bn 16) (l : List KR) (n : Nat) (hn : n ≤ l.length) (hl : ∀ i, i < l.length → (l.getD i default).fine) : ∀ j, j ≤ n % 8 → ldN k (dkW k l n) (8 * (n / 8)) (hdW k l (8 * (n / 8))) j = some (rcW k l (8 * (n / 8)) j, hdW k l (8 * (n / 8) + j))
  | 0, _ => rfl
  | j + 1, h => by
    have ih := ld_back k l n hn hl j (by omega)
    have e := dkW_fr k l n j (by omega)
    have hf := hl (8 * (n / 8) + j) (by omega)
    have kr := keepR_right (l.getD (8 * (n / 8) + j) default) hf
    obtain ⟨hv, _⟩ := frame_back k (8 * (n / 8) + j + 1) (hdW k l (8 * (n / 8) + j)) (keepR (l.getD (8 * (n / 8) + j) default)) kr.1 kr.2.1
    change frecV k (8 * (n / 8) + j + 1) (hdW k l (8 * (n / 8) + j)) (frW k l (8 * (n / 8) + j)) at hv
    have := ldN_T ih (by rw [e]; exact ⟨rfl, hv⟩)
    rw [this, e]
    have e2 : rcW k l (8 * (n / 8)) (j + 1) = rcW k l (8 * (n / 8)) j ++ [(frec k (8 * (n / 8) + j + 1) (frW k l (8 * (n / 8) + j))).x] := by simp [rcW, List.range_succ]
    rw [e2, ← Nat.add_assoc, hdW_S k l (8 * (n / 8) + j) (by omega)]
    rfl
theorem load_back (k : Bn 16) (l : List KR) (n : Nat) (hn : n ≤ l.length) (hl : ∀ i, i < l.length → (l.getD i default).fine) :
    ∃ img : Row, loadF k (dkW k l n) (rgW k l n) (8 * (n / 8)) (n / 8 % 2) (n - 8 * (n / 8)) = some (img, rcW k l (8 * (n / 8)) (n % 8)) ∧ img.l.length = if 8 ≤ n then 2 else 0 := by
  have hld := ld_back k l n hn hl (n % 8) (Nat.le_refl _)
  rw [show 8 * (n / 8) + n % 8 = n by omega] at hld
  have hb : ∃ img : Row, baseO k (dkW k l n) (8 * (n / 8)) (n / 8 % 2) = some (img, hdW k l (8 * (n / 8))) ∧ img.l.length = if 8 ≤ n then 2 else 0 := by
    unfold baseO
    by_cases h8 : 8 ≤ n
    · have e := dkW_im k l n h8
      have hs : fits k (8 * (n / 8)) adI (imW k (8 * (n / 8) - 1)) := by
        unfold imW
        rw [show 8 * (n / 8) - 1 + 1 = 8 * (n / 8) by omega]
        exact seal_fits9 _ _ _ _ (by show 2 ≤ 8184; decide) (by decide)
      rw [if_neg (by omega), e, if_pos ⟨rfl, hs⟩, if_pos h8]
      refine ⟨_, congrArg some (Prod.ext rfl ?_), ?_⟩
      · show sumF (imW k (8 * (n / 8) - 1)) = hdW k l (8 * (n / 8))
        rw [show hdW k l (8 * (n / 8)) = hdW k l (8 * (n / 8) - 1 + 1) by rw [show 8 * (n / 8) - 1 + 1 = 8 * (n / 8) by omega], hdW, if_pos (by omega)]
      · show (imgR k (8 * (n / 8)) (imW k (8 * (n / 8) - 1))).l.length = 2
        have hl2 : (imW k (8 * (n / 8) - 1)).length = 10 := by
          unfold imW; rw [seal_len _ _ _ _ (by show 2 ≤ 8192; decide)]; rfl
        rw [imgR_l, text_len _ _ _ (by rw [hl2]; decide), hl2]
    · rw [if_pos (by omega), if_neg h8, show 8 * (n / 8) = 0 by omega]
      exact ⟨_, rfl, rfl⟩
  obtain ⟨img, hb, hi⟩ := hb
  refine ⟨img, ?_, hi⟩
  unfold loadF
  rw [hb]
  simp only []
  rw [show n - 8 * (n / 8) = n % 8 by omega, hld]
  exact if_pos rfl
end Go.Proofs.YtmmaenfjnkoknaaGreat.VA
