/- Majorities of votes: plain facts. -/
import Derived.Test.YtmmaenfjnkoknaaNros
import Derived.Test.YtmmaenfjnkoknaaFend
import Derived.Test.YtmmaenfjnkoknaaVC
set_option linter.unusedVariables false
set_option linter.unusedSimpArgs false
set_option maxRecDepth 100000
namespace Go.Proofs.Ytmmaenfjnkoknaa.VA
open Go
attribute [local irreducible] WK NK XK TK RK FK CK CFK CallRel C
theorem bitX_e (x : Int) (i : Nat) (h : i < 8) : bitX x i = x / (2 ^ i : Nat) % 2 := by
  unfold bitX
  have hm : min i IntKind.i64.bits = i := by show min i 64 = i; omega
  have hp : (2 : Int) ^ i = ((2 ^ i : Nat) : Int) := by norm_cast
  rw [hm, Int.fdiv_eq_ediv_of_nonneg _ (by rw [hp]; exact Int.natCast_nonneg _), hp]
  generalize x / ((2 ^ i : Nat) : Int) = y
  rw [BitVec.toNat_and]
  have e1 : (BitVec.ofInt IntKind.i64.bits 1).toNat = 1 := rfl
  have e2 : (BitVec.ofInt IntKind.i64.bits y).toNat = (y % 18446744073709551616).toNat := BitVec.toNat_ofInt ..
  rw [e1, e2, Nat.and_one_is_mod, wrap_id _ (by omega) (by omega)]
  omega
theorem and255 (x : Int) : andX x 255 = x % 256 := by
  unfold andX
  have e1 : (BitVec.ofInt IntKind.i64.bits 255).toNat = 2 ^ 8 - 1 := rfl
  have e2 : (BitVec.ofInt IntKind.i64.bits x).toNat = (x % 18446744073709551616).toNat := BitVec.toNat_ofInt ..
  rw [BitVec.toNat_and, e1, e2, Nat.and_two_pow_sub_one_eq_mod, wrap_id _ (by omega) (by omega)]
  omega
theorem bit255 (x : Int) (i : Nat) (h : i < 8) : bitX (andX x 255) i = bitX x i := by
  rw [bitX_e _ i h, bitX_e x i h, and255]
  rcases i with _ | _ | _ | _ | _ | _ | _ | _ | i <;> first | omega | (simp only [Nat.reduceAdd, Nat.reducePow, Int.cast_ofNat_Int, Nat.zero_add]; omega)
theorem bitX_nat (r i : Nat) (h : i < 8) : bitX (r : Int) i = 1 ↔ r.testBit i = true := by
  rw [bitX_e _ i h, Nat.testBit_eq_decide_div_mod_eq, decide_eq_true_eq]
  omega
theorem mem_bits (x : Int) (i : Nat) (h : i < 8) : (i : Int) ∈ bitsU 8 x ↔ bitX x i = 1 := by
  unfold bitsU
  simp only [List.mem_map, List.mem_filter, List.mem_range, decide_eq_true_eq]
  constructor
  · rintro ⟨a, ⟨_, h2⟩, h3⟩
    have : a = i := by omega
    subst this; exact h2
  · intro h2; exact ⟨i, ⟨h, h2⟩, rfl⟩
def selP (who B : Int) (i : Nat) : Bool := decide (bitX who i = 1) && decide (bitX B i = 1)
def selN (who B : Int) (n : Nat) : Nat := ((List.range n).filter (selP who B)).length
theorem selN_S (who B : Int) (n : Nat) : selN who B (n + 1) = selN who B n + (if selP who B n = true then 1 else 0) := by
  unfold selN
  rw [List.range_succ, List.filter_append, List.length_append]
  by_cases h : selP who B n = true <;> simp [h]
theorem selN_le (who B : Int) (n : Nat) : selN who B n ≤ n := by
  unfold selN
  have := List.length_filter_le (selP who B) (List.range n)
  rwa [List.length_range] at this
theorem voteF_0 (c : Bn 16) (l : Ros) (i : Nat) (h : i < 8) : voteF c l 0 i = ⟨i, markL (keyL c i) l⟩ := by
  unfold voteF
  have : ¬ bitX 0 i = 1 := by rw [bitX_e _ i h]; simp
  rw [if_neg this]
theorem any_votes (c : Bn 16) (l : Ros) (who : Int) (m : Nat) (hm : m < 8) : (votesU c l who 0 8).any (votes1 c l (m : Int)) = decide (bitX who m = 1) := by
  rw [Bool.eq_iff_iff, List.any_eq_true, decide_eq_true_eq]
  unfold votesU
  simp only [List.mem_map, List.mem_filter, List.mem_range, decide_eq_true_eq]
  constructor
  · rintro ⟨v, ⟨i, ⟨h1, h2⟩, rfl⟩, h3⟩
    rw [voteF_0 c l i h1, v1_eq, decide_eq_true_eq] at h3
    have : i = m := by omega
    subst this; exact h2
  · intro h2
    exact ⟨_, ⟨m, ⟨hm, h2⟩, rfl⟩, by rw [voteF_0 c l m hm, v1_eq, decide_eq_true_eq]⟩
theorem cnt_sel (c : Bn 16) (b l : Ros) (who B : Int) (hb : b.members.l = bitsU 8 B) : cntR c b l (votesF c l who 0).l = selN who B 8 := by
  unfold cntR cntV votesF selN
  rw [vsOf_l, hb]
  unfold bitsU
  rw [List.filter_map, List.length_map, List.filter_filter]
  congr 1
  apply List.filter_congr
  intro i hi
  have h8 : i < 8 := List.mem_range.1 hi
  simp only [Function.comp_apply]
  rw [any_votes c l who i h8]
  rfl
theorem sel_congr (x y B : Int) (h : ∀ i, i < 8 → selP x B i = selP y B i) : selN x B 8 = selN y B 8 := by
  unfold selN
  congr 1
  apply List.filter_congr
  intro i hi
  exact h i (List.mem_range.1 hi)
end Go.Proofs.Ytmmaenfjnkoknaa.VA
