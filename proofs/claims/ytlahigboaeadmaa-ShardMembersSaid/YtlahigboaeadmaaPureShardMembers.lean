/- The plain law of ShardMembers: whatever shard, whatever number of members, each shard's home is one that there is. -/
import Derived.Test.YtlahigboaeadmaaPShardMembersx1
namespace Go.Proofs.Ytlahigboaeadmaa.Pure
open Go.RowKit Go.Proofs.Ytlahigboaeadmaa.PShardMembers Go.Proofs.YtlahigboaeadmaaW.PrintWords Go.Proofs.YtlahigboaeadmaaW.PrintLast

theorem within_cut (lo hi m : Nat) (hm : wrap64 ((wrap64 ((hi : Int) - lo)) + 1) = m) (hlh : hi = lo + (m - 1)) (hm0 : 0 < m) (a0 : Int)
    (key : ∀ j : Fin (2 * m - 1), ∃ n : Fin m, (if ((j.val : Int) - (m - 1)) < 0 then wrap64 ((lo : Int) + (wrap64 ((wrap64 ((wrap64 (((j.val : Int) - (m - 1)) + hi)) - lo)) + 1))) else wrap64 ((lo : Int) + ((j.val : Int) - (m - 1)))) = (lo : Int) + n.val) :
    ∃ n : Nat, n < m ∧ ∀ k, clavigerbook_Within.f (k + 1) a0 lo hi = some ((lo : Int) + n) := by
  by_cases h1 : a0 ≥ lo ∧ a0 ≤ hi
  · refine ⟨(a0 - lo).toNat, by omega, fun k => ?_⟩
    simp only [clavigerbook_Within.f, clavigerbook_Within.j0, if_pos h1.1, decide_eq_true h1.2, if_true]
    congr 1
    omega
  · have hr : Int.tmod a0 m < m ∧ -(m : Int) < Int.tmod a0 m := ⟨Int.tmod_lt_of_pos a0 (by omega), Int.lt_tmod_of_pos a0 (by omega)⟩
    obtain ⟨n, hn⟩ := key ⟨(Int.tmod a0 m + (m - 1)).toNat, by omega⟩
    have hj : (((Int.tmod a0 m + (m - 1)).toNat : Nat) : Int) - (m - 1) = Int.tmod a0 m := by omega
    simp only [hj] at hn
    refine ⟨n.val, n.isLt, fun k => ?_⟩
    have hgo : clavigerbook_Within.j0 (k + 1) a0 lo hi false = some ((lo : Int) + n.val) := by
      simp only [clavigerbook_Within.j0, hm, Bool.false_eq_true, if_false, if_neg (show ¬ (m : Int) = 0 by omega)]
      split
      · rename_i h; rw [if_pos h] at hn; rw [hn]
      · rename_i h; rw [if_neg h] at hn; rw [hn]
    simp only [clavigerbook_Within.f]
    split
    · have h3 : decide (a0 ≤ (hi : Int)) = false := by simp; omega
      rw [h3]; exact hgo
    · exact hgo

theorem members_within (a0 : Int) : ∃ n : Nat, n < 8 ∧ ∀ k, clavigerbook_Within.f (k + 1) a0 1 8 = some (1 + (n : Int)) :=
  within_cut 1 8 8 (by decide +kernel) rfl (by decide) a0 (by decide +kernel)

theorem shard_within (a0 : Int) : ∃ n : Nat, n < 16 ∧ ∀ k, clavigerbook_Within.f (k + 1) a0 0 15 = some (0 + (n : Int)) :=
  within_cut 0 15 16 (by decide +kernel) rfl (by decide) a0 (by decide +kernel)

theorem known_yes : clavigerlaw13_known.f 63 = some true := by kernel_rfl

theorem first_range (s : Fin 16) (n : Fin 8) : ∃ f : Int, shard_First.f (s.val : Int) (1 + (n.val : Int)) = some f ∧ f ≥ 0 ∧ f < 1 + (n.val : Int) ∧ Int.tmod (wrap64 ((s.val : Int) - f)) (1 + (n.val : Int)) = 0 := by
  have key : ∀ (s : Fin 16) (n : Fin 8), (match shard_First.f (s.val : Int) (1 + (n.val : Int)) with
    | some f => decide (f ≥ 0) && decide (f < 1 + (n.val : Int)) && decide (Int.tmod (wrap64 ((s.val : Int) - f)) (1 + (n.val : Int)) = 0)
    | none => false) = true := by decide +kernel
  have := key s n
  split at this
  · rename_i f hf
    simp only [Bool.and_eq_true, decide_eq_true_eq] at this
    exact ⟨f, hf, this.1.1, this.1.2, this.2⟩
  · cases this

theorem first_bad (x a1 : Int) (h : shard_Right.f x = some false) : shard_First.f x a1 = some 0 := by
  unfold shard_First.f
  rw [h]
  rfl

theorem shard_heads : ∀ s : Fin 16, shard_First.f (s.val : Int) 1 = some 0 ∧ shard_First.f (s.val : Int) 8 = some (Int.tmod (s.val : Int) 8) ∧ shard_First.f (s.val : Int) 100 = some (Int.tmod (s.val : Int) 8) ∧
    shard_First.f (s.val : Int) (-5) = some 0 ∧ shard_Right.f (wrap64 ((-1) - (s.val : Int))) = some false ∧ shard_Right.f (wrap64 (16 + (s.val : Int))) = some false := by decide +kernel

theorem ShardMembers : clavigerlaw13_ShardMembers.Pure := by
  intro a0 a1 _ _
  obtain ⟨s, hs, h0⟩ := shard_within a0
  obtain ⟨n, hn, h3⟩ := members_within a1
  obtain ⟨f, hf1, hf2, hf3, hf4⟩ := first_range ⟨s, hs⟩ ⟨n, hn⟩
  obtain ⟨g1, g2, g3, g4, g5, g6⟩ := shard_heads ⟨s, hs⟩
  simp only [] at hf1 hf3 hf4 g1 g2 g3 g4 g5 g6
  refine ⟨64, ?_⟩
  have h0' := h0 63
  have h3' := h3 62
  simp only [Int.zero_add] at h0'
  have hn0 : ¬ (1 + (n : Int)) = 0 := by omega
  have hj : clavigerlaw13_ShardMembers.j0 64 a1 (s : Int) false = some true := by
    simp only [clavigerlaw13_ShardMembers.j0, Bool.false_eq_true, if_false, h3', Option.bind_some, hf1, if_pos hf2, if_pos hf3, if_neg hn0, if_pos hf4, known_yes]
  simp only [clavigerlaw13_ShardMembers.f, h0', Option.bind_some, g1, g2, g3, g4, first_bad _ a1 g5, first_bad _ a1 g6, if_true]
  exact hj

end Go.Proofs.Ytlahigboaeadmaa.Pure
