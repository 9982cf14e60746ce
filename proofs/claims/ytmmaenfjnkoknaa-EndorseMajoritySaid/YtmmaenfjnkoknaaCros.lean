/- Lists of members: right ones, the same ones, who is there, what follows; rows of numbers. -/
import Derived.Test.YtmmaenfjnkoknaaLros
import Derived.Test.YtmmaenfjnkoknaaPB
import Derived.Test.YtmmaenfjnkoknaaVC
set_option linter.unusedVariables false
set_option linter.unusedSimpArgs false
set_option maxRecDepth 100000
namespace Go.Proofs.Ytmmaenfjnkoknaa.VA
open Go
attribute [local irreducible] WK NK XK TK RK FK CK CFK CallRel C
theorem rd_intsD (k : IntKind) (l : List Int) (i : Nat) (h : i < l.length) : rd none ((l.drop i).map (vi k)) 0 = some (vi k (l.getD i 0)) := by
  simp [rd, h]
theorem take_snocI (l : List Int) (i : Nat) (h : i < l.length) : l.take (i + 1) = l.take i ++ [l.getD i 0] := by
  rw [List.take_add_one]; simp [List.getElem?_eq_getElem h]
theorem equalI_C (a b : Ints) (h : a.l.length ≤ 9223372036854775807) : C Try.prog 159 [intsV .i64 a, intsV .i64 b] [] (vb (decide (a.l = b.l))) [] := by
  refine C_of mixed Try.func159 A_slices_Equal_int_int_ok A_slices_Equal_int_int_res _ A_slices_Equal_int_int_nt ?_
  by_cases hl : a.l.length = b.l.length
  · have e : (a.l.length : Int) = b.l.length := by rw [hl]
    (repeat' (first | simp (maxSteps := 2000000) -implicitDefEqProofs only [A_slices_Equal_int_int, e, Int.reduceBNe, Int.reduceBEq, rk_ext, fk_ext, len_ints, idx_ints, cells_ints, lr_ros, lr, lr2, oO, oN, oG, oNG, oM, oF, oL, rg, ci, Nat.reduceEqDiff, Nat.reduceAdd, Nat.reduceSub, Int.reduceTDiv, Int.reduceTMod, ge_iff_le, Int.reduceGE, Nat.reducePow, Int.reduceEq, Int.reduceNeg, Int.reduceLE, Int.reducePow, Int.reduceLT, Int.reduceSub, Int.reduceAdd, Int.reduceMul, Int.reduceToNat, Option.map_some, ↓reduceIte, ite_not, beq_iff_eq, bne_iff_ne, ne_eq, beq_self_eq_true, beq_eq_false_iff_ne, bne_eq_false_iff_eq, resAll, resL, resV, reduceCtorEq, Option.some.injEq, exists_eq_left', blkAt, Nat.reduceLeDiff, Nat.reduceMul, eq_self, Nat.reduceLT, undef, fillV, evParts, footOp, wrOp, chk, disj, Nat.reduceBEq] | split))
    refine wk_loop (fun m S H => ∃ i : Nat, i ≤ a.l.length ∧ (a.l.take i = b.l.take i) ∧ m = a.l.length - i ∧ S = (intsV .i64 a :: intsV .i64 b :: .dead :: .dead :: vb false :: .dead :: .dead :: .dead :: .dead :: .dead :: .dead :: .dead :: vi .i64 b.l.length :: vi .i64 i :: .dead :: .dead :: .dead :: .dead :: .dead :: .dead :: .dead :: .dead :: .dead :: .dead :: .dead :: .dead :: []) ∧ H = []) (a.l.length) ⟨0, Nat.zero_le _, by simp, rfl, rfl, rfl⟩ (by refine .ren _ _ _ [] (by decide) (by intro k h; first | exact absurd h (Nat.not_lt_zero k) | (simp at h; done) | (match k, h with | 0, _ => rfl)) ?_ ?_ <;> simp [KeepS, KeepH, ArgRel, ArgRelL, argL_cl, arg_cl, row_l_of, row_l_nil, bn_len, blkAt]) ?_
    rintro m S H ⟨i, hi, hP, rfl, rfl, rfl⟩ J hJ
    have d0 : (0 : Int) ≤ i := by omega
    by_cases hin : i < a.l.length
    · have d1 : (i : Int) < b.l.length := by omega
      have w1 : IntKind.i64.wrap ((i : Int) + 1) = ((i + 1 : Nat) : Int) := by rw [wrap_id _ (by omega) (by omega)]; omega
      have g1 := rd_intsD .i64 a.l i hin
      have g2 := rd_intsD .i64 b.l i (by omega)
      have s1 := take_snocI a.l i hin
      have s2 := take_snocI b.l i (by omega)
      by_cases hx : a.l.getD i 0 = b.l.getD i 0
      · (repeat' (first | simp (maxSteps := 2000000) -implicitDefEqProofs only [A_slices_Equal_int_int_L0, e, d0, d1, w1, g1, g2, hx, Int.reduceBNe, Int.reduceBEq, rk_ext, fk_ext, len_ints, idx_ints, cells_ints, lr_ros, lr, lr2, oO, oN, oG, oNG, oM, oF, oL, rg, ci, Nat.reduceEqDiff, Nat.reduceAdd, Nat.reduceSub, Int.reduceTDiv, Int.reduceTMod, ge_iff_le, Int.reduceGE, Nat.reducePow, Int.reduceEq, Int.reduceNeg, Int.reduceLE, Int.reducePow, Int.reduceLT, Int.reduceSub, Int.reduceAdd, Int.reduceMul, Int.reduceToNat, Option.map_some, ↓reduceIte, ite_not, beq_iff_eq, bne_iff_ne, ne_eq, beq_self_eq_true, beq_eq_false_iff_ne, bne_eq_false_iff_eq, resAll, resL, resV, reduceCtorEq, Option.some.injEq, exists_eq_left', blkAt, Nat.reduceLeDiff, Nat.reduceMul, eq_self, Nat.reduceLT, undef, fillV, evParts, footOp, wrOp, chk, disj, Nat.reduceBEq] | split))
        exact hJ _ _ _ _ _ (by omega) ⟨i + 1, by omega, by rw [s1, s2, hP, hx], rfl, rfl, rfl⟩ (by refine .ren _ _ _ [] (by decide) (by intro k h; first | exact absurd h (Nat.not_lt_zero k) | (simp at h; done) | (match k, h with | 0, _ => rfl)) ?_ ?_ <;> simp [KeepS, KeepH, ArgRel, ArgRelL, argL_cl, arg_cl, row_l_of, row_l_nil, bn_len, blkAt])
      · (repeat' (first | simp (maxSteps := 2000000) -implicitDefEqProofs only [A_slices_Equal_int_int_L0, e, d0, d1, w1, g1, g2, hx, Int.reduceBNe, Int.reduceBEq, rk_ext, fk_ext, len_ints, idx_ints, cells_ints, lr_ros, lr, lr2, oO, oN, oG, oNG, oM, oF, oL, rg, ci, Nat.reduceEqDiff, Nat.reduceAdd, Nat.reduceSub, Int.reduceTDiv, Int.reduceTMod, ge_iff_le, Int.reduceGE, Nat.reducePow, Int.reduceEq, Int.reduceNeg, Int.reduceLE, Int.reducePow, Int.reduceLT, Int.reduceSub, Int.reduceAdd, Int.reduceMul, Int.reduceToNat, Option.map_some, ↓reduceIte, ite_not, beq_iff_eq, bne_iff_ne, ne_eq, beq_self_eq_true, beq_eq_false_iff_ne, bne_eq_false_iff_eq, resAll, resL, resV, reduceCtorEq, Option.some.injEq, exists_eq_left', blkAt, Nat.reduceLeDiff, Nat.reduceMul, eq_self, Nat.reduceLT, undef, fillV, evParts, footOp, wrOp, chk, disj, Nat.reduceBEq] | split))
        refine out_vb (Eq.symm (decide_eq_false fun h => hx (by rw [h])))
    · obtain rfl : i = a.l.length := by omega
      have d1 : ¬ ((a.l.length : Nat) : Int) < b.l.length := by omega
      (repeat' (first | simp (maxSteps := 2000000) -implicitDefEqProofs only [A_slices_Equal_int_int_L0, K_slices_Equal_int_int_L0, d1, Int.reduceBNe, Int.reduceBEq, rk_ext, fk_ext, len_ints, idx_ints, cells_ints, lr_ros, lr, lr2, oO, oN, oG, oNG, oM, oF, oL, rg, ci, Nat.reduceEqDiff, Nat.reduceAdd, Nat.reduceSub, Int.reduceTDiv, Int.reduceTMod, ge_iff_le, Int.reduceGE, Nat.reducePow, Int.reduceEq, Int.reduceNeg, Int.reduceLE, Int.reducePow, Int.reduceLT, Int.reduceSub, Int.reduceAdd, Int.reduceMul, Int.reduceToNat, Option.map_some, ↓reduceIte, ite_not, beq_iff_eq, bne_iff_ne, ne_eq, beq_self_eq_true, beq_eq_false_iff_ne, bne_eq_false_iff_eq, resAll, resL, resV, reduceCtorEq, Option.some.injEq, exists_eq_left', blkAt, Nat.reduceLeDiff, Nat.reduceMul, eq_self, Nat.reduceLT, undef, fillV, evParts, footOp, wrOp, chk, disj, Nat.reduceBEq] | split))
      refine out_vb (Eq.symm (decide_eq_true ?_))
      rw [List.take_length] at hP
      rw [hP, List.take_of_length_le (by omega)]
  · have e : ¬ (a.l.length : Int) = b.l.length := by omega
    (repeat' (first | simp (maxSteps := 2000000) -implicitDefEqProofs only [A_slices_Equal_int_int, e, Int.reduceBNe, Int.reduceBEq, rk_ext, fk_ext, len_ints, idx_ints, cells_ints, lr_ros, lr, lr2, oO, oN, oG, oNG, oM, oF, oL, rg, ci, Nat.reduceEqDiff, Nat.reduceAdd, Nat.reduceSub, Int.reduceTDiv, Int.reduceTMod, ge_iff_le, Int.reduceGE, Nat.reducePow, Int.reduceEq, Int.reduceNeg, Int.reduceLE, Int.reducePow, Int.reduceLT, Int.reduceSub, Int.reduceAdd, Int.reduceMul, Int.reduceToNat, Option.map_some, ↓reduceIte, ite_not, beq_iff_eq, bne_iff_ne, ne_eq, beq_self_eq_true, beq_eq_false_iff_ne, bne_eq_false_iff_eq, resAll, resL, resV, reduceCtorEq, Option.some.injEq, exists_eq_left', blkAt, Nat.reduceLeDiff, Nat.reduceMul, eq_self, Nat.reduceLT, undef, fillV, evParts, footOp, wrOp, chk, disj, Nat.reduceBEq] | split))
    refine out_vb (Eq.symm (decide_eq_false fun h => hl (by rw [h])))
def idxI (l : List Int) (x : Int) : Int :=
  match l.findIdx? (· == x) with
  | some i => i
  | none => -1
theorem idxI_some (l : List Int) (x : Int) (i : Nat) (h : i < l.length) (hx : l.getD i 0 = x) (hno : x ∉ l.take i) : idxI l x = i := by
  have e : l.findIdx? (· == x) = some i := by
    rw [List.findIdx?_eq_some_iff_getElem]
    refine ⟨h, ?_, fun j hj => ?_⟩
    · rw [List.getD_eq_getElem?_getD, List.getElem?_eq_getElem h] at hx
      simpa using hx
    · simp only [beq_iff_eq]
      intro he
      apply hno
      rw [List.mem_take_iff_getElem]
      exact ⟨j, by omega, he⟩
  rw [idxI, e]
theorem idxI_none (l : List Int) (x : Int) (h : x ∉ l) : idxI l x = -1 := by
  have e : l.findIdx? (· == x) = none := by
    rw [List.findIdx?_eq_none_iff]
    intro y hy
    simp only [beq_eq_false_iff_ne]
    rintro rfl; exact h hy
  rw [idxI, e]
theorem idxI_mem (l : List Int) (x : Int) : 0 ≤ idxI l x ↔ x ∈ l := by
  by_cases h : x ∈ l
  · simp only [h, iff_true]
    unfold idxI
    split
    · omega
    · rename_i he
      rw [List.findIdx?_eq_none_iff] at he
      have := he x h
      simp at this
  · rw [idxI_none l x h]
    simp [h]
theorem indexI_C (a : Ints) (x : Int) (h : a.l.length ≤ 9223372036854775807) : C Try.prog 205 [intsV .i64 a, vi .i64 x] [] (vi .i64 (idxI a.l x)) [] := by
  refine C_of mixed Try.func205 A_slices_Index_int_int_ok A_slices_Index_int_int_res _ A_slices_Index_int_int_nt ?_
  (repeat' (first | simp (maxSteps := 2000000) -implicitDefEqProofs only [A_slices_Index_int_int, Int.reduceBNe, Int.reduceBEq, rk_ext, fk_ext, len_ints, idx_ints, cells_ints, lr_ros, lr, lr2, oO, oN, oG, oNG, oM, oF, oL, rg, ci, Nat.reduceEqDiff, Nat.reduceAdd, Nat.reduceSub, Int.reduceTDiv, Int.reduceTMod, ge_iff_le, Int.reduceGE, Nat.reducePow, Int.reduceEq, Int.reduceNeg, Int.reduceLE, Int.reducePow, Int.reduceLT, Int.reduceSub, Int.reduceAdd, Int.reduceMul, Int.reduceToNat, Option.map_some, ↓reduceIte, ite_not, beq_iff_eq, bne_iff_ne, ne_eq, beq_self_eq_true, beq_eq_false_iff_ne, bne_eq_false_iff_eq, resAll, resL, resV, reduceCtorEq, Option.some.injEq, exists_eq_left', blkAt, Nat.reduceLeDiff, Nat.reduceMul, eq_self, Nat.reduceLT, undef, fillV, evParts, footOp, wrOp, chk, disj, Nat.reduceBEq] | split))
  refine wk_loop (fun m S H => ∃ i : Nat, i ≤ a.l.length ∧ (x ∉ a.l.take i) ∧ m = a.l.length - i ∧ S = (intsV .i64 a :: vi .i64 x :: .dead :: .dead :: vi .i64 0 :: .dead :: .dead :: vi .i64 a.l.length :: vi .i64 i :: .dead :: .dead :: .dead :: .dead :: .dead :: .dead :: .dead :: .dead :: .dead :: .dead :: []) ∧ H = []) (a.l.length) ⟨0, Nat.zero_le _, by simp, rfl, rfl, rfl⟩ (by refine .ren _ _ _ [] (by decide) (by intro k h; first | exact absurd h (Nat.not_lt_zero k) | (simp at h; done) | (match k, h with | 0, _ => rfl)) ?_ ?_ <;> simp [KeepS, KeepH, ArgRel, ArgRelL, argL_cl, arg_cl, row_l_of, row_l_nil, bn_len, blkAt]) ?_
  rintro m S H ⟨i, hi, hP, rfl, rfl, rfl⟩ J hJ
  have d0 : (0 : Int) ≤ i := by omega
  by_cases hin : i < a.l.length
  · have d1 : (i : Int) < a.l.length := by omega
    have w1 : IntKind.i64.wrap ((i : Int) + 1) = ((i + 1 : Nat) : Int) := by rw [wrap_id _ (by omega) (by omega)]; omega
    have g1 := rd_intsD .i64 a.l i hin
    have s1 := take_snocI a.l i hin
    by_cases hx : x = a.l.getD i 0
    · have hi := idxI_some a.l x i hin hx.symm hP
      rw [hi]
      (repeat' (first | simp (maxSteps := 2000000) -implicitDefEqProofs only [A_slices_Index_int_int_L0, d0, d1, w1, g1, hx.symm, Int.reduceBNe, Int.reduceBEq, rk_ext, fk_ext, len_ints, idx_ints, cells_ints, lr_ros, lr, lr2, oO, oN, oG, oNG, oM, oF, oL, rg, ci, Nat.reduceEqDiff, Nat.reduceAdd, Nat.reduceSub, Int.reduceTDiv, Int.reduceTMod, ge_iff_le, Int.reduceGE, Nat.reducePow, Int.reduceEq, Int.reduceNeg, Int.reduceLE, Int.reducePow, Int.reduceLT, Int.reduceSub, Int.reduceAdd, Int.reduceMul, Int.reduceToNat, Option.map_some, ↓reduceIte, ite_not, beq_iff_eq, bne_iff_ne, ne_eq, beq_self_eq_true, beq_eq_false_iff_ne, bne_eq_false_iff_eq, resAll, resL, resV, reduceCtorEq, Option.some.injEq, exists_eq_left', blkAt, Nat.reduceLeDiff, Nat.reduceMul, eq_self, Nat.reduceLT, undef, fillV, evParts, footOp, wrOp, chk, disj, Nat.reduceBEq] | split))
      all_goals (refine out_eq rfl cl)
    · (repeat' (first | simp (maxSteps := 2000000) -implicitDefEqProofs only [A_slices_Index_int_int_L0, d0, d1, w1, g1, hx, Int.reduceBNe, Int.reduceBEq, rk_ext, fk_ext, len_ints, idx_ints, cells_ints, lr_ros, lr, lr2, oO, oN, oG, oNG, oM, oF, oL, rg, ci, Nat.reduceEqDiff, Nat.reduceAdd, Nat.reduceSub, Int.reduceTDiv, Int.reduceTMod, ge_iff_le, Int.reduceGE, Nat.reducePow, Int.reduceEq, Int.reduceNeg, Int.reduceLE, Int.reducePow, Int.reduceLT, Int.reduceSub, Int.reduceAdd, Int.reduceMul, Int.reduceToNat, Option.map_some, ↓reduceIte, ite_not, beq_iff_eq, bne_iff_ne, ne_eq, beq_self_eq_true, beq_eq_false_iff_ne, bne_eq_false_iff_eq, resAll, resL, resV, reduceCtorEq, Option.some.injEq, exists_eq_left', blkAt, Nat.reduceLeDiff, Nat.reduceMul, eq_self, Nat.reduceLT, undef, fillV, evParts, footOp, wrOp, chk, disj, Nat.reduceBEq] | split))
      exact hJ _ _ _ _ _ (by omega) ⟨i + 1, by omega, (by rw [s1, List.mem_append, List.mem_singleton]; exact fun h => h.elim hP hx), rfl, rfl, rfl⟩ (by refine .ren _ _ _ [] (by decide) (by intro k h; first | exact absurd h (Nat.not_lt_zero k) | (simp at h; done) | (match k, h with | 0, _ => rfl)) ?_ ?_ <;> simp [KeepS, KeepH, ArgRel, ArgRelL, argL_cl, arg_cl, row_l_of, row_l_nil, bn_len, blkAt])
  · obtain rfl : i = a.l.length := by omega
    have d1 : ¬ ((a.l.length : Nat) : Int) < a.l.length := by omega
    rw [List.take_length] at hP
    rw [idxI_none _ _ hP]
    (repeat' (first | simp (maxSteps := 2000000) -implicitDefEqProofs only [A_slices_Index_int_int_L0, K_slices_Index_int_int_L0, d1, Int.reduceBNe, Int.reduceBEq, rk_ext, fk_ext, len_ints, idx_ints, cells_ints, lr_ros, lr, lr2, oO, oN, oG, oNG, oM, oF, oL, rg, ci, Nat.reduceEqDiff, Nat.reduceAdd, Nat.reduceSub, Int.reduceTDiv, Int.reduceTMod, ge_iff_le, Int.reduceGE, Nat.reducePow, Int.reduceEq, Int.reduceNeg, Int.reduceLE, Int.reducePow, Int.reduceLT, Int.reduceSub, Int.reduceAdd, Int.reduceMul, Int.reduceToNat, Option.map_some, ↓reduceIte, ite_not, beq_iff_eq, bne_iff_ne, ne_eq, beq_self_eq_true, beq_eq_false_iff_ne, bne_eq_false_iff_eq, resAll, resL, resV, reduceCtorEq, Option.some.injEq, exists_eq_left', blkAt, Nat.reduceLeDiff, Nat.reduceMul, eq_self, Nat.reduceLT, undef, fillV, evParts, footOp, wrOp, chk, disj, Nat.reduceBEq] | split))
    exact out_eq rfl cl
theorem containsI_C (a : Ints) (x : Int) (h : a.l.length ≤ 9223372036854775807) : C Try.prog 157 [intsV .i64 a, vi .i64 x] [] (vb (decide (x ∈ a.l))) [] := by
  refine C_of mixed Try.func157 A_slices_Contains_int_int_ok A_slices_Contains_int_int_res _ A_slices_Contains_int_int_nt ?_
  have e : decide (0 ≤ idxI a.l x) = decide (x ∈ a.l) := by rw [decide_eq_decide]; exact idxI_mem _ _
  (repeat' (first | simp (maxSteps := 2000000) -implicitDefEqProofs only [A_slices_Contains_int_int, e, Int.reduceBNe, Int.reduceBEq, rk_ext, fk_ext, len_ints, idx_ints, cells_ints, lr_ros, lr, lr2, oO, oN, oG, oNG, oM, oF, oL, rg, ci, Nat.reduceEqDiff, Nat.reduceAdd, Nat.reduceSub, Int.reduceTDiv, Int.reduceTMod, ge_iff_le, Int.reduceGE, Nat.reducePow, Int.reduceEq, Int.reduceNeg, Int.reduceLE, Int.reducePow, Int.reduceLT, Int.reduceSub, Int.reduceAdd, Int.reduceMul, Int.reduceToNat, Option.map_some, ↓reduceIte, ite_not, beq_iff_eq, bne_iff_ne, ne_eq, beq_self_eq_true, beq_eq_false_iff_ne, bne_eq_false_iff_eq, resAll, resL, resV, reduceCtorEq, Option.some.injEq, exists_eq_left', blkAt, Nat.reduceLeDiff, Nat.reduceMul, eq_self, Nat.reduceLT, undef, fillV, evParts, footOp, wrOp, chk, disj, Nat.reduceBEq] | split | ((first | apply ck_call | apply cfk_call); (first | (apply call_pure (indexI_C a x h) cll cl)))))
  all_goals (refine out_eq ?_ cl; first | rfl | (rw [e]; done) | simp_all)
def RosP (l : Ros) : Prop := 1 ≤ l.version ∧ l.version ≤ 1099511627776 ∧ 1 ≤ l.members.l.length ∧ l.members.l.length ≤ 8 ∧
  ∀ i, i < l.members.l.length → 0 ≤ l.members.l.getD i 0 ∧ l.members.l.getD i 0 < 8 ∧ (0 < i → l.members.l.getD (i - 1) 0 < l.members.l.getD i 0)
instance (l : Ros) : Decidable (RosP l) := by unfold RosP; infer_instance
set_option maxHeartbeats 4000000 in
theorem rightL_C (l : Ros) : C Try.prog 96 [.agg (cRos l)] [] (vb (decide (RosP l))) [] := by
  refine C_of mixed Try.func96 A_roster_Right_ok A_roster_Right_res _ A_roster_Right_nt ?_
  by_cases hh : 1 ≤ l.version ∧ l.version ≤ 1099511627776 ∧ 1 ≤ l.members.l.length ∧ l.members.l.length ≤ 8
  · obtain ⟨h1, h2, h3, h4⟩ := hh
    have c1 : ¬ l.version < 1 := by omega
    have c2 : ¬ l.version > 1099511627776 := by omega
    have c2' : ¬ 1099511627776 < l.version := by omega
    have c3 : ¬ (l.members.l.length : Int) < 1 := by omega
    have c4 : ¬ (l.members.l.length : Int) > 8 := by omega
    have c4' : ¬ 8 < (l.members.l.length : Int) := by omega
    (repeat' (first | simp (maxSteps := 2000000) -implicitDefEqProofs only [A_roster_Right, c1, c2, c2', c3, c4, c4', Int.reduceBNe, Int.reduceBEq, rk_ext, fk_ext, len_ints, idx_ints, cells_ints, lr_ros, lr, lr2, oO, oN, oG, oNG, oM, oF, oL, rg, ci, Nat.reduceEqDiff, Nat.reduceAdd, Nat.reduceSub, Int.reduceTDiv, Int.reduceTMod, ge_iff_le, Int.reduceGE, Nat.reducePow, Int.reduceEq, Int.reduceNeg, Int.reduceLE, Int.reducePow, Int.reduceLT, Int.reduceSub, Int.reduceAdd, Int.reduceMul, Int.reduceToNat, Option.map_some, ↓reduceIte, ite_not, beq_iff_eq, bne_iff_ne, ne_eq, beq_self_eq_true, beq_eq_false_iff_ne, bne_eq_false_iff_eq, resAll, resL, resV, reduceCtorEq, Option.some.injEq, exists_eq_left', blkAt, Nat.reduceLeDiff, Nat.reduceMul, eq_self, Nat.reduceLT, undef, fillV, evParts, footOp, wrOp, chk, disj, Nat.reduceBEq] | split))
    refine wk_loop (fun m S H => ∃ i : Nat, i ≤ l.members.l.length ∧ (∀ j, j < i → 0 ≤ l.members.l.getD j 0 ∧ l.members.l.getD j 0 < 8 ∧ (0 < j → l.members.l.getD (j - 1) 0 < l.members.l.getD j 0)) ∧ m = l.members.l.length - i ∧ S = (.dead :: .ref 0 0 :: vb false :: .dead :: .dead :: .dead :: .dead :: .dead :: .dead :: .dead :: .dead :: .dead :: .dead :: .dead :: .dead :: .dead :: .dead :: .dead :: .dead :: .dead :: .dead :: .dead :: .dead :: .dead :: .dead :: .dead :: intsV .i64 l.members :: vi .i64 l.members.l.length :: vi .i64 i :: .dead :: .dead :: .dead :: .dead :: .dead :: .dead :: .dead :: .dead :: .dead :: .dead :: .dead :: .dead :: .dead :: .dead :: .dead :: .dead :: .dead :: .dead :: .dead :: .dead :: .dead :: .dead :: .dead :: .dead :: .dead :: []) ∧ H = [some (cRos l)]) (l.members.l.length) ⟨0, Nat.zero_le _, fun j hj => by omega, rfl, rfl, rfl⟩ (by refine .ren _ _ _ [0] (by decide) (by intro k h; first | exact absurd h (Nat.not_lt_zero k) | (simp at h; done) | (match k, h with | 0, _ => rfl)) ?_ ?_ <;> simp [KeepS, KeepH, ArgRel, ArgRelL, argL_cl, arg_cl, row_l_of, row_l_nil, bn_len, blkAt]) ?_
    rintro m S H ⟨i, hi, hP, rfl, rfl, rfl⟩ J hJ
    have d0 : (0 : Int) ≤ i := by omega
    by_cases hin : i < l.members.l.length
    · have d1 : (i : Int) < l.members.l.length := by omega
      have w1 : IntKind.i64.wrap ((i : Int) + 1) = ((i + 1 : Nat) : Int) := by rw [wrap_id _ (by omega) (by omega)]; omega
      have g1 := rd_intsD .i64 l.members.l i hin
      obtain ⟨x, hx⟩ : ∃ x, x = l.members.l.getD i 0 := ⟨_, rfl⟩
      rw [← hx] at g1
      have bad : ¬ (0 ≤ x ∧ x < 8 ∧ (0 < i → l.members.l.getD (i - 1) 0 < x)) → ¬ RosP l := fun hb hr => hb (by rw [hx]; exact hr.2.2.2.2 i hin)
      have good : (0 ≤ x ∧ x < 8 ∧ (0 < i → l.members.l.getD (i - 1) 0 < x)) → ∀ j, j < i + 1 → 0 ≤ l.members.l.getD j 0 ∧ l.members.l.getD j 0 < 8 ∧ (0 < j → l.members.l.getD (j - 1) 0 < l.members.l.getD j 0) := fun hg j hj => by
        by_cases hji : j = i
        · subst hji; rw [← hx]; exact hg
        · exact hP j (by omega)
      by_cases x0 : x < 0
      · (repeat' (first | simp (maxSteps := 2000000) -implicitDefEqProofs only [A_roster_Right_L0, d0, d1, w1, g1, x0, Int.reduceBNe, Int.reduceBEq, rk_ext, fk_ext, len_ints, idx_ints, cells_ints, lr_ros, lr, lr2, oO, oN, oG, oNG, oM, oF, oL, rg, ci, Nat.reduceEqDiff, Nat.reduceAdd, Nat.reduceSub, Int.reduceTDiv, Int.reduceTMod, ge_iff_le, Int.reduceGE, Nat.reducePow, Int.reduceEq, Int.reduceNeg, Int.reduceLE, Int.reducePow, Int.reduceLT, Int.reduceSub, Int.reduceAdd, Int.reduceMul, Int.reduceToNat, Option.map_some, ↓reduceIte, ite_not, beq_iff_eq, bne_iff_ne, ne_eq, beq_self_eq_true, beq_eq_false_iff_ne, bne_eq_false_iff_eq, resAll, resL, resV, reduceCtorEq, Option.some.injEq, exists_eq_left', blkAt, Nat.reduceLeDiff, Nat.reduceMul, eq_self, Nat.reduceLT, undef, fillV, evParts, footOp, wrOp, chk, disj, Nat.reduceBEq] | split))
        exact out_vb (Eq.symm (decide_eq_false (bad fun h => by omega)))
      by_cases x8 : x ≥ 8
      · have x8' : 8 ≤ x := x8
        (repeat' (first | simp (maxSteps := 2000000) -implicitDefEqProofs only [A_roster_Right_L0, d0, d1, w1, g1, x0, x8, x8', Int.reduceBNe, Int.reduceBEq, rk_ext, fk_ext, len_ints, idx_ints, cells_ints, lr_ros, lr, lr2, oO, oN, oG, oNG, oM, oF, oL, rg, ci, Nat.reduceEqDiff, Nat.reduceAdd, Nat.reduceSub, Int.reduceTDiv, Int.reduceTMod, ge_iff_le, Int.reduceGE, Nat.reducePow, Int.reduceEq, Int.reduceNeg, Int.reduceLE, Int.reducePow, Int.reduceLT, Int.reduceSub, Int.reduceAdd, Int.reduceMul, Int.reduceToNat, Option.map_some, ↓reduceIte, ite_not, beq_iff_eq, bne_iff_ne, ne_eq, beq_self_eq_true, beq_eq_false_iff_ne, bne_eq_false_iff_eq, resAll, resL, resV, reduceCtorEq, Option.some.injEq, exists_eq_left', blkAt, Nat.reduceLeDiff, Nat.reduceMul, eq_self, Nat.reduceLT, undef, fillV, evParts, footOp, wrOp, chk, disj, Nat.reduceBEq] | split))
        exact out_vb (Eq.symm (decide_eq_false (bad fun h => by omega)))
      have x8' : ¬ 8 ≤ x := x8
      by_cases i0 : i = 0
      · have d2 : ¬ (i : Int) > 0 := by omega
        have d2' : ¬ 0 < (i : Int) := by omega
        (repeat' (first | simp (maxSteps := 2000000) -implicitDefEqProofs only [A_roster_Right_L0, d0, d1, w1, g1, x0, x8', d2, d2', Int.reduceBNe, Int.reduceBEq, rk_ext, fk_ext, len_ints, idx_ints, cells_ints, lr_ros, lr, lr2, oO, oN, oG, oNG, oM, oF, oL, rg, ci, Nat.reduceEqDiff, Nat.reduceAdd, Nat.reduceSub, Int.reduceTDiv, Int.reduceTMod, ge_iff_le, Int.reduceGE, Nat.reducePow, Int.reduceEq, Int.reduceNeg, Int.reduceLE, Int.reducePow, Int.reduceLT, Int.reduceSub, Int.reduceAdd, Int.reduceMul, Int.reduceToNat, Option.map_some, ↓reduceIte, ite_not, beq_iff_eq, bne_iff_ne, ne_eq, beq_self_eq_true, beq_eq_false_iff_ne, bne_eq_false_iff_eq, resAll, resL, resV, reduceCtorEq, Option.some.injEq, exists_eq_left', blkAt, Nat.reduceLeDiff, Nat.reduceMul, eq_self, Nat.reduceLT, undef, fillV, evParts, footOp, wrOp, chk, disj, Nat.reduceBEq] | split))
        exact hJ _ _ _ _ _ (by omega) ⟨i + 1, by omega, good ⟨by omega, by omega, fun h => by omega⟩, rfl, rfl, rfl⟩ (by refine .ren _ _ _ [0] (by decide) (by intro k h; first | exact absurd h (Nat.not_lt_zero k) | (simp at h; done) | (match k, h with | 0, _ => rfl)) ?_ ?_ <;> simp [KeepS, KeepH, ArgRel, ArgRelL, argL_cl, arg_cl, row_l_of, row_l_nil, bn_len, blkAt])
      · have d2 : (i : Int) > 0 := by omega
        have d2' : 0 < (i : Int) := by omega
        have w2 : IntKind.i64.wrap ((i : Int) - 1) = ((i - 1 : Nat) : Int) := by rw [wrap_id _ (by omega) (by omega)]; omega
        have d3 : (0 : Int) ≤ ((i - 1 : Nat) : Int) := by omega
        have d4 : ((i - 1 : Nat) : Int) < l.members.l.length := by omega
        have g2 := rd_intsD .i64 l.members.l (i - 1) (by omega)
        obtain ⟨y, hy⟩ : ∃ y, y = l.members.l.getD (i - 1) 0 := ⟨_, rfl⟩
        rw [← hy] at g2 bad good
        by_cases hxy : x ≤ y
        · (repeat' (first | simp (maxSteps := 2000000) -implicitDefEqProofs only [A_roster_Right_L0, d0, d1, w1, g1, x0, x8', d2, d2', w2, d3, d4, g2, hxy, Int.reduceBNe, Int.reduceBEq, rk_ext, fk_ext, len_ints, idx_ints, cells_ints, lr_ros, lr, lr2, oO, oN, oG, oNG, oM, oF, oL, rg, ci, Nat.reduceEqDiff, Nat.reduceAdd, Nat.reduceSub, Int.reduceTDiv, Int.reduceTMod, ge_iff_le, Int.reduceGE, Nat.reducePow, Int.reduceEq, Int.reduceNeg, Int.reduceLE, Int.reducePow, Int.reduceLT, Int.reduceSub, Int.reduceAdd, Int.reduceMul, Int.reduceToNat, Option.map_some, ↓reduceIte, ite_not, beq_iff_eq, bne_iff_ne, ne_eq, beq_self_eq_true, beq_eq_false_iff_ne, bne_eq_false_iff_eq, resAll, resL, resV, reduceCtorEq, Option.some.injEq, exists_eq_left', blkAt, Nat.reduceLeDiff, Nat.reduceMul, eq_self, Nat.reduceLT, undef, fillV, evParts, footOp, wrOp, chk, disj, Nat.reduceBEq] | split))
          exact out_vb (Eq.symm (decide_eq_false (bad fun h => by have := h.2.2 (by omega); omega)))
        · (repeat' (first | simp (maxSteps := 2000000) -implicitDefEqProofs only [A_roster_Right_L0, d0, d1, w1, g1, x0, x8', d2, d2', w2, d3, d4, g2, hxy, Int.reduceBNe, Int.reduceBEq, rk_ext, fk_ext, len_ints, idx_ints, cells_ints, lr_ros, lr, lr2, oO, oN, oG, oNG, oM, oF, oL, rg, ci, Nat.reduceEqDiff, Nat.reduceAdd, Nat.reduceSub, Int.reduceTDiv, Int.reduceTMod, ge_iff_le, Int.reduceGE, Nat.reducePow, Int.reduceEq, Int.reduceNeg, Int.reduceLE, Int.reducePow, Int.reduceLT, Int.reduceSub, Int.reduceAdd, Int.reduceMul, Int.reduceToNat, Option.map_some, ↓reduceIte, ite_not, beq_iff_eq, bne_iff_ne, ne_eq, beq_self_eq_true, beq_eq_false_iff_ne, bne_eq_false_iff_eq, resAll, resL, resV, reduceCtorEq, Option.some.injEq, exists_eq_left', blkAt, Nat.reduceLeDiff, Nat.reduceMul, eq_self, Nat.reduceLT, undef, fillV, evParts, footOp, wrOp, chk, disj, Nat.reduceBEq] | split))
          exact hJ _ _ _ _ _ (by omega) ⟨i + 1, by omega, good ⟨by omega, by omega, fun h => by omega⟩, rfl, rfl, rfl⟩ (by refine .ren _ _ _ [0] (by decide) (by intro k h; first | exact absurd h (Nat.not_lt_zero k) | (simp at h; done) | (match k, h with | 0, _ => rfl)) ?_ ?_ <;> simp [KeepS, KeepH, ArgRel, ArgRelL, argL_cl, arg_cl, row_l_of, row_l_nil, bn_len, blkAt])
    · obtain rfl : i = l.members.l.length := by omega
      have d1 : ¬ ((l.members.l.length : Nat) : Int) < l.members.l.length := by omega
      (repeat' (first | simp (maxSteps := 2000000) -implicitDefEqProofs only [A_roster_Right_L0, K_roster_Right_L0, d1, Int.reduceBNe, Int.reduceBEq, rk_ext, fk_ext, len_ints, idx_ints, cells_ints, lr_ros, lr, lr2, oO, oN, oG, oNG, oM, oF, oL, rg, ci, Nat.reduceEqDiff, Nat.reduceAdd, Nat.reduceSub, Int.reduceTDiv, Int.reduceTMod, ge_iff_le, Int.reduceGE, Nat.reducePow, Int.reduceEq, Int.reduceNeg, Int.reduceLE, Int.reducePow, Int.reduceLT, Int.reduceSub, Int.reduceAdd, Int.reduceMul, Int.reduceToNat, Option.map_some, ↓reduceIte, ite_not, beq_iff_eq, bne_iff_ne, ne_eq, beq_self_eq_true, beq_eq_false_iff_ne, bne_eq_false_iff_eq, resAll, resL, resV, reduceCtorEq, Option.some.injEq, exists_eq_left', blkAt, Nat.reduceLeDiff, Nat.reduceMul, eq_self, Nat.reduceLT, undef, fillV, evParts, footOp, wrOp, chk, disj, Nat.reduceBEq] | split))
      exact out_vb (Eq.symm (decide_eq_true ⟨h1, h2, h3, h4, hP⟩))
  · rw [decide_eq_false (fun h => hh ⟨h.1, h.2.1, h.2.2.1, h.2.2.2.1⟩)]
    by_cases c1 : l.version < 1
    · (repeat' (first | simp (maxSteps := 2000000) -implicitDefEqProofs only [A_roster_Right, c1, Int.reduceBNe, Int.reduceBEq, rk_ext, fk_ext, len_ints, idx_ints, cells_ints, lr_ros, lr, lr2, oO, oN, oG, oNG, oM, oF, oL, rg, ci, Nat.reduceEqDiff, Nat.reduceAdd, Nat.reduceSub, Int.reduceTDiv, Int.reduceTMod, ge_iff_le, Int.reduceGE, Nat.reducePow, Int.reduceEq, Int.reduceNeg, Int.reduceLE, Int.reducePow, Int.reduceLT, Int.reduceSub, Int.reduceAdd, Int.reduceMul, Int.reduceToNat, Option.map_some, ↓reduceIte, ite_not, beq_iff_eq, bne_iff_ne, ne_eq, beq_self_eq_true, beq_eq_false_iff_ne, bne_eq_false_iff_eq, resAll, resL, resV, reduceCtorEq, Option.some.injEq, exists_eq_left', blkAt, Nat.reduceLeDiff, Nat.reduceMul, eq_self, Nat.reduceLT, undef, fillV, evParts, footOp, wrOp, chk, disj, Nat.reduceBEq] | split))
      all_goals (refine out_eq rfl cl)
    by_cases c2 : 1099511627776 < l.version
    · (repeat' (first | simp (maxSteps := 2000000) -implicitDefEqProofs only [A_roster_Right, c1, c2, Int.reduceBNe, Int.reduceBEq, rk_ext, fk_ext, len_ints, idx_ints, cells_ints, lr_ros, lr, lr2, oO, oN, oG, oNG, oM, oF, oL, rg, ci, Nat.reduceEqDiff, Nat.reduceAdd, Nat.reduceSub, Int.reduceTDiv, Int.reduceTMod, ge_iff_le, Int.reduceGE, Nat.reducePow, Int.reduceEq, Int.reduceNeg, Int.reduceLE, Int.reducePow, Int.reduceLT, Int.reduceSub, Int.reduceAdd, Int.reduceMul, Int.reduceToNat, Option.map_some, ↓reduceIte, ite_not, beq_iff_eq, bne_iff_ne, ne_eq, beq_self_eq_true, beq_eq_false_iff_ne, bne_eq_false_iff_eq, resAll, resL, resV, reduceCtorEq, Option.some.injEq, exists_eq_left', blkAt, Nat.reduceLeDiff, Nat.reduceMul, eq_self, Nat.reduceLT, undef, fillV, evParts, footOp, wrOp, chk, disj, Nat.reduceBEq] | split))
      all_goals (refine out_eq rfl cl)
    by_cases c3 : (l.members.l.length : Int) < 1
    · (repeat' (first | simp (maxSteps := 2000000) -implicitDefEqProofs only [A_roster_Right, c1, c2, c3, Int.reduceBNe, Int.reduceBEq, rk_ext, fk_ext, len_ints, idx_ints, cells_ints, lr_ros, lr, lr2, oO, oN, oG, oNG, oM, oF, oL, rg, ci, Nat.reduceEqDiff, Nat.reduceAdd, Nat.reduceSub, Int.reduceTDiv, Int.reduceTMod, ge_iff_le, Int.reduceGE, Nat.reducePow, Int.reduceEq, Int.reduceNeg, Int.reduceLE, Int.reducePow, Int.reduceLT, Int.reduceSub, Int.reduceAdd, Int.reduceMul, Int.reduceToNat, Option.map_some, ↓reduceIte, ite_not, beq_iff_eq, bne_iff_ne, ne_eq, beq_self_eq_true, beq_eq_false_iff_ne, bne_eq_false_iff_eq, resAll, resL, resV, reduceCtorEq, Option.some.injEq, exists_eq_left', blkAt, Nat.reduceLeDiff, Nat.reduceMul, eq_self, Nat.reduceLT, undef, fillV, evParts, footOp, wrOp, chk, disj, Nat.reduceBEq] | split))
      all_goals (refine out_eq rfl cl)
    · have c4 : 8 < (l.members.l.length : Int) := by omega
      (repeat' (first | simp (maxSteps := 2000000) -implicitDefEqProofs only [A_roster_Right, c1, c2, c3, c4, Int.reduceBNe, Int.reduceBEq, rk_ext, fk_ext, len_ints, idx_ints, cells_ints, lr_ros, lr, lr2, oO, oN, oG, oNG, oM, oF, oL, rg, ci, Nat.reduceEqDiff, Nat.reduceAdd, Nat.reduceSub, Int.reduceTDiv, Int.reduceTMod, ge_iff_le, Int.reduceGE, Nat.reducePow, Int.reduceEq, Int.reduceNeg, Int.reduceLE, Int.reducePow, Int.reduceLT, Int.reduceSub, Int.reduceAdd, Int.reduceMul, Int.reduceToNat, Option.map_some, ↓reduceIte, ite_not, beq_iff_eq, bne_iff_ne, ne_eq, beq_self_eq_true, beq_eq_false_iff_ne, bne_eq_false_iff_eq, resAll, resL, resV, reduceCtorEq, Option.some.injEq, exists_eq_left', blkAt, Nat.reduceLeDiff, Nat.reduceMul, eq_self, Nat.reduceLT, undef, fillV, evParts, footOp, wrOp, chk, disj, Nat.reduceBEq] | split))
      all_goals (refine out_eq rfl cl)
def sameL (a b : Ros) : Prop := a.version = b.version ∧ a.members.l = b.members.l
instance (a b : Ros) : Decidable (sameL a b) := by unfold sameL; infer_instance
theorem sameL_C (a b : Ros) (h : a.members.l.length ≤ 9223372036854775807) : C Try.prog 83 [.agg (cRos a), .agg (cRos b)] [] (vb (decide (sameL a b))) [] := by
  refine C_of mixed Try.func83 A_roster_Same_ok A_roster_Same_res _ A_roster_Same_nt ?_
  (repeat' (first | simp (maxSteps := 2000000) -implicitDefEqProofs only [A_roster_Same, Int.reduceBNe, Int.reduceBEq, rk_ext, fk_ext, len_ints, idx_ints, cells_ints, lr_ros, lr, lr2, oO, oN, oG, oNG, oM, oF, oL, rg, ci, Nat.reduceEqDiff, Nat.reduceAdd, Nat.reduceSub, Int.reduceTDiv, Int.reduceTMod, ge_iff_le, Int.reduceGE, Nat.reducePow, Int.reduceEq, Int.reduceNeg, Int.reduceLE, Int.reducePow, Int.reduceLT, Int.reduceSub, Int.reduceAdd, Int.reduceMul, Int.reduceToNat, Option.map_some, ↓reduceIte, ite_not, beq_iff_eq, bne_iff_ne, ne_eq, beq_self_eq_true, beq_eq_false_iff_ne, bne_eq_false_iff_eq, resAll, resL, resV, reduceCtorEq, Option.some.injEq, exists_eq_left', blkAt, Nat.reduceLeDiff, Nat.reduceMul, eq_self, Nat.reduceLT, undef, fillV, evParts, footOp, wrOp, chk, disj, Nat.reduceBEq] | split | ((first | apply ck_call | apply cfk_call); (first | (apply call_pure (equalI_C a.members b.members h) cll cl)))))
  all_goals (refine out_eq ?_ cl; simp_all [sameL])
def hasL (l : Ros) (m : Int) : Prop := RosP l ∧ m ∈ l.members.l
instance (l : Ros) (m : Int) : Decidable (hasL l m) := by unfold hasL; infer_instance
theorem hasL_C (l : Ros) (m : Int) (h : l.members.l.length ≤ 9223372036854775807) : C Try.prog 80 [.agg (cRos l), vi .i64 m] [] (vb (decide (hasL l m))) [] := by
  refine C_of mixed Try.func80 A_roster_Has_ok A_roster_Has_res _ A_roster_Has_nt ?_
  (repeat' (first | simp (maxSteps := 2000000) -implicitDefEqProofs only [A_roster_Has, Int.reduceBNe, Int.reduceBEq, rk_ext, fk_ext, len_ints, idx_ints, cells_ints, lr_ros, lr, lr2, oO, oN, oG, oNG, oM, oF, oL, rg, ci, Nat.reduceEqDiff, Nat.reduceAdd, Nat.reduceSub, Int.reduceTDiv, Int.reduceTMod, ge_iff_le, Int.reduceGE, Nat.reducePow, Int.reduceEq, Int.reduceNeg, Int.reduceLE, Int.reducePow, Int.reduceLT, Int.reduceSub, Int.reduceAdd, Int.reduceMul, Int.reduceToNat, Option.map_some, ↓reduceIte, ite_not, beq_iff_eq, bne_iff_ne, ne_eq, beq_self_eq_true, beq_eq_false_iff_ne, bne_eq_false_iff_eq, resAll, resL, resV, reduceCtorEq, Option.some.injEq, exists_eq_left', blkAt, Nat.reduceLeDiff, Nat.reduceMul, eq_self, Nat.reduceLT, undef, fillV, evParts, footOp, wrOp, chk, disj, Nat.reduceBEq] | split | ((first | apply ck_call | apply cfk_call); (first | (apply call_pure (rightL_C l) cll cl) | (apply call_pure (containsI_C l.members m h) cll cl)))))
  all_goals (refine out_eq ?_ cl; simp_all [hasL])
def majL (l : Ros) : Int := if RosP l then (l.members.l.length : Int) / 2 + 1 else 0
theorem majL_C (l : Ros) : C Try.prog 75 [.agg (cRos l)] [] (vi .i64 (majL l)) [] := by
  refine C_of mixed Try.func75 A_roster_Majority_ok A_roster_Majority_res _ A_roster_Majority_nt ?_
  by_cases h : RosP l
  · have h8 := h.2.2.2.1
    have e : ((l.members.l.length : Int)).tdiv 2 = (l.members.l.length : Int) / 2 := Int.tdiv_eq_ediv_of_nonneg (by omega)
    have w1 : IntKind.i64.wrap ((l.members.l.length : Int) / 2) = (l.members.l.length : Int) / 2 := wrap_id _ (by omega) (by omega)
    have w2 : IntKind.i64.wrap ((l.members.l.length : Int) / 2 + 1) = (l.members.l.length : Int) / 2 + 1 := wrap_id _ (by omega) (by omega)
    have q : evBin .quo (.sc (.int .i64 (l.members.l.length : Int))) (.sc (.int .i64 2)) = some (.sc (.int .i64 ((l.members.l.length : Int) / 2))) := by
      rw [bin_quo _ _ _ (by decide), e, w1]
    rw [majL, if_pos h]
    (repeat' (first | simp (maxSteps := 2000000) -implicitDefEqProofs only [A_roster_Majority, h, q, w2, Int.reduceBNe, Int.reduceBEq, rk_ext, fk_ext, len_ints, idx_ints, cells_ints, lr_ros, lr, lr2, oO, oN, oG, oNG, oM, oF, oL, rg, ci, Nat.reduceEqDiff, Nat.reduceAdd, Nat.reduceSub, Int.reduceTDiv, Int.reduceTMod, ge_iff_le, Int.reduceGE, Nat.reducePow, Int.reduceEq, Int.reduceNeg, Int.reduceLE, Int.reducePow, Int.reduceLT, Int.reduceSub, Int.reduceAdd, Int.reduceMul, Int.reduceToNat, Option.map_some, ↓reduceIte, ite_not, beq_iff_eq, bne_iff_ne, ne_eq, beq_self_eq_true, beq_eq_false_iff_ne, bne_eq_false_iff_eq, resAll, resL, resV, reduceCtorEq, Option.some.injEq, exists_eq_left', blkAt, Nat.reduceLeDiff, Nat.reduceMul, eq_self, Nat.reduceLT, undef, fillV, evParts, footOp, wrOp, chk, disj, Nat.reduceBEq] | split | ((first | apply ck_call | apply cfk_call); (first | (apply call_pure (rightL_C l) cll cl)))))
    all_goals (refine out_eq rfl cl)
  · rw [majL, if_neg h]
    (repeat' (first | simp (maxSteps := 2000000) -implicitDefEqProofs only [A_roster_Majority, h, Int.reduceBNe, Int.reduceBEq, rk_ext, fk_ext, len_ints, idx_ints, cells_ints, lr_ros, lr, lr2, oO, oN, oG, oNG, oM, oF, oL, rg, ci, Nat.reduceEqDiff, Nat.reduceAdd, Nat.reduceSub, Int.reduceTDiv, Int.reduceTMod, ge_iff_le, Int.reduceGE, Nat.reducePow, Int.reduceEq, Int.reduceNeg, Int.reduceLE, Int.reducePow, Int.reduceLT, Int.reduceSub, Int.reduceAdd, Int.reduceMul, Int.reduceToNat, Option.map_some, ↓reduceIte, ite_not, beq_iff_eq, bne_iff_ne, ne_eq, beq_self_eq_true, beq_eq_false_iff_ne, bne_eq_false_iff_eq, resAll, resL, resV, reduceCtorEq, Option.some.injEq, exists_eq_left', blkAt, Nat.reduceLeDiff, Nat.reduceMul, eq_self, Nat.reduceLT, undef, fillV, evParts, footOp, wrOp, chk, disj, Nat.reduceBEq] | split | ((first | apply ck_call | apply cfk_call); (first | (apply call_pure (rightL_C l) cll cl)))))
    all_goals (refine out_eq rfl cl)
def diffN (a b : Ros) (n : Nat) : Nat := ((List.range n).filter fun (m : Nat) => decide (hasL a m) != decide (hasL b m)).length
theorem diffN_S (a b : Ros) (n : Nat) : diffN a b (n + 1) = diffN a b n + (if (decide (hasL a n) != decide (hasL b n)) = true then 1 else 0) := by
  unfold diffN
  rw [List.range_succ, List.filter_append, List.length_append]
  congr 1
  by_cases h : (decide (hasL a n) != decide (hasL b n)) = true
  · rw [if_pos h]; simp [h]
  · rw [if_neg h]; simp [h]
theorem diffN_0 (a b : Ros) : diffN a b 0 = 0 := rfl
theorem diffN_le (a b : Ros) (n : Nat) : diffN a b n ≤ n := by
  unfold diffN
  exact Nat.le_trans (List.length_filter_le _ _) (by simp)
def folL (a b : Ros) : Prop := RosP a ∧ RosP b ∧ b.version = a.version + 1 ∧ diffN a b 8 = 1
instance (a b : Ros) : Decidable (folL a b) := by unfold folL; infer_instance
set_option maxHeartbeats 4000000 in
theorem folL_C (a b : Ros) (ha : a.members.l.length ≤ 9223372036854775807) (hb : b.members.l.length ≤ 9223372036854775807) : C Try.prog 79 [.agg (cRos a), .agg (cRos b)] [] (vb (decide (folL a b))) [] := by
  refine C_of mixed Try.func79 A_roster_Follows_ok A_roster_Follows_res _ A_roster_Follows_nt ?_
  by_cases h1 : RosP a
  rotate_left
  · rw [decide_eq_false (fun h => h1 h.1)]
    (repeat' (first | simp (maxSteps := 2000000) -implicitDefEqProofs only [A_roster_Follows, h1, Int.reduceBNe, Int.reduceBEq, rk_ext, fk_ext, len_ints, idx_ints, cells_ints, lr_ros, lr, lr2, oO, oN, oG, oNG, oM, oF, oL, rg, ci, Nat.reduceEqDiff, Nat.reduceAdd, Nat.reduceSub, Int.reduceTDiv, Int.reduceTMod, ge_iff_le, Int.reduceGE, Nat.reducePow, Int.reduceEq, Int.reduceNeg, Int.reduceLE, Int.reducePow, Int.reduceLT, Int.reduceSub, Int.reduceAdd, Int.reduceMul, Int.reduceToNat, Option.map_some, ↓reduceIte, ite_not, beq_iff_eq, bne_iff_ne, ne_eq, beq_self_eq_true, beq_eq_false_iff_ne, bne_eq_false_iff_eq, resAll, resL, resV, reduceCtorEq, Option.some.injEq, exists_eq_left', blkAt, Nat.reduceLeDiff, Nat.reduceMul, eq_self, Nat.reduceLT, undef, fillV, evParts, footOp, wrOp, chk, disj, Nat.reduceBEq] | split | ((first | apply ck_call | apply cfk_call); (first | (apply call_pure (rightL_C a) cll cl)))))
    all_goals (refine out_eq rfl cl)
  by_cases h2 : RosP b
  rotate_left
  · rw [decide_eq_false (fun h => h2 h.2.1)]
    (repeat' (first | simp (maxSteps := 2000000) -implicitDefEqProofs only [A_roster_Follows, h1, h2, Int.reduceBNe, Int.reduceBEq, rk_ext, fk_ext, len_ints, idx_ints, cells_ints, lr_ros, lr, lr2, oO, oN, oG, oNG, oM, oF, oL, rg, ci, Nat.reduceEqDiff, Nat.reduceAdd, Nat.reduceSub, Int.reduceTDiv, Int.reduceTMod, ge_iff_le, Int.reduceGE, Nat.reducePow, Int.reduceEq, Int.reduceNeg, Int.reduceLE, Int.reducePow, Int.reduceLT, Int.reduceSub, Int.reduceAdd, Int.reduceMul, Int.reduceToNat, Option.map_some, ↓reduceIte, ite_not, beq_iff_eq, bne_iff_ne, ne_eq, beq_self_eq_true, beq_eq_false_iff_ne, bne_eq_false_iff_eq, resAll, resL, resV, reduceCtorEq, Option.some.injEq, exists_eq_left', blkAt, Nat.reduceLeDiff, Nat.reduceMul, eq_self, Nat.reduceLT, undef, fillV, evParts, footOp, wrOp, chk, disj, Nat.reduceBEq] | split | ((first | apply ck_call | apply cfk_call); (first | (apply call_pure (rightL_C a) cll cl) | (apply call_pure (rightL_C b) cll cl)))))
    all_goals (refine out_eq rfl cl)
  have hv1 := h1.1
  have hv2 := h1.2.1
  have wv : IntKind.u64.wrap (a.version + 1) = a.version + 1 := IntWalk.u64_in _ ⟨by omega, by omega⟩
  by_cases h3 : b.version = a.version + 1
  rotate_left
  · rw [decide_eq_false (fun h => h3 h.2.2.1)]
    (repeat' (first | simp (maxSteps := 2000000) -implicitDefEqProofs only [A_roster_Follows, h1, h2, h3, wv, Int.reduceBNe, Int.reduceBEq, rk_ext, fk_ext, len_ints, idx_ints, cells_ints, lr_ros, lr, lr2, oO, oN, oG, oNG, oM, oF, oL, rg, ci, Nat.reduceEqDiff, Nat.reduceAdd, Nat.reduceSub, Int.reduceTDiv, Int.reduceTMod, ge_iff_le, Int.reduceGE, Nat.reducePow, Int.reduceEq, Int.reduceNeg, Int.reduceLE, Int.reducePow, Int.reduceLT, Int.reduceSub, Int.reduceAdd, Int.reduceMul, Int.reduceToNat, Option.map_some, ↓reduceIte, ite_not, beq_iff_eq, bne_iff_ne, ne_eq, beq_self_eq_true, beq_eq_false_iff_ne, bne_eq_false_iff_eq, resAll, resL, resV, reduceCtorEq, Option.some.injEq, exists_eq_left', blkAt, Nat.reduceLeDiff, Nat.reduceMul, eq_self, Nat.reduceLT, undef, fillV, evParts, footOp, wrOp, chk, disj, Nat.reduceBEq] | split | ((first | apply ck_call | apply cfk_call); (first | (apply call_pure (rightL_C a) cll cl) | (apply call_pure (rightL_C b) cll cl)))))
    all_goals (refine out_eq rfl cl)
  (repeat' (first | simp (maxSteps := 2000000) -implicitDefEqProofs only [A_roster_Follows, h1, h2, h3, wv, Int.reduceBNe, Int.reduceBEq, rk_ext, fk_ext, len_ints, idx_ints, cells_ints, lr_ros, lr, lr2, oO, oN, oG, oNG, oM, oF, oL, rg, ci, Nat.reduceEqDiff, Nat.reduceAdd, Nat.reduceSub, Int.reduceTDiv, Int.reduceTMod, ge_iff_le, Int.reduceGE, Nat.reducePow, Int.reduceEq, Int.reduceNeg, Int.reduceLE, Int.reducePow, Int.reduceLT, Int.reduceSub, Int.reduceAdd, Int.reduceMul, Int.reduceToNat, Option.map_some, ↓reduceIte, ite_not, beq_iff_eq, bne_iff_ne, ne_eq, beq_self_eq_true, beq_eq_false_iff_ne, bne_eq_false_iff_eq, resAll, resL, resV, reduceCtorEq, Option.some.injEq, exists_eq_left', blkAt, Nat.reduceLeDiff, Nat.reduceMul, eq_self, Nat.reduceLT, undef, fillV, evParts, footOp, wrOp, chk, disj, Nat.reduceBEq] | split | ((first | apply ck_call | apply cfk_call); (first | (apply call_pure (rightL_C a) cll cl) | (apply call_pure (rightL_C b) cll cl)))))
  refine wk_loop (fun m S H => ∃ i : Nat, i ≤ 8 ∧ m = 8 - i ∧ S = (.dead :: .dead :: .ref 0 0 :: .ref 1 0 :: vb false :: vi .i64 (diffN a b i : Int) :: .dead :: .dead :: .dead :: .dead :: .dead :: .dead :: .dead :: .dead :: .dead :: .dead :: .dead :: .dead :: .dead :: .dead :: .dead :: .dead :: .dead :: vi .i64 i :: .dead :: .dead :: .dead :: .dead :: .dead :: .dead :: .dead :: .dead :: .dead :: .dead :: .dead :: .dead :: .dead :: .dead :: []) ∧ H = [some (cRos a), some (cRos b)]) (8) ⟨0, Nat.zero_le _, rfl, rfl, rfl⟩ (by refine .ren _ _ _ [0, 1] (by decide) (by intro k h; first | exact absurd h (Nat.not_lt_zero k) | (simp at h; done) | (match k, h with | 0, _ => rfl)) ?_ ?_ <;> simp [KeepS, KeepH, ArgRel, ArgRelL, argL_cl, arg_cl, row_l_of, row_l_nil, bn_len, blkAt, diffN_0]) ?_
  rintro m S H ⟨i, hi, rfl, rfl, rfl⟩ J hJ
  have d0 : (0 : Int) ≤ i := by omega
  by_cases hin : i < 8
  · have d1 : (i : Int) < 8 := by omega
    have w1 : IntKind.i64.wrap ((i : Int) + 1) = ((i + 1 : Nat) : Int) := by rw [wrap_id _ (by omega) (by omega)]; omega
    have hd := diffN_S a b i
    have hle := diffN_le a b i
    have w2 : IntKind.i64.wrap ((diffN a b i : Int) + 1) = ((diffN a b i + 1 : Nat) : Int) := by rw [wrap_id _ (by omega) (by omega)]; omega
    have k1 := hasL_C a i ha
    have k2 := hasL_C b i hb
    generalize decide (hasL a (i : Int)) = x at *
    generalize decide (hasL b (i : Int)) = y at *
    cases x <;> cases y
    all_goals simp only [bne_self_eq_false, Bool.false_eq_true, if_false, if_true, Nat.add_zero, Bool.bne_false, Bool.bne_true, Bool.not_false, Bool.not_true] at hd
    · (repeat' (first | simp (maxSteps := 2000000) -implicitDefEqProofs only [A_roster_Follows_L0, d1, w1, w2, Int.reduceBNe, Int.reduceBEq, rk_ext, fk_ext, len_ints, idx_ints, cells_ints, lr_ros, lr, lr2, oO, oN, oG, oNG, oM, oF, oL, rg, ci, Nat.reduceEqDiff, Nat.reduceAdd, Nat.reduceSub, Int.reduceTDiv, Int.reduceTMod, ge_iff_le, Int.reduceGE, Nat.reducePow, Int.reduceEq, Int.reduceNeg, Int.reduceLE, Int.reducePow, Int.reduceLT, Int.reduceSub, Int.reduceAdd, Int.reduceMul, Int.reduceToNat, Option.map_some, ↓reduceIte, ite_not, beq_iff_eq, bne_iff_ne, ne_eq, beq_self_eq_true, beq_eq_false_iff_ne, bne_eq_false_iff_eq, resAll, resL, resV, reduceCtorEq, Option.some.injEq, exists_eq_left', blkAt, Nat.reduceLeDiff, Nat.reduceMul, eq_self, Nat.reduceLT, undef, fillV, evParts, footOp, wrOp, chk, disj, Nat.reduceBEq] | split | ((first | apply ck_call | apply cfk_call); (first | (apply call_pure (k1) cll cl) | (apply call_pure (k2) cll cl)))))
      exact hJ _ _ _ _ _ (by omega) ⟨i + 1, by omega, rfl, rfl, rfl⟩ (by refine .ren _ _ _ [0, 1] (by decide) (by intro k h; first | exact absurd h (Nat.not_lt_zero k) | (simp at h; done) | (match k, h with | 0, _ => rfl)) ?_ ?_ <;> simp [KeepS, KeepH, ArgRel, ArgRelL, argL_cl, arg_cl, row_l_of, row_l_nil, bn_len, blkAt, hd])
    · (repeat' (first | simp (maxSteps := 2000000) -implicitDefEqProofs only [A_roster_Follows_L0, d1, w1, w2, Int.reduceBNe, Int.reduceBEq, rk_ext, fk_ext, len_ints, idx_ints, cells_ints, lr_ros, lr, lr2, oO, oN, oG, oNG, oM, oF, oL, rg, ci, Nat.reduceEqDiff, Nat.reduceAdd, Nat.reduceSub, Int.reduceTDiv, Int.reduceTMod, ge_iff_le, Int.reduceGE, Nat.reducePow, Int.reduceEq, Int.reduceNeg, Int.reduceLE, Int.reducePow, Int.reduceLT, Int.reduceSub, Int.reduceAdd, Int.reduceMul, Int.reduceToNat, Option.map_some, ↓reduceIte, ite_not, beq_iff_eq, bne_iff_ne, ne_eq, beq_self_eq_true, beq_eq_false_iff_ne, bne_eq_false_iff_eq, resAll, resL, resV, reduceCtorEq, Option.some.injEq, exists_eq_left', blkAt, Nat.reduceLeDiff, Nat.reduceMul, eq_self, Nat.reduceLT, undef, fillV, evParts, footOp, wrOp, chk, disj, Nat.reduceBEq] | split | ((first | apply ck_call | apply cfk_call); (first | (apply call_pure (k1) cll cl) | (apply call_pure (k2) cll cl)))))
      exact hJ _ _ _ _ _ (by omega) ⟨i + 1, by omega, rfl, rfl, rfl⟩ (by refine .ren _ _ _ [0, 1] (by decide) (by intro k h; first | exact absurd h (Nat.not_lt_zero k) | (simp at h; done) | (match k, h with | 0, _ => rfl)) ?_ ?_ <;> simp [KeepS, KeepH, ArgRel, ArgRelL, argL_cl, arg_cl, row_l_of, row_l_nil, bn_len, blkAt, hd])
    · (repeat' (first | simp (maxSteps := 2000000) -implicitDefEqProofs only [A_roster_Follows_L0, d1, w1, w2, Int.reduceBNe, Int.reduceBEq, rk_ext, fk_ext, len_ints, idx_ints, cells_ints, lr_ros, lr, lr2, oO, oN, oG, oNG, oM, oF, oL, rg, ci, Nat.reduceEqDiff, Nat.reduceAdd, Nat.reduceSub, Int.reduceTDiv, Int.reduceTMod, ge_iff_le, Int.reduceGE, Nat.reducePow, Int.reduceEq, Int.reduceNeg, Int.reduceLE, Int.reducePow, Int.reduceLT, Int.reduceSub, Int.reduceAdd, Int.reduceMul, Int.reduceToNat, Option.map_some, ↓reduceIte, ite_not, beq_iff_eq, bne_iff_ne, ne_eq, beq_self_eq_true, beq_eq_false_iff_ne, bne_eq_false_iff_eq, resAll, resL, resV, reduceCtorEq, Option.some.injEq, exists_eq_left', blkAt, Nat.reduceLeDiff, Nat.reduceMul, eq_self, Nat.reduceLT, undef, fillV, evParts, footOp, wrOp, chk, disj, Nat.reduceBEq] | split | ((first | apply ck_call | apply cfk_call); (first | (apply call_pure (k1) cll cl) | (apply call_pure (k2) cll cl)))))
      exact hJ _ _ _ _ _ (by omega) ⟨i + 1, by omega, rfl, rfl, rfl⟩ (by refine .ren _ _ _ [0, 1] (by decide) (by intro k h; first | exact absurd h (Nat.not_lt_zero k) | (simp at h; done) | (match k, h with | 0, _ => rfl)) ?_ ?_ <;> simp [KeepS, KeepH, ArgRel, ArgRelL, argL_cl, arg_cl, row_l_of, row_l_nil, bn_len, blkAt, hd])
    · (repeat' (first | simp (maxSteps := 2000000) -implicitDefEqProofs only [A_roster_Follows_L0, d1, w1, w2, Int.reduceBNe, Int.reduceBEq, rk_ext, fk_ext, len_ints, idx_ints, cells_ints, lr_ros, lr, lr2, oO, oN, oG, oNG, oM, oF, oL, rg, ci, Nat.reduceEqDiff, Nat.reduceAdd, Nat.reduceSub, Int.reduceTDiv, Int.reduceTMod, ge_iff_le, Int.reduceGE, Nat.reducePow, Int.reduceEq, Int.reduceNeg, Int.reduceLE, Int.reducePow, Int.reduceLT, Int.reduceSub, Int.reduceAdd, Int.reduceMul, Int.reduceToNat, Option.map_some, ↓reduceIte, ite_not, beq_iff_eq, bne_iff_ne, ne_eq, beq_self_eq_true, beq_eq_false_iff_ne, bne_eq_false_iff_eq, resAll, resL, resV, reduceCtorEq, Option.some.injEq, exists_eq_left', blkAt, Nat.reduceLeDiff, Nat.reduceMul, eq_self, Nat.reduceLT, undef, fillV, evParts, footOp, wrOp, chk, disj, Nat.reduceBEq] | split | ((first | apply ck_call | apply cfk_call); (first | (apply call_pure (k1) cll cl) | (apply call_pure (k2) cll cl)))))
      exact hJ _ _ _ _ _ (by omega) ⟨i + 1, by omega, rfl, rfl, rfl⟩ (by refine .ren _ _ _ [0, 1] (by decide) (by intro k h; first | exact absurd h (Nat.not_lt_zero k) | (simp at h; done) | (match k, h with | 0, _ => rfl)) ?_ ?_ <;> simp [KeepS, KeepH, ArgRel, ArgRelL, argL_cl, arg_cl, row_l_of, row_l_nil, bn_len, blkAt, hd])
  · obtain rfl : i = 8 := by omega
    (repeat' (first | simp (maxSteps := 2000000) -implicitDefEqProofs only [A_roster_Follows_L0, K_roster_Follows_L0, Int.reduceBNe, Int.reduceBEq, rk_ext, fk_ext, len_ints, idx_ints, cells_ints, lr_ros, lr, lr2, oO, oN, oG, oNG, oM, oF, oL, rg, ci, Nat.reduceEqDiff, Nat.reduceAdd, Nat.reduceSub, Int.reduceTDiv, Int.reduceTMod, ge_iff_le, Int.reduceGE, Nat.reducePow, Int.reduceEq, Int.reduceNeg, Int.reduceLE, Int.reducePow, Int.reduceLT, Int.reduceSub, Int.reduceAdd, Int.reduceMul, Int.reduceToNat, Option.map_some, ↓reduceIte, ite_not, beq_iff_eq, bne_iff_ne, ne_eq, beq_self_eq_true, beq_eq_false_iff_ne, bne_eq_false_iff_eq, resAll, resL, resV, reduceCtorEq, Option.some.injEq, exists_eq_left', blkAt, Nat.reduceLeDiff, Nat.reduceMul, eq_self, Nat.reduceLT, undef, fillV, evParts, footOp, wrOp, chk, disj, Nat.reduceBEq] | split))
    refine out_vb ?_
    rw [Bool.eq_iff_iff]
    simp only [decide_eq_true_eq]
    constructor
    · intro h
      have h := eq_of_beq h
      exact ⟨h1, h2, h3, by omega⟩
    · rintro ⟨_, _, _, h⟩; rw [h]; rfl
end Go.Proofs.Ytmmaenfjnkoknaa.VA
