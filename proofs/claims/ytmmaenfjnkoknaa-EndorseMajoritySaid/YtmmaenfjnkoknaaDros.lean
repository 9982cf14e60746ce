/- Rows of numbers are sorted. -/
import Derived.Test.YtmmaenfjnkoknaaLros2
import Derived.Test.YtmmaenfjnkoknaaDend
import Derived.Test.YtmmaenfjnkoknaaVC
set_option linter.unusedVariables false
set_option linter.unusedSimpArgs false
set_option maxRecDepth 100000
namespace Go.Proofs.Ytmmaenfjnkoknaa.VA
open Go
attribute [local irreducible] WK NK XK TK RK FK CK CFK CallRel C
attribute [local irreducible] RosP majL
theorem isNaN_C (a : Int) : C Try.prog 236 [vi .i64 a] [] (vb false) [] := by
  refine C_of mixed Try.func236 A_cmp_isNaN_int_ok A_cmp_isNaN_int_res _ A_cmp_isNaN_int_nt ?_
  (repeat' (first | simp (maxSteps := 2000000) -implicitDefEqProofs only [A_cmp_isNaN_int, bne_self_eq_false, Int.reduceBNe, Int.reduceBEq, rk_ext, fk_ext, len_ints, idx_ints, cells_ints, len_lst, cells_lst, sm_c, sm_a, src_ints, zros_v, zros_m, ints_nil_l, lr_ros, lr, lr2, oO, oN, oG, oNG, oM, oF, oL, rg, ci, Nat.reduceEqDiff, Nat.reduceAdd, Nat.reduceSub, Int.reduceTDiv, Int.reduceTMod, ge_iff_le, Int.reduceGE, Nat.reducePow, Int.reduceEq, Int.reduceNeg, Int.reduceLE, Int.reducePow, Int.reduceLT, Int.reduceSub, Int.reduceAdd, Int.reduceMul, Int.reduceToNat, Option.map_some, ↓reduceIte, ite_not, beq_iff_eq, bne_iff_ne, ne_eq, beq_self_eq_true, beq_eq_false_iff_ne, bne_eq_false_iff_eq, resAll, resL, resV, reduceCtorEq, Option.some.injEq, exists_eq_left', blkAt, Nat.reduceLeDiff, Nat.reduceMul, eq_self, Nat.reduceLT, undef, fillV, evParts, footOp, wrOp, chk, disj, Nat.reduceBEq] | split))
  exact out_eq rfl cl
theorem less_C (a b : Int) : C Try.prog 223 [vi .i64 a, vi .i64 b] [] (vb (decide (a < b))) [] := by
  refine C_of mixed Try.func223 A_cmp_Less_int_ok A_cmp_Less_int_res _ A_cmp_Less_int_nt ?_
  (repeat' (first | simp (maxSteps := 2000000) -implicitDefEqProofs only [A_cmp_Less_int, Int.reduceBNe, Int.reduceBEq, rk_ext, fk_ext, len_ints, idx_ints, cells_ints, len_lst, cells_lst, sm_c, sm_a, src_ints, zros_v, zros_m, ints_nil_l, lr_ros, lr, lr2, oO, oN, oG, oNG, oM, oF, oL, rg, ci, Nat.reduceEqDiff, Nat.reduceAdd, Nat.reduceSub, Int.reduceTDiv, Int.reduceTMod, ge_iff_le, Int.reduceGE, Nat.reducePow, Int.reduceEq, Int.reduceNeg, Int.reduceLE, Int.reducePow, Int.reduceLT, Int.reduceSub, Int.reduceAdd, Int.reduceMul, Int.reduceToNat, Option.map_some, ↓reduceIte, ite_not, beq_iff_eq, bne_iff_ne, ne_eq, beq_self_eq_true, beq_eq_false_iff_ne, bne_eq_false_iff_eq, resAll, resL, resV, reduceCtorEq, Option.some.injEq, exists_eq_left', blkAt, Nat.reduceLeDiff, Nat.reduceMul, eq_self, Nat.reduceLT, undef, fillV, evParts, footOp, wrOp, chk, disj, Nat.reduceBEq] | split | ((first | apply ck_call | apply cfk_call); (first | (apply call_pure (isNaN_C a) cll cl) | (apply call_pure (isNaN_C b) cll cl)))))
  all_goals (refine out_eq ?_ cl; simp_all)
def swp (l : List Int) (i j : Nat) : List Int := (l.set i (l.getD j 0)).set j (l.getD i 0)
def sink : Nat → List Int → List Int
  | 0, l => l
  | j + 1, l => if l.getD (j + 1) 0 < l.getD j 0 then sink j (swp l (j + 1) j) else l
def sortUp : Nat → List Int → List Int
  | 0, l => l
  | i + 1, l => sink i (sortUp i l)
def sortI (l : List Int) : List Int := sortUp l.length l
theorem swp_len (l : List Int) (i j : Nat) : (swp l i j).length = l.length := by simp [swp]
theorem sink_len : ∀ (j : Nat) (l : List Int), (sink j l).length = l.length
  | 0, l => rfl
  | j + 1, l => by
    unfold sink
    split
    · rw [sink_len, swp_len]
    · rfl
theorem sortUp_len (l : List Int) : ∀ i, (sortUp i l).length = l.length
  | 0 => rfl
  | i + 1 => by rw [sortUp, sink_len, sortUp_len]
theorem sortI_len (l : List Int) : (sortI l).length = l.length := sortUp_len l _
theorem sortUp_1 (l : List Int) : sortUp 1 l = l := rfl
theorem rd_i (l : List Int) (i : Nat) (h : i < l.length) : rd none (l.map (vi .i64)) i = some (vi .i64 (l.getD i 0)) := by
  simp [rd, h]
theorem sp_i (l : List Int) (i : Nat) (x : Int) (h : i < l.length) : splice (l.map (vi .i64)) i [vi .i64 x] = (l.set i x).map (vi .i64) := by
  rw [splice_one _ _ _ (by simpa using h), List.map_set]
set_option maxHeartbeats 4000000 in
theorem insSort_C (l : List Int) (n : Nat) (hn : n = l.length) (h12 : l.length ≤ 1000) : C Try.prog 217 [.sref 0 0 n 1, vi .i64 0, vi .i64 n] [l.map (vi .i64)] (.tup []) [some ((sortI l).map (vi .i64))] := by
  refine C_of mixed Try.func217 A_slices_insertionSortOrdered_int_ok A_slices_insertionSortOrdered_int_res _ A_slices_insertionSortOrdered_int_nt ?_
  (repeat' (first | simp (maxSteps := 2000000) -implicitDefEqProofs only [A_slices_insertionSortOrdered_int, Int.reduceBNe, Int.reduceBEq, rk_ext, fk_ext, len_ints, idx_ints, cells_ints, len_lst, cells_lst, sm_c, sm_a, src_ints, zros_v, zros_m, ints_nil_l, lr_ros, lr, lr2, oO, oN, oG, oNG, oM, oF, oL, rg, ci, Nat.reduceEqDiff, Nat.reduceAdd, Nat.reduceSub, Int.reduceTDiv, Int.reduceTMod, ge_iff_le, Int.reduceGE, Nat.reducePow, Int.reduceEq, Int.reduceNeg, Int.reduceLE, Int.reducePow, Int.reduceLT, Int.reduceSub, Int.reduceAdd, Int.reduceMul, Int.reduceToNat, Option.map_some, ↓reduceIte, ite_not, beq_iff_eq, bne_iff_ne, ne_eq, beq_self_eq_true, beq_eq_false_iff_ne, bne_eq_false_iff_eq, resAll, resL, resV, reduceCtorEq, Option.some.injEq, exists_eq_left', blkAt, Nat.reduceLeDiff, Nat.reduceMul, eq_self, Nat.reduceLT, undef, fillV, evParts, footOp, wrOp, chk, disj, Nat.reduceBEq] | split))
  refine wk_loop (fun m S H => ∃ i : Nat, 1 ≤ i ∧ (i ≤ n ∨ i = 1) ∧ m = n + 1 - i ∧ S = (.sref 0 0 n 1 :: vi .i64 0 :: vi .i64 n :: .dead :: .dead :: .dead :: vi .i64 i :: .dead :: .dead :: .dead :: .dead :: .dead :: .dead :: .dead :: .dead :: .dead :: .dead :: .dead :: .dead :: .dead :: .dead :: .dead :: .dead :: .dead :: .dead :: .dead :: .dead :: .dead :: .dead :: .dead :: .dead :: .dead :: .dead :: .dead :: .dead :: .dead :: .dead :: .dead :: .dead :: .dead :: .dead :: .dead :: .dead :: .dead :: .dead :: .dead :: .dead :: .dead :: .dead :: []) ∧ H = [some ((sortUp i l).map (vi .i64))]) n ⟨1, by omega, .inr rfl, by omega, rfl, rfl⟩ (by refine .ren _ _ _ [0] (by decide) (by intro k h; first | exact absurd h (Nat.not_lt_zero k) | (simp at h; done) | (rcases k with _ | _ | _ | k <;> first | rfl | (exfalso; omega) | (simp at h; done))) ?_ ?_ <;> simp [KeepS, KeepH, ArgRel, ArgRelL, argL_cl, arg_cl, row_l_of, row_l_nil, bn_len, blkAt, sortUp_1]) ?_
  rintro m S H ⟨i, hi1, hi, rfl, rfl, rfl⟩ J hJ
  by_cases hin : i < n
  · have c1 : (i : Int) < n := by omega
    have w1 : IntKind.i64.wrap ((i : Int) + 1) = ((i + 1 : Nat) : Int) := by rw [wrap_id _ (by omega) (by omega)]; omega
    have hl0 := sortUp_len l i
    (repeat' (first | simp (maxSteps := 2000000) -implicitDefEqProofs only [A_slices_insertionSortOrdered_int_L1, c1, Int.reduceBNe, Int.reduceBEq, rk_ext, fk_ext, len_ints, idx_ints, cells_ints, len_lst, cells_lst, sm_c, sm_a, src_ints, zros_v, zros_m, ints_nil_l, lr_ros, lr, lr2, oO, oN, oG, oNG, oM, oF, oL, rg, ci, Nat.reduceEqDiff, Nat.reduceAdd, Nat.reduceSub, Int.reduceTDiv, Int.reduceTMod, ge_iff_le, Int.reduceGE, Nat.reducePow, Int.reduceEq, Int.reduceNeg, Int.reduceLE, Int.reducePow, Int.reduceLT, Int.reduceSub, Int.reduceAdd, Int.reduceMul, Int.reduceToNat, Option.map_some, ↓reduceIte, ite_not, beq_iff_eq, bne_iff_ne, ne_eq, beq_self_eq_true, beq_eq_false_iff_ne, bne_eq_false_iff_eq, resAll, resL, resV, reduceCtorEq, Option.some.injEq, exists_eq_left', blkAt, Nat.reduceLeDiff, Nat.reduceMul, eq_self, Nat.reduceLT, undef, fillV, evParts, footOp, wrOp, chk, disj, Nat.reduceBEq] | split))
    refine wk_loop (fun m S H => ∃ (j : Nat) (r : List Int), m = j ∧ j ≤ i ∧ r.length = n ∧ sink j r = sink i (sortUp i l) ∧ S = (.sref 0 0 n 1 :: vi .i64 0 :: vi .i64 n :: .dead :: .dead :: .dead :: vi .i64 i :: vi .i64 j :: .dead :: .dead :: .dead :: .dead :: .dead :: .dead :: .dead :: .dead :: .dead :: .dead :: .dead :: .dead :: .dead :: .dead :: .dead :: .dead :: .dead :: .dead :: .dead :: .dead :: .dead :: .dead :: .dead :: .dead :: .dead :: .dead :: .dead :: .dead :: .dead :: .dead :: .dead :: .dead :: .dead :: .dead :: .dead :: .dead :: .dead :: .dead :: .dead :: .dead :: .dead :: []) ∧ H = [some (r.map (vi .i64))]) i ⟨i, sortUp i l, rfl, Nat.le_refl _, by omega, rfl, rfl, rfl⟩ (by refine .ren _ _ _ [0] (by decide) (by intro k h; first | exact absurd h (Nat.not_lt_zero k) | (simp at h; done) | (rcases k with _ | _ | _ | k <;> first | rfl | (exfalso; omega) | (simp at h; done))) ?_ ?_ <;> simp [KeepS, KeepH, ArgRel, ArgRelL, argL_cl, arg_cl, row_l_of, row_l_nil, bn_len, blkAt]) ?_
    rintro j S H ⟨_, r, rfl, hji, hr, hs, rfl, rfl⟩ J2 hJ2
    have wj : IntKind.i64.wrap ((i : Int) + 1) = ((i + 1 : Nat) : Int) := w1
    cases j with
    | zero =>
      have c2 : ¬ (0 : Int) > 0 := by omega
      have c2' : ¬ (0 : Int) < 0 := by omega
      (repeat' (first | simp (maxSteps := 2000000) -implicitDefEqProofs only [A_slices_insertionSortOrdered_int_L0, c2, c2', w1, Int.reduceBNe, Int.reduceBEq, rk_ext, fk_ext, len_ints, idx_ints, cells_ints, len_lst, cells_lst, sm_c, sm_a, src_ints, zros_v, zros_m, ints_nil_l, lr_ros, lr, lr2, oO, oN, oG, oNG, oM, oF, oL, rg, ci, Nat.reduceEqDiff, Nat.reduceAdd, Nat.reduceSub, Int.reduceTDiv, Int.reduceTMod, ge_iff_le, Int.reduceGE, Nat.reducePow, Int.reduceEq, Int.reduceNeg, Int.reduceLE, Int.reducePow, Int.reduceLT, Int.reduceSub, Int.reduceAdd, Int.reduceMul, Int.reduceToNat, Option.map_some, ↓reduceIte, ite_not, beq_iff_eq, bne_iff_ne, ne_eq, beq_self_eq_true, beq_eq_false_iff_ne, bne_eq_false_iff_eq, resAll, resL, resV, reduceCtorEq, Option.some.injEq, exists_eq_left', blkAt, Nat.reduceLeDiff, Nat.reduceMul, eq_self, Nat.reduceLT, undef, fillV, evParts, footOp, wrOp, chk, disj, Nat.reduceBEq] | split))
      exact hJ _ _ _ _ _ (by omega) ⟨i + 1, by omega, .inl (by omega), rfl, rfl, rfl⟩ (by refine .ren _ _ _ [0] (by decide) (by intro k h; first | exact absurd h (Nat.not_lt_zero k) | (simp at h; done) | (rcases k with _ | _ | _ | k <;> first | rfl | (exfalso; omega) | (simp at h; done))) ?_ ?_ <;> simp [KeepS, KeepH, ArgRel, ArgRelL, argL_cl, arg_cl, row_l_of, row_l_nil, bn_len, blkAt, hs.symm, sortUp, sink])
    | succ j =>
      have c2 : (((j + 1 : Nat)) : Int) > 0 := by omega
      have c2' : (0 : Int) < ((j + 1 : Nat) : Int) := by omega
      have c3 : (0 : Int) ≤ ((j + 1 : Nat) : Int) := by omega
      have c4 : ((j + 1 : Nat) : Int) < n := by omega
      have c5 : (0 : Int) ≤ (j : Int) := by omega
      have c6 : (j : Int) < n := by omega
      have w2 : IntKind.i64.wrap (((j + 1 : Nat) : Int) - 1) = (j : Int) := by rw [wrap_id _ (by omega) (by omega)]; omega
      have g1 := rd_i r (j + 1) (by omega)
      have g2 := rd_i r j (by omega)
      have lc := less_C (r.getD (j + 1) 0) (r.getD j 0)
      by_cases hlt : r.getD (j + 1) 0 < r.getD j 0
      · have e1 : sink (j + 1) r = sink j (swp r (j + 1) j) := by rw [sink, if_pos hlt]
        have hd : decide (r.getD (j + 1) 0 < r.getD j 0) = true := decide_eq_true hlt
        have p1 := sp_i r (j + 1) (r.getD j 0) (by omega)
        have p2 := sp_i (r.set (j + 1) (r.getD j 0)) j (r.getD (j + 1) 0) (by simp; omega)
        have hl1 : (r.map (vi .i64)).length = n := by simp [hr]
        have hl2 : ((r.set (j + 1) (r.getD j 0)).map (vi .i64)).length = n := by simp [hr]
        have c7 : j + 1 + 1 ≤ n := by omega
        have c8 : j + 1 ≤ n := by omega
        have tn : ((j + 1 : Nat) : Int).toNat = j + 1 := rfl
        generalize hJ1 : ((j + 1 : Nat) : Int) = J1 at *
        have hsw : (r.set (j + 1) (r.getD j 0)).set j (r.getD (j + 1) 0) = swp r (j + 1) j := rfl
        (repeat' (first | simp (maxSteps := 2000000) -implicitDefEqProofs only [A_slices_insertionSortOrdered_int_L0, tn, c2, c2', c3, c4, c5, c6, w2, g1, g2, hlt, p1, p2, hl1, hl2, c7, c8, hsw, Int.reduceBNe, Int.reduceBEq, rk_ext, fk_ext, len_ints, idx_ints, cells_ints, len_lst, cells_lst, sm_c, sm_a, src_ints, zros_v, zros_m, ints_nil_l, lr_ros, lr, lr2, oO, oN, oG, oNG, oM, oF, oL, rg, ci, Nat.reduceEqDiff, Nat.reduceAdd, Nat.reduceSub, Int.reduceTDiv, Int.reduceTMod, ge_iff_le, Int.reduceGE, Nat.reducePow, Int.reduceEq, Int.reduceNeg, Int.reduceLE, Int.reducePow, Int.reduceLT, Int.reduceSub, Int.reduceAdd, Int.reduceMul, Int.reduceToNat, Option.map_some, ↓reduceIte, ite_not, beq_iff_eq, bne_iff_ne, ne_eq, beq_self_eq_true, beq_eq_false_iff_ne, bne_eq_false_iff_eq, resAll, resL, resV, reduceCtorEq, Option.some.injEq, exists_eq_left', blkAt, Nat.reduceLeDiff, Nat.reduceMul, eq_self, Nat.reduceLT, undef, fillV, evParts, footOp, wrOp, chk, disj, Nat.reduceBEq] | split | ((first | apply ck_call | apply cfk_call); (first | (apply call_pure (lc) cll cl)))))
        exact hJ2 _ _ _ _ _ (by omega) ⟨j, swp r (j + 1) j, rfl, by omega, by rw [swp_len]; exact hr, by rw [← e1]; exact hs, rfl, rfl⟩ (by refine .ren _ _ _ [0] (by decide) (by intro k h; first | exact absurd h (Nat.not_lt_zero k) | (simp at h; done) | (rcases k with _ | _ | _ | k <;> first | rfl | (exfalso; omega) | (simp at h; done))) ?_ ?_ <;> simp [KeepS, KeepH, ArgRel, ArgRelL, argL_cl, arg_cl, row_l_of, row_l_nil, bn_len, blkAt])
      · have e1 : sink (j + 1) r = r := by rw [sink, if_neg hlt]
        have hd : decide (r.getD (j + 1) 0 < r.getD j 0) = false := decide_eq_false hlt
        have tn : ((j + 1 : Nat) : Int).toNat = j + 1 := rfl
        rw [e1] at hs
        generalize hJ1 : ((j + 1 : Nat) : Int) = J1 at *
        (repeat' (first | simp (maxSteps := 2000000) -implicitDefEqProofs only [A_slices_insertionSortOrdered_int_L0, tn, c2, c2', c3, c4, c5, c6, w2, g1, g2, hlt, w1, Int.reduceBNe, Int.reduceBEq, rk_ext, fk_ext, len_ints, idx_ints, cells_ints, len_lst, cells_lst, sm_c, sm_a, src_ints, zros_v, zros_m, ints_nil_l, lr_ros, lr, lr2, oO, oN, oG, oNG, oM, oF, oL, rg, ci, Nat.reduceEqDiff, Nat.reduceAdd, Nat.reduceSub, Int.reduceTDiv, Int.reduceTMod, ge_iff_le, Int.reduceGE, Nat.reducePow, Int.reduceEq, Int.reduceNeg, Int.reduceLE, Int.reducePow, Int.reduceLT, Int.reduceSub, Int.reduceAdd, Int.reduceMul, Int.reduceToNat, Option.map_some, ↓reduceIte, ite_not, beq_iff_eq, bne_iff_ne, ne_eq, beq_self_eq_true, beq_eq_false_iff_ne, bne_eq_false_iff_eq, resAll, resL, resV, reduceCtorEq, Option.some.injEq, exists_eq_left', blkAt, Nat.reduceLeDiff, Nat.reduceMul, eq_self, Nat.reduceLT, undef, fillV, evParts, footOp, wrOp, chk, disj, Nat.reduceBEq] | split | ((first | apply ck_call | apply cfk_call); (first | (apply call_pure (lc) cll cl)))))
        exact hJ _ _ _ _ _ (by omega) ⟨i + 1, by omega, .inl (by omega), rfl, rfl, rfl⟩ (by refine .ren _ _ _ [0] (by decide) (by intro k h; first | exact absurd h (Nat.not_lt_zero k) | (simp at h; done) | (rcases k with _ | _ | _ | k <;> first | rfl | (exfalso; omega) | (simp at h; done))) ?_ ?_ <;> simp [KeepS, KeepH, ArgRel, ArgRelL, argL_cl, arg_cl, row_l_of, row_l_nil, bn_len, blkAt, hs, sortUp])
  · have c1 : ¬ (i : Int) < n := by omega
    have e : sortUp i l = sortI l := by
      unfold sortI
      rw [← hn]
      by_cases h0 : n = 0
      · obtain rfl : i = 1 := by omega
        rw [h0, sortUp_1]; rfl
      · rw [show i = n by omega]
    (repeat' (first | simp (maxSteps := 2000000) -implicitDefEqProofs only [A_slices_insertionSortOrdered_int_L1, c1, e, Int.reduceBNe, Int.reduceBEq, rk_ext, fk_ext, len_ints, idx_ints, cells_ints, len_lst, cells_lst, sm_c, sm_a, src_ints, zros_v, zros_m, ints_nil_l, lr_ros, lr, lr2, oO, oN, oG, oNG, oM, oF, oL, rg, ci, Nat.reduceEqDiff, Nat.reduceAdd, Nat.reduceSub, Int.reduceTDiv, Int.reduceTMod, ge_iff_le, Int.reduceGE, Nat.reducePow, Int.reduceEq, Int.reduceNeg, Int.reduceLE, Int.reducePow, Int.reduceLT, Int.reduceSub, Int.reduceAdd, Int.reduceMul, Int.reduceToNat, Option.map_some, ↓reduceIte, ite_not, beq_iff_eq, bne_iff_ne, ne_eq, beq_self_eq_true, beq_eq_false_iff_ne, bne_eq_false_iff_eq, resAll, resL, resV, reduceCtorEq, Option.some.injEq, exists_eq_left', blkAt, Nat.reduceLeDiff, Nat.reduceMul, eq_self, Nat.reduceLT, undef, fillV, evParts, footOp, wrOp, chk, disj, Nat.reduceBEq] | split))
    exact out_upd rfl (nums_closed _ _) (by simp [Closed, ClosedL])
def evIdxStr (H : Heap) : V → V → Option (V × Heap)
  | .sc (.string s), .sc (.int _ i) => if 0 ≤ i then (s.data.toList[i.toNat]?).map fun b => (u8V b, H) else none
  | _, _ => none
theorem op_idxStr2 (S : List V) (H : Heap) (x i : Od) : evOp S H (.indexStr x i) = evIdxStr H (x.ev S) (i.ev S) := by
  simp only [evOp]
  generalize x.ev S = a
  generalize i.ev S = b
  unfold evIdxStr
  cases b with
  | sc w => cases w <;> first | rfl | (cases a <;> first | rfl | (rename_i v; cases v <;> rfl))
  | _ => simp only [intOf?] <;> (cases a <;> first | rfl | (rename_i v; cases v <;> rfl))
theorem evIdx_st (H : Heap) (l : List UInt8) (k : IntKind) (n : Nat) : evIdxStr H (st l) (.sc (.int k (n : Int))) = (l[n]?).map fun b => (u8V b, H) := by
  simp [evIdxStr, st]
def lenT (n : Nat) : Int := [0, 1, 2, 2, 3, 3, 3, 3, 4, 4, 4, 4, 4].getD n 0
def tabL : List UInt8 := [0, 1, 2, 2, 3, 3, 3, 3, 4, 4, 4, 4, 4, 4, 4, 4, 5, 5, 5, 5, 5, 5, 5, 5, 5, 5, 5, 5, 5, 5, 5, 5, 6, 6, 6, 6, 6, 6, 6, 6, 6, 6, 6, 6, 6, 6, 6, 6, 6, 6, 6, 6, 6, 6, 6, 6, 6, 6, 6, 6, 6, 6, 6, 6, 7, 7, 7, 7, 7, 7, 7, 7, 7, 7, 7, 7, 7, 7, 7, 7, 7, 7, 7, 7, 7, 7, 7, 7, 7, 7, 7, 7, 7, 7, 7, 7, 7, 7, 7, 7, 7, 7, 7, 7, 7, 7, 7, 7, 7, 7, 7, 7, 7, 7, 7, 7, 7, 7, 7, 7, 7, 7, 7, 7, 7, 7, 7, 7, 8, 8, 8, 8, 8, 8, 8, 8, 8, 8, 8, 8, 8, 8, 8, 8, 8, 8, 8, 8, 8, 8, 8, 8, 8, 8, 8, 8, 8, 8, 8, 8, 8, 8, 8, 8, 8, 8, 8, 8, 8, 8, 8, 8, 8, 8, 8, 8, 8, 8, 8, 8, 8, 8, 8, 8, 8, 8, 8, 8, 8, 8, 8, 8, 8, 8, 8, 8, 8, 8, 8, 8, 8, 8, 8, 8, 8, 8, 8, 8, 8, 8, 8, 8, 8, 8, 8, 8, 8, 8, 8, 8, 8, 8, 8, 8, 8, 8, 8, 8, 8, 8, 8, 8, 8, 8, 8, 8, 8, 8, 8, 8, 8, 8, 8, 8, 8, 8, 8, 8, 8, 8, 8, 8, 8, 8, 8, 8]
theorem tab_eq : st [0, 1, 2, 2, 3, 3, 3, 3, 4, 4, 4, 4, 4, 4, 4, 4, 5, 5, 5, 5, 5, 5, 5, 5, 5, 5, 5, 5, 5, 5, 5, 5, 6, 6, 6, 6, 6, 6, 6, 6, 6, 6, 6, 6, 6, 6, 6, 6, 6, 6, 6, 6, 6, 6, 6, 6, 6, 6, 6, 6, 6, 6, 6, 6, 7, 7, 7, 7, 7, 7, 7, 7, 7, 7, 7, 7, 7, 7, 7, 7, 7, 7, 7, 7, 7, 7, 7, 7, 7, 7, 7, 7, 7, 7, 7, 7, 7, 7, 7, 7, 7, 7, 7, 7, 7, 7, 7, 7, 7, 7, 7, 7, 7, 7, 7, 7, 7, 7, 7, 7, 7, 7, 7, 7, 7, 7, 7, 7, 8, 8, 8, 8, 8, 8, 8, 8, 8, 8, 8, 8, 8, 8, 8, 8, 8, 8, 8, 8, 8, 8, 8, 8, 8, 8, 8, 8, 8, 8, 8, 8, 8, 8, 8, 8, 8, 8, 8, 8, 8, 8, 8, 8, 8, 8, 8, 8, 8, 8, 8, 8, 8, 8, 8, 8, 8, 8, 8, 8, 8, 8, 8, 8, 8, 8, 8, 8, 8, 8, 8, 8, 8, 8, 8, 8, 8, 8, 8, 8, 8, 8, 8, 8, 8, 8, 8, 8, 8, 8, 8, 8, 8, 8, 8, 8, 8, 8, 8, 8, 8, 8, 8, 8, 8, 8, 8, 8, 8, 8, 8, 8, 8, 8, 8, 8, 8, 8, 8, 8, 8, 8, 8, 8, 8, 8, 8, 8] = st tabL := rfl
theorem tab_at (n : Nat) (h : n ≤ 12) : tabL[n]? = some (UInt8.ofNat (lenT n).toNat) := by
  rcases (by omega : n = 0 ∨ n = 1 ∨ n = 2 ∨ n = 3 ∨ n = 4 ∨ n = 5 ∨ n = 6 ∨ n = 7 ∨ n = 8 ∨ n = 9 ∨ n = 10 ∨ n = 11 ∨ n = 12) with rfl | rfl | rfl | rfl | rfl | rfl | rfl | rfl | rfl | rfl | rfl | rfl | rfl <;> rfl
theorem lenT_8 (n : Nat) (h : n ≤ 12) : IntKind.i64.wrap ((UInt8.ofNat (lenT n).toNat).toNat : Int) = lenT n ∧ IntKind.i64.wrap (0 + lenT n) = lenT n := by
  rcases (by omega : n = 0 ∨ n = 1 ∨ n = 2 ∨ n = 3 ∨ n = 4 ∨ n = 5 ∨ n = 6 ∨ n = 7 ∨ n = 8 ∨ n = 9 ∨ n = 10 ∨ n = 11 ∨ n = 12) with rfl | rfl | rfl | rfl | rfl | rfl | rfl | rfl | rfl | rfl | rfl | rfl | rfl <;> exact ⟨rfl, rfl⟩
attribute [local irreducible] tabL
set_option maxHeartbeats 4000000 in
theorem len64_C (n : Nat) (h : n ≤ 12) : C Try.prog 227 [vi .u64 n] [] (vi .i64 (lenT n)) [] := by
  refine C_of mixed Try.func227 A_math_bits_Len64_ok A_math_bits_Len64_res _ A_math_bits_Len64_nt ?_
  have c1 : ¬ (n : Int) ≥ 4294967296 := by omega
  have c2 : ¬ (n : Int) ≥ 65536 := by omega
  have c3 : ¬ (n : Int) ≥ 256 := by omega
  have c1' : ¬ 4294967296 ≤ (n : Int) := by omega
  have c2' : ¬ 65536 ≤ (n : Int) := by omega
  have c3' : ¬ 256 ≤ (n : Int) := by omega
  have w1 : IntKind.u8.wrap (n : Int) = n := IntWalk.u8_in _ ⟨by omega, by omega⟩
  have ta := tab_at n h
  obtain ⟨w2, w3⟩ := lenT_8 n h
  generalize lenT n = N at *
  (repeat' (first | simp (maxSteps := 2000000) -implicitDefEqProofs only [A_math_bits_Len64, op_idxStr2, evIdx_st, tab_eq, ta, c1, c2, c3, c1', c2', c3', w1, w2, w3, u8V, Int.reduceBNe, Int.reduceBEq, rk_ext, fk_ext, len_ints, idx_ints, cells_ints, len_lst, cells_lst, sm_c, sm_a, src_ints, zros_v, zros_m, ints_nil_l, lr_ros, lr, lr2, oO, oN, oG, oNG, oM, oF, oL, rg, ci, Nat.reduceEqDiff, Nat.reduceAdd, Nat.reduceSub, Int.reduceTDiv, Int.reduceTMod, ge_iff_le, Int.reduceGE, Nat.reducePow, Int.reduceEq, Int.reduceNeg, Int.reduceLE, Int.reducePow, Int.reduceLT, Int.reduceSub, Int.reduceAdd, Int.reduceMul, Int.reduceToNat, Option.map_some, ↓reduceIte, ite_not, beq_iff_eq, bne_iff_ne, ne_eq, beq_self_eq_true, beq_eq_false_iff_ne, bne_eq_false_iff_eq, resAll, resL, resV, reduceCtorEq, Option.some.injEq, exists_eq_left', blkAt, Nat.reduceLeDiff, Nat.reduceMul, eq_self, Nat.reduceLT, undef, fillV, evParts, footOp, wrOp, chk, disj, Nat.reduceBEq] | split))
  exact out_eq rfl cl
theorem len_C (n : Nat) (h : n ≤ 12) : C Try.prog 203 [vi .u64 n] [] (vi .i64 (lenT n)) [] := by
  have hk := len64_C n h
  refine C_of mixed Try.func203 A_math_bits_Len_ok A_math_bits_Len_res _ A_math_bits_Len_nt ?_
  (repeat' (first | simp (maxSteps := 2000000) -implicitDefEqProofs only [A_math_bits_Len, Int.reduceBNe, Int.reduceBEq, rk_ext, fk_ext, len_ints, idx_ints, cells_ints, len_lst, cells_lst, sm_c, sm_a, src_ints, zros_v, zros_m, ints_nil_l, lr_ros, lr, lr2, oO, oN, oG, oNG, oM, oF, oL, rg, ci, Nat.reduceEqDiff, Nat.reduceAdd, Nat.reduceSub, Int.reduceTDiv, Int.reduceTMod, ge_iff_le, Int.reduceGE, Nat.reducePow, Int.reduceEq, Int.reduceNeg, Int.reduceLE, Int.reducePow, Int.reduceLT, Int.reduceSub, Int.reduceAdd, Int.reduceMul, Int.reduceToNat, Option.map_some, ↓reduceIte, ite_not, beq_iff_eq, bne_iff_ne, ne_eq, beq_self_eq_true, beq_eq_false_iff_ne, bne_eq_false_iff_eq, resAll, resL, resV, reduceCtorEq, Option.some.injEq, exists_eq_left', blkAt, Nat.reduceLeDiff, Nat.reduceMul, eq_self, Nat.reduceLT, undef, fillV, evParts, footOp, wrOp, chk, disj, Nat.reduceBEq] | split | ((first | apply ck_call | apply cfk_call); (first | (apply call_pure (hk) cll cl)))))
  exact out_eq rfl cl
theorem pdq_C (l : List Int) (n : Nat) (k : Int) (hn : n = l.length) (h12 : l.length ≤ 12) : C Try.prog 202 [.sref 0 0 n 1, vi .i64 0, vi .i64 n, vi .i64 k] [l.map (vi .i64)] (.tup []) [some ((sortI l).map (vi .i64))] := by
  refine C_of mixed Try.func202 A_slices_pdqsortOrdered_int_ok A_slices_pdqsortOrdered_int_res _ A_slices_pdqsortOrdered_int_nt ?_
  (repeat' (first | simp (maxSteps := 2000000) -implicitDefEqProofs only [A_slices_pdqsortOrdered_int, Int.reduceBNe, Int.reduceBEq, rk_ext, fk_ext, len_ints, idx_ints, cells_ints, len_lst, cells_lst, sm_c, sm_a, src_ints, zros_v, zros_m, ints_nil_l, lr_ros, lr, lr2, oO, oN, oG, oNG, oM, oF, oL, rg, ci, Nat.reduceEqDiff, Nat.reduceAdd, Nat.reduceSub, Int.reduceTDiv, Int.reduceTMod, ge_iff_le, Int.reduceGE, Nat.reducePow, Int.reduceEq, Int.reduceNeg, Int.reduceLE, Int.reducePow, Int.reduceLT, Int.reduceSub, Int.reduceAdd, Int.reduceMul, Int.reduceToNat, Option.map_some, ↓reduceIte, ite_not, beq_iff_eq, bne_iff_ne, ne_eq, beq_self_eq_true, beq_eq_false_iff_ne, bne_eq_false_iff_eq, resAll, resL, resV, reduceCtorEq, Option.some.injEq, exists_eq_left', blkAt, Nat.reduceLeDiff, Nat.reduceMul, eq_self, Nat.reduceLT, undef, fillV, evParts, footOp, wrOp, chk, disj, Nat.reduceBEq] | split))
  refine wk_unroll 1 ?_
  have w1 : IntKind.i64.wrap ((n : Int) - 0) = n := by rw [wrap_id _ (by omega) (by omega)]; omega
  have c1 : (n : Int) ≤ 12 := by omega
  (repeat' (first | simp (maxSteps := 2000000) -implicitDefEqProofs only [A_slices_pdqsortOrdered_int_L0, w1, c1, Int.reduceBNe, Int.reduceBEq, rk_ext, fk_ext, len_ints, idx_ints, cells_ints, len_lst, cells_lst, sm_c, sm_a, src_ints, zros_v, zros_m, ints_nil_l, lr_ros, lr, lr2, oO, oN, oG, oNG, oM, oF, oL, rg, ci, Nat.reduceEqDiff, Nat.reduceAdd, Nat.reduceSub, Int.reduceTDiv, Int.reduceTMod, ge_iff_le, Int.reduceGE, Nat.reducePow, Int.reduceEq, Int.reduceNeg, Int.reduceLE, Int.reducePow, Int.reduceLT, Int.reduceSub, Int.reduceAdd, Int.reduceMul, Int.reduceToNat, Option.map_some, ↓reduceIte, ite_not, beq_iff_eq, bne_iff_ne, ne_eq, beq_self_eq_true, beq_eq_false_iff_ne, bne_eq_false_iff_eq, resAll, resL, resV, reduceCtorEq, Option.some.injEq, exists_eq_left', blkAt, Nat.reduceLeDiff, Nat.reduceMul, eq_self, Nat.reduceLT, undef, fillV, evParts, footOp, wrOp, chk, disj, Nat.reduceBEq] | split | ((first | apply ck_call | apply cfk_call); (first | (apply call_updS (insSort_C l n hn (by omega)) rfl cll cll cll cl)))))
  exact out_upd rfl (nums_closed _ _) (by simp [Closed, ClosedL])
theorem sort_C (l : List Int) (n : Nat) (hn : n = l.length) (h12 : l.length ≤ 12) : C Try.prog 153 [.sref 0 0 n 1] [l.map (vi .i64)] (.tup []) [some ((sortI l).map (vi .i64))] := by
  have hk := len_C n (by omega)
  refine C_of mixed Try.func153 A_slices_Sort_int_int_ok A_slices_Sort_int_int_res _ A_slices_Sort_int_int_nt ?_
  have w1 : IntKind.u64.wrap (n : Int) = n := IntWalk.u64_in _ ⟨by omega, by omega⟩
  (repeat' (first | simp (maxSteps := 2000000) -implicitDefEqProofs only [A_slices_Sort_int_int, w1, Int.reduceBNe, Int.reduceBEq, rk_ext, fk_ext, len_ints, idx_ints, cells_ints, len_lst, cells_lst, sm_c, sm_a, src_ints, zros_v, zros_m, ints_nil_l, lr_ros, lr, lr2, oO, oN, oG, oNG, oM, oF, oL, rg, ci, Nat.reduceEqDiff, Nat.reduceAdd, Nat.reduceSub, Int.reduceTDiv, Int.reduceTMod, ge_iff_le, Int.reduceGE, Nat.reducePow, Int.reduceEq, Int.reduceNeg, Int.reduceLE, Int.reducePow, Int.reduceLT, Int.reduceSub, Int.reduceAdd, Int.reduceMul, Int.reduceToNat, Option.map_some, ↓reduceIte, ite_not, beq_iff_eq, bne_iff_ne, ne_eq, beq_self_eq_true, beq_eq_false_iff_ne, bne_eq_false_iff_eq, resAll, resL, resV, reduceCtorEq, Option.some.injEq, exists_eq_left', blkAt, Nat.reduceLeDiff, Nat.reduceMul, eq_self, Nat.reduceLT, undef, fillV, evParts, footOp, wrOp, chk, disj, Nat.reduceBEq] | split | ((first | apply ck_call | apply cfk_call); (first | (apply call_pure (hk) cll cl) | (apply call_updS (pdq_C l n (lenT n) hn h12) rfl cll cll cll cl)))))
  exact out_upd rfl (nums_closed _ _) (by simp [Closed, ClosedL])
theorem cloneI_C (x : Ints) (h0 : 0 < x.l.length) (h12 : x.l.length ≤ 1000) : C Try.prog 152 [intsV .i64 x] [] (.sref 0 0 x.l.length 1) [some (x.l.map (vi .i64))] := by
  have en : ∀ n c, evEqNil (intsV .i64 x) (.sc (.slice none n c)) = some false := fun n c => by
    cases x with
    | nil => simp [Ints.l] at h0
    | of l => rfl
  refine C_of mixed Try.func152 A_slices_Clone_int_int_ok A_slices_Clone_int_int_res _ A_slices_Clone_int_int_nt ?_
  have a0 := fun H id => app_e0 H x.l.length id (x.l.map (vi .i64)) h12
  (repeat' (first | simp (maxSteps := 2000000) -implicitDefEqProofs only [A_slices_Clone_int_int, en, a0, blk_zi, Int.reduceBNe, Int.reduceBEq, rk_ext, fk_ext, len_ints, idx_ints, cells_ints, len_lst, cells_lst, sm_c, sm_a, src_ints, zros_v, zros_m, ints_nil_l, lr_ros, lr, lr2, oO, oN, oG, oNG, oM, oF, oL, rg, ci, Nat.reduceEqDiff, Nat.reduceAdd, Nat.reduceSub, Int.reduceTDiv, Int.reduceTMod, ge_iff_le, Int.reduceGE, Nat.reducePow, Int.reduceEq, Int.reduceNeg, Int.reduceLE, Int.reducePow, Int.reduceLT, Int.reduceSub, Int.reduceAdd, Int.reduceMul, Int.reduceToNat, Option.map_some, ↓reduceIte, ite_not, beq_iff_eq, bne_iff_ne, ne_eq, beq_self_eq_true, beq_eq_false_iff_ne, bne_eq_false_iff_eq, resAll, resL, resV, reduceCtorEq, Option.some.injEq, exists_eq_left', blkAt, Nat.reduceLeDiff, Nat.reduceMul, eq_self, Nat.reduceLT, undef, fillV, evParts, footOp, wrOp, chk, disj, Nat.reduceBEq] | split))
  exact out_row rfl (nums_closed _ _)
def withL (l : Ros) (m : Int) : Ros × Bool :=
  if RosP l ∧ ¬ hasL l m then (if RosP ⟨l.version + 1, .of (sortI (l.members.l ++ [m]))⟩ then (⟨l.version + 1, .of (sortI (l.members.l ++ [m]))⟩, true) else (Ros.zero, false)) else (Ros.zero, false)
theorem so_C (l : Ros) (hr : RosP l) : C Try.prog 154 [.agg (cRos l)] [] (.tup [.agg (cRos l), vb true]) [] := by
  refine C_of mixed Try.func154 A_roster_so_ok A_roster_so_res _ A_roster_so_nt ?_
  (repeat' (first | simp (maxSteps := 2000000) -implicitDefEqProofs only [A_roster_so, hr, Int.reduceBNe, Int.reduceBEq, rk_ext, fk_ext, len_ints, idx_ints, cells_ints, len_lst, cells_lst, sm_c, sm_a, src_ints, zros_v, zros_m, ints_nil_l, lr_ros, lr, lr2, oO, oN, oG, oNG, oM, oF, oL, rg, ci, Nat.reduceEqDiff, Nat.reduceAdd, Nat.reduceSub, Int.reduceTDiv, Int.reduceTMod, ge_iff_le, Int.reduceGE, Nat.reducePow, Int.reduceEq, Int.reduceNeg, Int.reduceLE, Int.reducePow, Int.reduceLT, Int.reduceSub, Int.reduceAdd, Int.reduceMul, Int.reduceToNat, Option.map_some, ↓reduceIte, ite_not, beq_iff_eq, bne_iff_ne, ne_eq, beq_self_eq_true, beq_eq_false_iff_ne, bne_eq_false_iff_eq, resAll, resL, resV, reduceCtorEq, Option.some.injEq, exists_eq_left', blkAt, Nat.reduceLeDiff, Nat.reduceMul, eq_self, Nat.reduceLT, undef, fillV, evParts, footOp, wrOp, chk, disj, Nat.reduceBEq] | split | ((first | apply ck_call | apply cfk_call); (first | (apply call_pure (rightL_C l) cll cl)))))
  exact out_eq rfl cl
theorem soN_C (l : Ros) (hr : ¬ RosP l) : C Try.prog 154 [.agg (cRos l)] [] (.tup [.agg (cRos Ros.zero), vb false]) [] := by
  refine C_of mixed Try.func154 A_roster_so_ok A_roster_so_res _ A_roster_so_nt ?_
  (repeat' (first | simp (maxSteps := 2000000) -implicitDefEqProofs only [A_roster_so, hr, Int.reduceBNe, Int.reduceBEq, rk_ext, fk_ext, len_ints, idx_ints, cells_ints, len_lst, cells_lst, sm_c, sm_a, src_ints, zros_v, zros_m, ints_nil_l, lr_ros, lr, lr2, oO, oN, oG, oNG, oM, oF, oL, rg, ci, Nat.reduceEqDiff, Nat.reduceAdd, Nat.reduceSub, Int.reduceTDiv, Int.reduceTMod, ge_iff_le, Int.reduceGE, Nat.reducePow, Int.reduceEq, Int.reduceNeg, Int.reduceLE, Int.reducePow, Int.reduceLT, Int.reduceSub, Int.reduceAdd, Int.reduceMul, Int.reduceToNat, Option.map_some, ↓reduceIte, ite_not, beq_iff_eq, bne_iff_ne, ne_eq, beq_self_eq_true, beq_eq_false_iff_ne, bne_eq_false_iff_eq, resAll, resL, resV, reduceCtorEq, Option.some.injEq, exists_eq_left', blkAt, Nat.reduceLeDiff, Nat.reduceMul, eq_self, Nat.reduceLT, undef, fillV, evParts, footOp, wrOp, chk, disj, Nat.reduceBEq] | split | ((first | apply ck_call | apply cfk_call); (first | (apply call_pure (rightL_C l) cll cl)))))
  exact out_eq rfl cl
theorem app_iz (H : Heap) (l : List Int) (x : Int) (id n : Nat) (hn : n = l.length) (hle : n ≤ 1000) : appB H 1 8 1 [vi .i64 x] id 0 n 1 (l.map (vi .i64)) = some (.sref H.length 0 (n + 1) 1, H.set id none ++ [some ((l ++ [x]).map (vi .i64))]) := app_i H l x id n hn hle
theorem call_ros {f : Nat} {v : Int} {l : List Int} {r : V} (hC : C Try.prog f [.agg (cRos ⟨v, .of l⟩)] [] r []) (hr : Closed r) {H : Heap} {id n : Nat} (hb : blkAt H id = some (l.map (vi .i64))) (hn : n = l.length) :
    CallRel Try.prog f H [.agg (gRos_members ⟨v, .nil⟩ (.sref id 0 n 1))] r (H.set id none) [id] [id] := by
  have hi : ∀ (ids : List Nat), ids = [id] → ArgRel H ids [] (.sref id 0 n 1) (.sref 0 0 n 1) := fun ids e => by
    subst e; simp only [ArgRel]; exact .inl ⟨0, rfl, rfl⟩
  refine call_give (args1 := [.agg (gRos_members ⟨v, .nil⟩ (.sref 0 0 n 1))]) hC hr hb (nums_closed _ _) (by simp [idsInL, idsIn, gRos_members_ids]) ⟨argL_cons (arg_agg ?_) argL_nil, argL_cons (arg_agg ?_) argL_nil⟩
  · show ArgRelL H [id] [] [vi .u64 v, .sref id 0 n 1] [vi .u64 v, .sref 0 0 n 1]
    exact argL_cons (arg_closed _ trivial) (argL_cons (hi _ rfl) argL_nil)
  · refine argG_Ros_members ⟨v, .nil⟩ (r := .of l) ?_
    have h1 : (l.map (vi .i64)).length = n * 1 := by rw [List.length_map, hn, Nat.mul_one]
    have h2 := arg_sl (H := [some (l.map (vi .i64))]) (bs' := [0]) (id := 0) (n := n) (sz := 1) (cells := l.map (vi .i64)) rfl (List.mem_singleton.2 rfl) h1 (nums_closed _ _)
    rw [hn] at h2 ⊢
    exact h2
set_option maxHeartbeats 4000000 in
theorem with_C (l : Ros) (m : Int) (h : l.members.l.length ≤ 9223372036854775807) : C Try.prog 72 [.agg (cRos l), vi .i64 m] [] (.tup [.agg (cRos (withL l m).1), vb (withL l m).2]) [] := by
  have kr := rightL_C l
  have kh := hasL_C l m h
  unfold withL
  by_cases hr : RosP l
  rotate_left
  · rw [if_neg fun h => hr h.1]
    refine C_of mixed Try.func72 A_roster_With_ok A_roster_With_res _ A_roster_With_nt ?_
    (repeat' (first | simp (maxSteps := 2000000) -implicitDefEqProofs only [A_roster_With, hr, Int.reduceBNe, Int.reduceBEq, rk_ext, fk_ext, len_ints, idx_ints, cells_ints, len_lst, cells_lst, sm_c, sm_a, src_ints, zros_v, zros_m, ints_nil_l, lr_ros, lr, lr2, oO, oN, oG, oNG, oM, oF, oL, rg, ci, Nat.reduceEqDiff, Nat.reduceAdd, Nat.reduceSub, Int.reduceTDiv, Int.reduceTMod, ge_iff_le, Int.reduceGE, Nat.reducePow, Int.reduceEq, Int.reduceNeg, Int.reduceLE, Int.reducePow, Int.reduceLT, Int.reduceSub, Int.reduceAdd, Int.reduceMul, Int.reduceToNat, Option.map_some, ↓reduceIte, ite_not, beq_iff_eq, bne_iff_ne, ne_eq, beq_self_eq_true, beq_eq_false_iff_ne, bne_eq_false_iff_eq, resAll, resL, resV, reduceCtorEq, Option.some.injEq, exists_eq_left', blkAt, Nat.reduceLeDiff, Nat.reduceMul, eq_self, Nat.reduceLT, undef, fillV, evParts, footOp, wrOp, chk, disj, Nat.reduceBEq] | split | ((first | apply ck_call | apply cfk_call); (first | (apply call_pure (kr) cll cl)))))
    exact out_eq rfl cl
  by_cases hh : hasL l m
  · rw [if_neg fun h => h.2 hh]
    refine C_of mixed Try.func72 A_roster_With_ok A_roster_With_res _ A_roster_With_nt ?_
    (repeat' (first | simp (maxSteps := 2000000) -implicitDefEqProofs only [A_roster_With, hr, hh, Int.reduceBNe, Int.reduceBEq, rk_ext, fk_ext, len_ints, idx_ints, cells_ints, len_lst, cells_lst, sm_c, sm_a, src_ints, zros_v, zros_m, ints_nil_l, lr_ros, lr, lr2, oO, oN, oG, oNG, oM, oF, oL, rg, ci, Nat.reduceEqDiff, Nat.reduceAdd, Nat.reduceSub, Int.reduceTDiv, Int.reduceTMod, ge_iff_le, Int.reduceGE, Nat.reducePow, Int.reduceEq, Int.reduceNeg, Int.reduceLE, Int.reducePow, Int.reduceLT, Int.reduceSub, Int.reduceAdd, Int.reduceMul, Int.reduceToNat, Option.map_some, ↓reduceIte, ite_not, beq_iff_eq, bne_iff_ne, ne_eq, beq_self_eq_true, beq_eq_false_iff_ne, bne_eq_false_iff_eq, resAll, resL, resV, reduceCtorEq, Option.some.injEq, exists_eq_left', blkAt, Nat.reduceLeDiff, Nat.reduceMul, eq_self, Nat.reduceLT, undef, fillV, evParts, footOp, wrOp, chk, disj, Nat.reduceBEq] | split | ((first | apply ck_call | apply cfk_call); (first | (apply call_pure (kr) cll cl) | (apply call_pure (kh) cll cl)))))
    exact out_eq rfl cl
  rw [if_pos ⟨hr, hh⟩]
  have hb : 1 ≤ l.version ∧ l.version ≤ 1099511627776 ∧ 1 ≤ l.members.l.length ∧ l.members.l.length ≤ 8 := by
    unfold RosP at hr; exact ⟨hr.1, hr.2.1, hr.2.2.1, hr.2.2.2.1⟩
  have wv : IntKind.u64.wrap (l.version + 1) = l.version + 1 := IntWalk.u64_in _ ⟨by omega, by omega⟩
  have hlen : (l.members.l ++ [m]).length = l.members.l.length + 1 := by simp
  have af := fun H id => app_iz H l.members.l m id l.members.l.length rfl (by omega)
  have ks := sort_C (l.members.l ++ [m]) (l.members.l.length + 1) hlen.symm (by omega)
  have kc := cloneI_C l.members (by omega) (by omega)
  by_cases hp : RosP ⟨l.version + 1, .of (sortI (l.members.l ++ [m]))⟩
  · rw [if_pos hp]
    have k2 := so_C _ hp
    refine C_of mixed Try.func72 A_roster_With_ok A_roster_With_res _ A_roster_With_nt ?_
    (repeat' (first | simp (maxSteps := 2000000) -implicitDefEqProofs only [A_roster_With, hr, hh, wv, af, blk_zi, slB_st, Int.reduceBNe, Int.reduceBEq, rk_ext, fk_ext, len_ints, idx_ints, cells_ints, len_lst, cells_lst, sm_c, sm_a, src_ints, zros_v, zros_m, ints_nil_l, lr_ros, lr, lr2, oO, oN, oG, oNG, oM, oF, oL, rg, ci, Nat.reduceEqDiff, Nat.reduceAdd, Nat.reduceSub, Int.reduceTDiv, Int.reduceTMod, ge_iff_le, Int.reduceGE, Nat.reducePow, Int.reduceEq, Int.reduceNeg, Int.reduceLE, Int.reducePow, Int.reduceLT, Int.reduceSub, Int.reduceAdd, Int.reduceMul, Int.reduceToNat, Option.map_some, ↓reduceIte, ite_not, beq_iff_eq, bne_iff_ne, ne_eq, beq_self_eq_true, beq_eq_false_iff_ne, bne_eq_false_iff_eq, resAll, resL, resV, reduceCtorEq, Option.some.injEq, exists_eq_left', blkAt, Nat.reduceLeDiff, Nat.reduceMul, eq_self, Nat.reduceLT, undef, fillV, evParts, footOp, wrOp, chk, disj, Nat.reduceBEq] | split | ((first | apply ck_call | apply cfk_call); (first | (apply call_pure (kr) cll cl) | (apply call_pure (kh) cll cl) | (apply call_new (kc) cll cll) | (apply call_updS (ks) rfl cll cll cll cl)))))
    refine ck_call _ _ (call_ros k2 cl rfl (by rw [sortI_len, hlen])) ?_
    (repeat' (first | simp (maxSteps := 2000000) -implicitDefEqProofs only [Int.reduceBNe, Int.reduceBEq, rk_ext, fk_ext, len_ints, idx_ints, cells_ints, len_lst, cells_lst, sm_c, sm_a, src_ints, zros_v, zros_m, ints_nil_l, lr_ros, lr, lr2, oO, oN, oG, oNG, oM, oF, oL, rg, ci, Nat.reduceEqDiff, Nat.reduceAdd, Nat.reduceSub, Int.reduceTDiv, Int.reduceTMod, ge_iff_le, Int.reduceGE, Nat.reducePow, Int.reduceEq, Int.reduceNeg, Int.reduceLE, Int.reducePow, Int.reduceLT, Int.reduceSub, Int.reduceAdd, Int.reduceMul, Int.reduceToNat, Option.map_some, ↓reduceIte, ite_not, beq_iff_eq, bne_iff_ne, ne_eq, beq_self_eq_true, beq_eq_false_iff_ne, bne_eq_false_iff_eq, resAll, resL, resV, reduceCtorEq, Option.some.injEq, exists_eq_left', blkAt, Nat.reduceLeDiff, Nat.reduceMul, eq_self, Nat.reduceLT, undef, fillV, evParts, footOp, wrOp, chk, disj, Nat.reduceBEq] | split))
    exact out_eq rfl cl
  · rw [if_neg hp]
    have k2 := soN_C _ hp
    refine C_of mixed Try.func72 A_roster_With_ok A_roster_With_res _ A_roster_With_nt ?_
    (repeat' (first | simp (maxSteps := 2000000) -implicitDefEqProofs only [A_roster_With, hr, hh, wv, af, blk_zi, slB_st, Int.reduceBNe, Int.reduceBEq, rk_ext, fk_ext, len_ints, idx_ints, cells_ints, len_lst, cells_lst, sm_c, sm_a, src_ints, zros_v, zros_m, ints_nil_l, lr_ros, lr, lr2, oO, oN, oG, oNG, oM, oF, oL, rg, ci, Nat.reduceEqDiff, Nat.reduceAdd, Nat.reduceSub, Int.reduceTDiv, Int.reduceTMod, ge_iff_le, Int.reduceGE, Nat.reducePow, Int.reduceEq, Int.reduceNeg, Int.reduceLE, Int.reducePow, Int.reduceLT, Int.reduceSub, Int.reduceAdd, Int.reduceMul, Int.reduceToNat, Option.map_some, ↓reduceIte, ite_not, beq_iff_eq, bne_iff_ne, ne_eq, beq_self_eq_true, beq_eq_false_iff_ne, bne_eq_false_iff_eq, resAll, resL, resV, reduceCtorEq, Option.some.injEq, exists_eq_left', blkAt, Nat.reduceLeDiff, Nat.reduceMul, eq_self, Nat.reduceLT, undef, fillV, evParts, footOp, wrOp, chk, disj, Nat.reduceBEq] | split | ((first | apply ck_call | apply cfk_call); (first | (apply call_pure (kr) cll cl) | (apply call_pure (kh) cll cl) | (apply call_new (kc) cll cll) | (apply call_updS (ks) rfl cll cll cll cl)))))
    refine ck_call _ _ (call_ros k2 cl rfl (by rw [sortI_len, hlen])) ?_
    (repeat' (first | simp (maxSteps := 2000000) -implicitDefEqProofs only [Int.reduceBNe, Int.reduceBEq, rk_ext, fk_ext, len_ints, idx_ints, cells_ints, len_lst, cells_lst, sm_c, sm_a, src_ints, zros_v, zros_m, ints_nil_l, lr_ros, lr, lr2, oO, oN, oG, oNG, oM, oF, oL, rg, ci, Nat.reduceEqDiff, Nat.reduceAdd, Nat.reduceSub, Int.reduceTDiv, Int.reduceTMod, ge_iff_le, Int.reduceGE, Nat.reducePow, Int.reduceEq, Int.reduceNeg, Int.reduceLE, Int.reducePow, Int.reduceLT, Int.reduceSub, Int.reduceAdd, Int.reduceMul, Int.reduceToNat, Option.map_some, ↓reduceIte, ite_not, beq_iff_eq, bne_iff_ne, ne_eq, beq_self_eq_true, beq_eq_false_iff_ne, bne_eq_false_iff_eq, resAll, resL, resV, reduceCtorEq, Option.some.injEq, exists_eq_left', blkAt, Nat.reduceLeDiff, Nat.reduceMul, eq_self, Nat.reduceLT, undef, fillV, evParts, footOp, wrOp, chk, disj, Nat.reduceBEq] | split))
    exact out_eq rfl cl
end Go.Proofs.Ytmmaenfjnkoknaa.VA
