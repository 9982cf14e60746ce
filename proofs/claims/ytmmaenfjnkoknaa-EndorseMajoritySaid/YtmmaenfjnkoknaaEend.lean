/- Votes of bits; layer 15's laws. -/
import Derived.Test.YtmmaenfjnkoknaaDend
import Derived.Test.YtmmaenfjnkoknaaVC
set_option linter.unusedVariables false
set_option linter.unusedSimpArgs false
set_option maxRecDepth 100000
namespace Go.Proofs.Ytmmaenfjnkoknaa.VA
open Go
attribute [local irreducible] WK NK XK TK RK FK CK CFK CallRel C
attribute [local irreducible] markL keyL RosP majL bitX listF
def voteF (c : Bn 16) (l : Ros) (bad : Int) (i : Nat) : Vot := ⟨i, if bitX bad i = 1 then (markL (keyL c i) l).set 5 ((markL (keyL c i) l).1.getD 5 0 ^^^ 1) else markL (keyL c i) l⟩
def votesU (c : Bn 16) (l : Ros) (who bad : Int) (n : Nat) : List Vot := ((List.range n).filter fun (i : Nat) => decide (bitX who i = 1)).map fun (i : Nat) => voteF c l bad i
theorem votesU_S (c : Bn 16) (l : Ros) (who bad : Int) (n : Nat) : votesU c l who bad (n + 1) = votesU c l who bad n ++ (if bitX who n = 1 then [voteF c l bad n] else []) := by
  unfold votesU
  rw [List.range_succ, List.filter_append, List.map_append]
  congr 1
  by_cases h : bitX who n = 1
  · rw [if_pos h]; simp [h]
  · rw [if_neg h]; simp [h]
theorem votesU_le (c : Bn 16) (l : Ros) (who bad : Int) (n : Nat) : (votesU c l who bad n).length ≤ n := by
  unfold votesU
  rw [List.length_map]
  exact Nat.le_trans (List.length_filter_le _ _) (by simp)
def vsOf : List Vot → Lst Vot
  | [] => .nil
  | x :: l => .of (x :: l)
theorem vsOf_l (l : List Vot) : (vsOf l).l = l := by cases l <;> rfl
theorem vsOf_ne {l : List Vot} (h : 0 < l.length) : vsOf l = .of l := by cases l with | nil => simp at h | cons x l => rfl
def votesF (c : Bn 16) (l : Ros) (who bad : Int) : Lst Vot := vsOf (votesU c l who bad 8)
theorem votesF_le (c : Bn 16) (l : Ros) (who bad : Int) : (votesF c l who bad).l.length ≤ 8 := by unfold votesF; rw [vsOf_l]; exact votesU_le c l who bad 8
theorem show_vot {H : Heap} {id n : Nat} {l : List Vot} (hb : blkAt H id = some (l.flatMap cVot)) (hn : n = l.length) : OutOK 0 H (.sref id 0 n 17) (lstV cVot (.of l)) [] :=
  out_show [id] (fun i h => by simp at h; subst h; exact ⟨_, hb⟩) (arg_lst cVot_len cVot_closed hb (by simp) hn)
theorem blk_zVot (cs : List V) : blkOf zVot cs = cs := rfl
set_option maxHeartbeats 8000000 in
theorem votesF_C (c : Bn 16) (l : Ros) (who bad : Int) (h0 : 0 ≤ l.version) (h1 : l.version < 18446744073709551616) (h8 : l.members.l.length ≤ 1000) : C Try.prog 31 [.agg (dg c), .agg (cRos l), vi .i64 who, vi .i64 bad] [] (lstV cVot (votesF c l who bad)) [] := by
  refine C_of mixed Try.func31 A_clavigerlaw15_votes_ok A_clavigerlaw15_votes_res _ A_clavigerlaw15_votes_nt ?_
  (repeat' (first | simp (maxSteps := 2000000) -implicitDefEqProofs only [A_clavigerlaw15_votes, Int.reduceBNe, Int.reduceBEq, rk_ext, fk_ext, len_ints, idx_ints, cells_ints, len_lst, cells_lst, sm_c, sm_a, src_ints, zros_v, zros_m, ints_nil_l, lr_ros, lr, lr2, oO, oN, oG, oNG, oM, oF, oL, rg, ci, Nat.reduceEqDiff, Nat.reduceAdd, Nat.reduceSub, Int.reduceTDiv, Int.reduceTMod, ge_iff_le, Int.reduceGE, Nat.reducePow, Int.reduceEq, Int.reduceNeg, Int.reduceLE, Int.reducePow, Int.reduceLT, Int.reduceSub, Int.reduceAdd, Int.reduceMul, Int.reduceToNat, Option.map_some, ↓reduceIte, ite_not, beq_iff_eq, bne_iff_ne, ne_eq, beq_self_eq_true, beq_eq_false_iff_ne, bne_eq_false_iff_eq, resAll, resL, resV, reduceCtorEq, Option.some.injEq, exists_eq_left', blkAt, Nat.reduceLeDiff, Nat.reduceMul, eq_self, Nat.reduceLT, undef, fillV, evParts, footOp, wrOp, chk, disj, Nat.reduceBEq] | split))
  refine wk_loop (fun m S H => ∃ i : Nat, i ≤ 8 ∧ m = 8 - i ∧
      (votesU c l who bad i = [] ∧ S = (.dead :: .dead :: vi .i64 who :: vi .i64 bad :: .ref 0 0 :: .ref 1 0 :: .dead :: .dead :: .dead :: vnil :: vi .i64 i :: .dead :: .dead :: .dead :: .dead :: .dead :: .dead :: .dead :: .dead :: .dead :: .dead :: .dead :: .dead :: .dead :: .dead :: .dead :: .dead :: .dead :: .dead :: .dead :: .dead :: .dead :: .dead :: .dead :: .dead :: .dead :: .dead :: .dead :: .dead :: .dead :: .dead :: .dead :: .dead :: .dead :: []) ∧ H = [some (dg c), some (cRos l)] ∨
       0 < (votesU c l who bad i).length ∧ S = (.dead :: .dead :: vi .i64 who :: vi .i64 bad :: .ref 0 0 :: .ref 1 0 :: .dead :: .dead :: .dead :: .sref 2 0 (votesU c l who bad i).length 17 :: vi .i64 i :: .dead :: .dead :: .dead :: .dead :: .dead :: .dead :: .dead :: .dead :: .dead :: .dead :: .dead :: .dead :: .dead :: .dead :: .dead :: .dead :: .dead :: .dead :: .dead :: .dead :: .dead :: .dead :: .dead :: .dead :: .dead :: .dead :: .dead :: .dead :: .dead :: .dead :: .dead :: .dead :: .dead :: []) ∧ H = [some (dg c), some (cRos l), some ((votesU c l who bad i).flatMap cVot)])) 8 ⟨0, Nat.zero_le _, rfl, .inl ⟨rfl, rfl, rfl⟩⟩ (by refine .ren _ _ _ [0, 1] (by decide) (by intro k h; first | exact absurd h (Nat.not_lt_zero k) | (simp at h; done) | (match k, h with | 0, _ => rfl)) ?_ ?_ <;> simp [KeepS, KeepH, ArgRel, ArgRelL, argL_cl, arg_cl, row_l_of, row_l_nil, bn_len, blkAt]) ?_
  rintro m S H ⟨i, hi, rfl, hH⟩ J hJ
  have d0 : (0 : Int) ≤ i := by omega
  by_cases hin : i < 8
  · have d1 : (i : Int) < 8 := by omega
    have w1 : IntKind.i64.wrap ((i : Int) + 1) = ((i + 1 : Nat) : Int) := by rw [wrap_id _ (by omega) (by omega)]; omega
    have w2 : IntKind.u64.wrap (i : Int) = (i : Int) := IntWalk.u64_in _ ⟨by omega, by omega⟩
    have b1 := bit_shr who i
    have b2 := bit_and who i
    have b3 := bit_shr bad i
    have b4 := bit_and bad i
    have hS := votesU_S c l who bad i
    have hle := votesU_le c l who bad i
    have k1 := rkeyL_C c i
    have k2 := rmarkL_C (keyL c i) l h0 h1 h8
    have hvf : voteF c l bad i = ⟨i, if bitX bad i = 1 then (markL (keyL c i) l).set 5 ((markL (keyL c i) l).1.getD 5 0 ^^^ 1) else markL (keyL c i) l⟩ := rfl
    generalize markL (keyL c i) l = M at *
    have x1 : evBin .xor (.sc (.int .u8 ((M.1.getD 5 0).toNat : Int))) (.sc (.int .u8 1)) = some (.sc (.int .u8 ((M.1.getD 5 0 ^^^ 1).toNat : Int))) := xor_u8 (M.1.getD 5 0) 1
    have r1 := rd_dg M 5 (by decide)
    by_cases hb : bitX who i = 1
    · rw [if_pos hb] at hS
      by_cases hbad : bitX bad i = 1
      · rw [if_pos hbad] at hvf
        rcases hH with ⟨h0', rfl, rfl⟩ | ⟨h0', rfl, rfl⟩
        · rw [h0', List.nil_append] at hS
          (repeat' (first | simp (maxSteps := 2000000) -implicitDefEqProofs only [A_clavigerlaw15_votes_L0, d1, w1, w2, b1, b2, b3, b4, hb, hbad, r1, x1, by8_nat, blk_zVot, slB_st, Int.reduceBNe, Int.reduceBEq, rk_ext, fk_ext, len_ints, idx_ints, cells_ints, len_lst, cells_lst, sm_c, sm_a, src_ints, zros_v, zros_m, ints_nil_l, lr_ros, lr, lr2, oO, oN, oG, oNG, oM, oF, oL, rg, ci, Nat.reduceEqDiff, Nat.reduceAdd, Nat.reduceSub, Int.reduceTDiv, Int.reduceTMod, ge_iff_le, Int.reduceGE, Nat.reducePow, Int.reduceEq, Int.reduceNeg, Int.reduceLE, Int.reducePow, Int.reduceLT, Int.reduceSub, Int.reduceAdd, Int.reduceMul, Int.reduceToNat, Option.map_some, ↓reduceIte, ite_not, beq_iff_eq, bne_iff_ne, ne_eq, beq_self_eq_true, beq_eq_false_iff_ne, bne_eq_false_iff_eq, resAll, resL, resV, reduceCtorEq, Option.some.injEq, exists_eq_left', blkAt, Nat.reduceLeDiff, Nat.reduceMul, eq_self, Nat.reduceLT, undef, fillV, evParts, footOp, wrOp, chk, disj, Nat.reduceBEq] | split | ((first | apply ck_call | apply cfk_call); (first | (apply call_pure (k1) cll cl) | (apply call_pure (k2) cll cl)))))
          exact hJ _ _ _ _ _ (by omega) ⟨i + 1, by omega, rfl, .inr ⟨by rw [hS]; exact Nat.one_pos, rfl, rfl⟩⟩ (by refine .ren _ _ _ [0, 1, 4] (by decide) (by intro k h; first | exact absurd h (Nat.not_lt_zero k) | (simp at h; done) | (match k, h with | 0, _ => rfl)) ?_ ?_ <;> simp [KeepS, KeepH, ArgRel, ArgRelL, argL_cl, arg_cl, row_l_of, row_l_nil, bn_len, blkAt, hS, hvf])
        · have af := fun H id => app_fl cVot_len H (votesU c l who bad i) (voteF c l bad i) id (votesU c l who bad i).length 24 rfl (by omega) (by decide)
          rw [hvf] at af
          (repeat' (first | simp (maxSteps := 2000000) -implicitDefEqProofs only [A_clavigerlaw15_votes_L0, d1, w1, w2, b1, b2, b3, b4, hb, hbad, r1, x1, by8_nat, blk_zVot, slB_st, af, Int.reduceBNe, Int.reduceBEq, rk_ext, fk_ext, len_ints, idx_ints, cells_ints, len_lst, cells_lst, sm_c, sm_a, src_ints, zros_v, zros_m, ints_nil_l, lr_ros, lr, lr2, oO, oN, oG, oNG, oM, oF, oL, rg, ci, Nat.reduceEqDiff, Nat.reduceAdd, Nat.reduceSub, Int.reduceTDiv, Int.reduceTMod, ge_iff_le, Int.reduceGE, Nat.reducePow, Int.reduceEq, Int.reduceNeg, Int.reduceLE, Int.reducePow, Int.reduceLT, Int.reduceSub, Int.reduceAdd, Int.reduceMul, Int.reduceToNat, Option.map_some, ↓reduceIte, ite_not, beq_iff_eq, bne_iff_ne, ne_eq, beq_self_eq_true, beq_eq_false_iff_ne, bne_eq_false_iff_eq, resAll, resL, resV, reduceCtorEq, Option.some.injEq, exists_eq_left', blkAt, Nat.reduceLeDiff, Nat.reduceMul, eq_self, Nat.reduceLT, undef, fillV, evParts, footOp, wrOp, chk, disj, Nat.reduceBEq] | split | ((first | apply ck_call | apply cfk_call); (first | (apply call_pure (k1) cll cl) | (apply call_pure (k2) cll cl)))))
          exact hJ _ _ _ _ _ (by omega) ⟨i + 1, by omega, rfl, .inr ⟨by rw [hS, List.length_append]; omega, rfl, rfl⟩⟩ (by refine .ren _ _ _ [0, 1, 5] (by decide) (by intro k h; first | exact absurd h (Nat.not_lt_zero k) | (simp at h; done) | (match k, h with | 0, _ => rfl)) ?_ ?_ <;> simp [KeepS, KeepH, ArgRel, ArgRelL, argL_cl, arg_cl, row_l_of, row_l_nil, bn_len, blkAt, hS, hvf])
      · rw [if_neg hbad] at hvf
        rcases hH with ⟨h0', rfl, rfl⟩ | ⟨h0', rfl, rfl⟩
        · rw [h0', List.nil_append] at hS
          (repeat' (first | simp (maxSteps := 2000000) -implicitDefEqProofs only [A_clavigerlaw15_votes_L0, d1, w1, w2, b1, b2, b3, b4, hb, hbad, blk_zVot, slB_st, Int.reduceBNe, Int.reduceBEq, rk_ext, fk_ext, len_ints, idx_ints, cells_ints, len_lst, cells_lst, sm_c, sm_a, src_ints, zros_v, zros_m, ints_nil_l, lr_ros, lr, lr2, oO, oN, oG, oNG, oM, oF, oL, rg, ci, Nat.reduceEqDiff, Nat.reduceAdd, Nat.reduceSub, Int.reduceTDiv, Int.reduceTMod, ge_iff_le, Int.reduceGE, Nat.reducePow, Int.reduceEq, Int.reduceNeg, Int.reduceLE, Int.reducePow, Int.reduceLT, Int.reduceSub, Int.reduceAdd, Int.reduceMul, Int.reduceToNat, Option.map_some, ↓reduceIte, ite_not, beq_iff_eq, bne_iff_ne, ne_eq, beq_self_eq_true, beq_eq_false_iff_ne, bne_eq_false_iff_eq, resAll, resL, resV, reduceCtorEq, Option.some.injEq, exists_eq_left', blkAt, Nat.reduceLeDiff, Nat.reduceMul, eq_self, Nat.reduceLT, undef, fillV, evParts, footOp, wrOp, chk, disj, Nat.reduceBEq] | split | ((first | apply ck_call | apply cfk_call); (first | (apply call_pure (k1) cll cl) | (apply call_pure (k2) cll cl)))))
          exact hJ _ _ _ _ _ (by omega) ⟨i + 1, by omega, rfl, .inr ⟨by rw [hS]; exact Nat.one_pos, rfl, rfl⟩⟩ (by refine .ren _ _ _ [0, 1, 4] (by decide) (by intro k h; first | exact absurd h (Nat.not_lt_zero k) | (simp at h; done) | (match k, h with | 0, _ => rfl)) ?_ ?_ <;> simp [KeepS, KeepH, ArgRel, ArgRelL, argL_cl, arg_cl, row_l_of, row_l_nil, bn_len, blkAt, hS, hvf])
        · have af := fun H id => app_fl cVot_len H (votesU c l who bad i) (voteF c l bad i) id (votesU c l who bad i).length 24 rfl (by omega) (by decide)
          rw [hvf] at af
          (repeat' (first | simp (maxSteps := 2000000) -implicitDefEqProofs only [A_clavigerlaw15_votes_L0, d1, w1, w2, b1, b2, b3, b4, hb, hbad, blk_zVot, slB_st, af, Int.reduceBNe, Int.reduceBEq, rk_ext, fk_ext, len_ints, idx_ints, cells_ints, len_lst, cells_lst, sm_c, sm_a, src_ints, zros_v, zros_m, ints_nil_l, lr_ros, lr, lr2, oO, oN, oG, oNG, oM, oF, oL, rg, ci, Nat.reduceEqDiff, Nat.reduceAdd, Nat.reduceSub, Int.reduceTDiv, Int.reduceTMod, ge_iff_le, Int.reduceGE, Nat.reducePow, Int.reduceEq, Int.reduceNeg, Int.reduceLE, Int.reducePow, Int.reduceLT, Int.reduceSub, Int.reduceAdd, Int.reduceMul, Int.reduceToNat, Option.map_some, ↓reduceIte, ite_not, beq_iff_eq, bne_iff_ne, ne_eq, beq_self_eq_true, beq_eq_false_iff_ne, bne_eq_false_iff_eq, resAll, resL, resV, reduceCtorEq, Option.some.injEq, exists_eq_left', blkAt, Nat.reduceLeDiff, Nat.reduceMul, eq_self, Nat.reduceLT, undef, fillV, evParts, footOp, wrOp, chk, disj, Nat.reduceBEq] | split | ((first | apply ck_call | apply cfk_call); (first | (apply call_pure (k1) cll cl) | (apply call_pure (k2) cll cl)))))
          exact hJ _ _ _ _ _ (by omega) ⟨i + 1, by omega, rfl, .inr ⟨by rw [hS, List.length_append]; omega, rfl, rfl⟩⟩ (by refine .ren _ _ _ [0, 1, 5] (by decide) (by intro k h; first | exact absurd h (Nat.not_lt_zero k) | (simp at h; done) | (match k, h with | 0, _ => rfl)) ?_ ?_ <;> simp [KeepS, KeepH, ArgRel, ArgRelL, argL_cl, arg_cl, row_l_of, row_l_nil, bn_len, blkAt, hS, hvf])
    · rw [if_neg hb, List.append_nil] at hS
      rcases hH with ⟨h0', rfl, rfl⟩ | ⟨h0', rfl, rfl⟩
      · (repeat' (first | simp (maxSteps := 2000000) -implicitDefEqProofs only [A_clavigerlaw15_votes_L0, d1, w1, w2, b1, b2, hb, Int.reduceBNe, Int.reduceBEq, rk_ext, fk_ext, len_ints, idx_ints, cells_ints, len_lst, cells_lst, sm_c, sm_a, src_ints, zros_v, zros_m, ints_nil_l, lr_ros, lr, lr2, oO, oN, oG, oNG, oM, oF, oL, rg, ci, Nat.reduceEqDiff, Nat.reduceAdd, Nat.reduceSub, Int.reduceTDiv, Int.reduceTMod, ge_iff_le, Int.reduceGE, Nat.reducePow, Int.reduceEq, Int.reduceNeg, Int.reduceLE, Int.reducePow, Int.reduceLT, Int.reduceSub, Int.reduceAdd, Int.reduceMul, Int.reduceToNat, Option.map_some, ↓reduceIte, ite_not, beq_iff_eq, bne_iff_ne, ne_eq, beq_self_eq_true, beq_eq_false_iff_ne, bne_eq_false_iff_eq, resAll, resL, resV, reduceCtorEq, Option.some.injEq, exists_eq_left', blkAt, Nat.reduceLeDiff, Nat.reduceMul, eq_self, Nat.reduceLT, undef, fillV, evParts, footOp, wrOp, chk, disj, Nat.reduceBEq] | split))
        exact hJ _ _ _ _ _ (by omega) ⟨i + 1, by omega, rfl, .inl ⟨by rw [hS]; exact h0', rfl, rfl⟩⟩ (by refine .ren _ _ _ [0, 1] (by decide) (by intro k h; first | exact absurd h (Nat.not_lt_zero k) | (simp at h; done) | (match k, h with | 0, _ => rfl)) ?_ ?_ <;> simp [KeepS, KeepH, ArgRel, ArgRelL, argL_cl, arg_cl, row_l_of, row_l_nil, bn_len, blkAt])
      · (repeat' (first | simp (maxSteps := 2000000) -implicitDefEqProofs only [A_clavigerlaw15_votes_L0, d1, w1, w2, b1, b2, hb, Int.reduceBNe, Int.reduceBEq, rk_ext, fk_ext, len_ints, idx_ints, cells_ints, len_lst, cells_lst, sm_c, sm_a, src_ints, zros_v, zros_m, ints_nil_l, lr_ros, lr, lr2, oO, oN, oG, oNG, oM, oF, oL, rg, ci, Nat.reduceEqDiff, Nat.reduceAdd, Nat.reduceSub, Int.reduceTDiv, Int.reduceTMod, ge_iff_le, Int.reduceGE, Nat.reducePow, Int.reduceEq, Int.reduceNeg, Int.reduceLE, Int.reducePow, Int.reduceLT, Int.reduceSub, Int.reduceAdd, Int.reduceMul, Int.reduceToNat, Option.map_some, ↓reduceIte, ite_not, beq_iff_eq, bne_iff_ne, ne_eq, beq_self_eq_true, beq_eq_false_iff_ne, bne_eq_false_iff_eq, resAll, resL, resV, reduceCtorEq, Option.some.injEq, exists_eq_left', blkAt, Nat.reduceLeDiff, Nat.reduceMul, eq_self, Nat.reduceLT, undef, fillV, evParts, footOp, wrOp, chk, disj, Nat.reduceBEq] | split))
        exact hJ _ _ _ _ _ (by omega) ⟨i + 1, by omega, rfl, .inr ⟨by rw [hS]; exact h0', rfl, rfl⟩⟩ (by refine .ren _ _ _ [0, 1, 2] (by decide) (by intro k h; first | exact absurd h (Nat.not_lt_zero k) | (simp at h; done) | (match k, h with | 0, _ => rfl)) ?_ ?_ <;> simp [KeepS, KeepH, ArgRel, ArgRelL, argL_cl, arg_cl, row_l_of, row_l_nil, bn_len, blkAt, hS])
  · obtain rfl : i = 8 := by omega
    unfold votesF
    rcases hH with ⟨h0', rfl, rfl⟩ | ⟨h0', rfl, rfl⟩
    · (repeat' (first | simp (maxSteps := 2000000) -implicitDefEqProofs only [A_clavigerlaw15_votes_L0, K_clavigerlaw15_votes_L0, Int.reduceBNe, Int.reduceBEq, rk_ext, fk_ext, len_ints, idx_ints, cells_ints, len_lst, cells_lst, sm_c, sm_a, src_ints, zros_v, zros_m, ints_nil_l, lr_ros, lr, lr2, oO, oN, oG, oNG, oM, oF, oL, rg, ci, Nat.reduceEqDiff, Nat.reduceAdd, Nat.reduceSub, Int.reduceTDiv, Int.reduceTMod, ge_iff_le, Int.reduceGE, Nat.reducePow, Int.reduceEq, Int.reduceNeg, Int.reduceLE, Int.reducePow, Int.reduceLT, Int.reduceSub, Int.reduceAdd, Int.reduceMul, Int.reduceToNat, Option.map_some, ↓reduceIte, ite_not, beq_iff_eq, bne_iff_ne, ne_eq, beq_self_eq_true, beq_eq_false_iff_ne, bne_eq_false_iff_eq, resAll, resL, resV, reduceCtorEq, Option.some.injEq, exists_eq_left', blkAt, Nat.reduceLeDiff, Nat.reduceMul, eq_self, Nat.reduceLT, undef, fillV, evParts, footOp, wrOp, chk, disj, Nat.reduceBEq] | split))
      rw [h0']
      exact out_eq rfl cl
    · (repeat' (first | simp (maxSteps := 2000000) -implicitDefEqProofs only [A_clavigerlaw15_votes_L0, K_clavigerlaw15_votes_L0, Int.reduceBNe, Int.reduceBEq, rk_ext, fk_ext, len_ints, idx_ints, cells_ints, len_lst, cells_lst, sm_c, sm_a, src_ints, zros_v, zros_m, ints_nil_l, lr_ros, lr, lr2, oO, oN, oG, oNG, oM, oF, oL, rg, ci, Nat.reduceEqDiff, Nat.reduceAdd, Nat.reduceSub, Int.reduceTDiv, Int.reduceTMod, ge_iff_le, Int.reduceGE, Nat.reducePow, Int.reduceEq, Int.reduceNeg, Int.reduceLE, Int.reducePow, Int.reduceLT, Int.reduceSub, Int.reduceAdd, Int.reduceMul, Int.reduceToNat, Option.map_some, ↓reduceIte, ite_not, beq_iff_eq, bne_iff_ne, ne_eq, beq_self_eq_true, beq_eq_false_iff_ne, bne_eq_false_iff_eq, resAll, resL, resV, reduceCtorEq, Option.some.injEq, exists_eq_left', blkAt, Nat.reduceLeDiff, Nat.reduceMul, eq_self, Nat.reduceLT, undef, fillV, evParts, footOp, wrOp, chk, disj, Nat.reduceBEq] | split))
      rw [vsOf_ne h0']
      exact show_vot rfl rfl
end Go.Proofs.Ytmmaenfjnkoknaa.VA
