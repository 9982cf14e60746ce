/- Lists are adopted; lists of bits, votes. -/
import Derived.Test.YtmmaenfjnkoknaaCend
import Derived.Test.YtmmaenfjnkoknaaVC
set_option linter.unusedVariables false
set_option linter.unusedSimpArgs false
set_option maxRecDepth 100000
namespace Go.Proofs.Ytmmaenfjnkoknaa.VA
open Go
attribute [local irreducible] WK NK XK TK RK FK CK CFK CallRel C
theorem src_ints (H : Heap) (k : IntKind) (r : Ints) : srcCells H 1 (intsV k r) = some (r.l.length, r.l.map (vi k)) := by
  cases r with
  | nil => rfl
  | of l => simp [intsV, srcCells, slCells, Ints.l]
theorem app_e0 (H : Heap) (m id : Nat) (ys : List V) (hm : m ≤ 1000) : appB H 1 8 m ys id 0 0 1 [] = some (.sref H.length 0 m 1, H.set id none ++ [some ys]) := by
  unfold appB
  rw [if_pos ⟨rfl, rfl, by simp, by omega, by omega⟩]
  simp
theorem blk_zi (cs : List V) : blkOf [.int .i64 0] cs = cs := rfl
theorem show_ros {H : Heap} {id n : Nat} {l : List Int} (X : Ros) (hb : blkAt H id = some (l.map (vi .i64))) (hn : n = l.length) : OutOK 0 H (.agg (gRos_members X (.sref id 0 n 1))) (.agg (cRos { X with members := .of l })) [] := by
  subst hn
  exact out_show [id] (fun i h => by simp at h; subst h; exact ⟨_, hb⟩) (arg_agg (argG_Ros_members X (arg_sl hb (by simp) (by simp) (nums_closed .i64 l))))
theorem zros_v : Ros.zero.version = 0 := rfl
theorem zros_m : Ros.zero.members = .nil := rfl
theorem ints_nil_l : Ints.nil.l = [] := rfl
attribute [local irreducible] markL keyL RosP majL
def bitX (x : Int) (i : Nat) : Int := IntKind.i64.wrap ((BitVec.ofInt IntKind.i64.bits (x.fdiv (2 ^ (min i IntKind.i64.bits))) &&& BitVec.ofInt IntKind.i64.bits 1).toNat)
theorem bit_shr (x : Int) (i : Nat) : evBin .shr (.sc (.int .i64 x)) (.sc (.int .u64 (i : Int))) = some (.sc (.int .i64 (x.fdiv (2 ^ (min i IntKind.i64.bits))))) := by
  rw [bin_shr _ _ _ _ (by omega), Int.toNat_natCast]
theorem bit_and (x : Int) (i : Nat) : evBin .and (.sc (.int .i64 (x.fdiv (2 ^ (min i IntKind.i64.bits))))) (.sc (.int .i64 1)) = some (.sc (.int .i64 (bitX x i))) := by
  rw [bin_and]; rfl
def bitsU (n : Nat) (x : Int) : List Int := ((List.range n).filter fun (i : Nat) => decide (bitX x i = 1)).map fun (i : Nat) => (i : Int)
theorem bitsU_S (n : Nat) (x : Int) : bitsU (n + 1) x = bitsU n x ++ (if bitX x n = 1 then [(n : Int)] else []) := by
  unfold bitsU
  rw [List.range_succ, List.filter_append, List.map_append]
  congr 1
  by_cases h : bitX x n = 1
  · rw [if_pos h]; simp [h]
  · rw [if_neg h]; simp [h]
theorem bitsU_le (n : Nat) (x : Int) : (bitsU n x).length ≤ n := by
  unfold bitsU
  rw [List.length_map]
  exact Nat.le_trans (List.length_filter_le _ _) (by simp)
instance (k : IntKind) (l : List Int) : ClL (l.map (vi k)) := ⟨nums_closed k l⟩
theorem intsV_nil (k : IntKind) : intsV k .nil = vnil := rfl
theorem argGG_Ros {H : Heap} {ids : List Nat} {x : Ros} {id k n z : Nat} (h : ids[k]? = some id) : ArgRelL H ids [] (gRos_members x (.sref id 0 n z)) (gRos_members x (.sref k 0 n z)) ↔ True := by
  refine ⟨fun _ => trivial, fun _ => ?_⟩
  have hs : ArgRel H ids [] (.sref id 0 n z) (.sref k 0 n z) := by simp only [ArgRel]; exact .inl ⟨k, h, rfl⟩
  exact argL_cons (arg_closed _ trivial) (argL_cons hs argL_nil)
def isOf : List Int → Ints
  | [] => .nil
  | x :: l => .of (x :: l)
theorem isOf_l (l : List Int) : (isOf l).l = l := by cases l <;> rfl
theorem isOf_ne {l : List Int} (h : 0 < l.length) : isOf l = .of l := by cases l with | nil => simp at h | cons x l => rfl
def listF (v x : Int) : Ros := ⟨v, isOf (bitsU 8 x)⟩
theorem listF_le (v x : Int) : (listF v x).members.l.length ≤ 8 := by unfold listF; rw [isOf_l]; exact bitsU_le 8 x
theorem app_i (H : Heap) (l : List Int) (x : Int) (id n : Nat) (hn : n = l.length) (hle : n ≤ 1000) : appB H 1 8 1 [vi .i64 x] id 0 n 1 (l.map (vi .i64)) = some (.sref H.length 0 (n + 1) 1, H.set id none ++ [some ((l ++ [x]).map (vi .i64))]) := by
  subst hn
  unfold appB
  rw [if_pos ⟨rfl, rfl, by simp, by omega, by omega⟩, Nat.mul_one, List.take_of_length_le (by simp)]
  simp
set_option maxHeartbeats 4000000 in
theorem listF_C (v x : Int) : C Try.prog 30 [vi .u64 v, vi .i64 x] [] (.agg (cRos (listF v x))) [] := by
  refine C_of mixed Try.func30 A_clavigerlaw15_list_ok A_clavigerlaw15_list_res _ A_clavigerlaw15_list_nt ?_
  (repeat' (first | simp (maxSteps := 2000000) -implicitDefEqProofs only [A_clavigerlaw15_list, Int.reduceBNe, Int.reduceBEq, rk_ext, fk_ext, len_ints, idx_ints, cells_ints, len_lst, cells_lst, sm_c, sm_a, src_ints, zros_v, zros_m, ints_nil_l, lr_ros, lr, lr2, oO, oN, oG, oNG, oM, oF, oL, rg, ci, Nat.reduceEqDiff, Nat.reduceAdd, Nat.reduceSub, Int.reduceTDiv, Int.reduceTMod, ge_iff_le, Int.reduceGE, Nat.reducePow, Int.reduceEq, Int.reduceNeg, Int.reduceLE, Int.reducePow, Int.reduceLT, Int.reduceSub, Int.reduceAdd, Int.reduceMul, Int.reduceToNat, Option.map_some, ↓reduceIte, ite_not, beq_iff_eq, bne_iff_ne, ne_eq, beq_self_eq_true, beq_eq_false_iff_ne, bne_eq_false_iff_eq, resAll, resL, resV, reduceCtorEq, Option.some.injEq, exists_eq_left', blkAt, Nat.reduceLeDiff, Nat.reduceMul, eq_self, Nat.reduceLT, undef, fillV, evParts, footOp, wrOp, chk, disj, Nat.reduceBEq] | split))
  refine wk_loop (fun m S H => ∃ i : Nat, i ≤ 8 ∧ m = 8 - i ∧ S = (.dead :: vi .i64 x :: .dead :: .dead :: .ref 0 0 :: .ref 1 0 :: vi .i64 i :: .dead :: .dead :: .dead :: .dead :: .dead :: .dead :: .dead :: .dead :: .dead :: .dead :: .dead :: .dead :: .dead :: .dead :: .dead :: .dead :: .dead :: .dead :: .dead :: []) ∧
      (bitsU i x = [] ∧ H = [some (cRos Ros.zero), some (cRos ⟨v, .nil⟩)] ∨
       0 < (bitsU i x).length ∧ H = [some (cRos Ros.zero), some (gRos_members ⟨v, .nil⟩ (.sref 2 0 (bitsU i x).length 1)), some ((bitsU i x).map (vi .i64))])) 8 ⟨0, Nat.zero_le _, rfl, rfl, .inl ⟨rfl, rfl⟩⟩ (by refine .ren _ _ _ [0, 1] (by decide) (by intro k h; first | exact absurd h (Nat.not_lt_zero k) | (simp at h; done) | (match k, h with | 0, _ => rfl)) ?_ ?_ <;> simp [KeepS, KeepH, ArgRel, ArgRelL, argL_cl, arg_cl, row_l_of, row_l_nil, bn_len, blkAt]) ?_
  rintro m S H ⟨i, hi, rfl, rfl, hH⟩ J hJ
  have d0 : (0 : Int) ≤ i := by omega
  by_cases hin : i < 8
  · have d1 : (i : Int) < 8 := by omega
    have w1 : IntKind.i64.wrap ((i : Int) + 1) = ((i + 1 : Nat) : Int) := by rw [wrap_id _ (by omega) (by omega)]; omega
    have w2 : IntKind.u64.wrap (i : Int) = (i : Int) := IntWalk.u64_in _ ⟨by omega, by omega⟩
    have b1 := bit_shr x i
    have b2 := bit_and x i
    have hS := bitsU_S i x
    have hle := bitsU_le i x
    by_cases hb : bitX x i = 1
    · rw [if_pos hb] at hS
      rcases hH with ⟨h0, rfl⟩ | ⟨h0, rfl⟩
      · rw [h0, List.nil_append] at hS
        (repeat' (first | simp (maxSteps := 2000000) -implicitDefEqProofs only [A_clavigerlaw15_list_L0, d1, w1, w2, b1, b2, hb, blk_zi, slB_st, intsV_nil, Int.reduceBNe, Int.reduceBEq, rk_ext, fk_ext, len_ints, idx_ints, cells_ints, len_lst, cells_lst, sm_c, sm_a, src_ints, zros_v, zros_m, ints_nil_l, lr_ros, lr, lr2, oO, oN, oG, oNG, oM, oF, oL, rg, ci, Nat.reduceEqDiff, Nat.reduceAdd, Nat.reduceSub, Int.reduceTDiv, Int.reduceTMod, ge_iff_le, Int.reduceGE, Nat.reducePow, Int.reduceEq, Int.reduceNeg, Int.reduceLE, Int.reducePow, Int.reduceLT, Int.reduceSub, Int.reduceAdd, Int.reduceMul, Int.reduceToNat, Option.map_some, ↓reduceIte, ite_not, beq_iff_eq, bne_iff_ne, ne_eq, beq_self_eq_true, beq_eq_false_iff_ne, bne_eq_false_iff_eq, resAll, resL, resV, reduceCtorEq, Option.some.injEq, exists_eq_left', blkAt, Nat.reduceLeDiff, Nat.reduceMul, eq_self, Nat.reduceLT, undef, fillV, evParts, footOp, wrOp, chk, disj, Nat.reduceBEq] | split))
        exact hJ _ _ _ _ _ (by omega) ⟨i + 1, by omega, rfl, rfl, .inr ⟨by rw [hS]; exact Nat.one_pos, rfl⟩⟩ (by refine .ren _ _ _ [0, 1, 3] (by decide) (by intro k h; first | exact absurd h (Nat.not_lt_zero k) | (simp at h; done) | (match k, h with | 0, _ => rfl)) ?_ ?_ <;> simp [KeepS, KeepH, ArgRel, ArgRelL, argL_cl, arg_cl, row_l_of, row_l_nil, bn_len, blkAt, hS, argGG_Ros])
      · have af := fun H id => app_i H (bitsU i x) i id (bitsU i x).length rfl (by omega)
        (repeat' (first | simp (maxSteps := 2000000) -implicitDefEqProofs only [A_clavigerlaw15_list_L0, d1, w1, w2, b1, b2, hb, af, blk_zi, slB_st, Int.reduceBNe, Int.reduceBEq, rk_ext, fk_ext, len_ints, idx_ints, cells_ints, len_lst, cells_lst, sm_c, sm_a, src_ints, zros_v, zros_m, ints_nil_l, lr_ros, lr, lr2, oO, oN, oG, oNG, oM, oF, oL, rg, ci, Nat.reduceEqDiff, Nat.reduceAdd, Nat.reduceSub, Int.reduceTDiv, Int.reduceTMod, ge_iff_le, Int.reduceGE, Nat.reducePow, Int.reduceEq, Int.reduceNeg, Int.reduceLE, Int.reducePow, Int.reduceLT, Int.reduceSub, Int.reduceAdd, Int.reduceMul, Int.reduceToNat, Option.map_some, ↓reduceIte, ite_not, beq_iff_eq, bne_iff_ne, ne_eq, beq_self_eq_true, beq_eq_false_iff_ne, bne_eq_false_iff_eq, resAll, resL, resV, reduceCtorEq, Option.some.injEq, exists_eq_left', blkAt, Nat.reduceLeDiff, Nat.reduceMul, eq_self, Nat.reduceLT, undef, fillV, evParts, footOp, wrOp, chk, disj, Nat.reduceBEq] | split))
        exact hJ _ _ _ _ _ (by omega) ⟨i + 1, by omega, rfl, rfl, .inr ⟨by rw [hS, List.length_append]; omega, rfl⟩⟩ (by refine .ren _ _ _ [0, 1, 4] (by decide) (by intro k h; first | exact absurd h (Nat.not_lt_zero k) | (simp at h; done) | (match k, h with | 0, _ => rfl)) ?_ ?_ <;> simp [KeepS, KeepH, ArgRel, ArgRelL, argL_cl, arg_cl, row_l_of, row_l_nil, bn_len, blkAt, hS, argGG_Ros])
    · rw [if_neg hb, List.append_nil] at hS
      rcases hH with ⟨h0, rfl⟩ | ⟨h0, rfl⟩
      · (repeat' (first | simp (maxSteps := 2000000) -implicitDefEqProofs only [A_clavigerlaw15_list_L0, d1, w1, w2, b1, b2, hb, Int.reduceBNe, Int.reduceBEq, rk_ext, fk_ext, len_ints, idx_ints, cells_ints, len_lst, cells_lst, sm_c, sm_a, src_ints, zros_v, zros_m, ints_nil_l, lr_ros, lr, lr2, oO, oN, oG, oNG, oM, oF, oL, rg, ci, Nat.reduceEqDiff, Nat.reduceAdd, Nat.reduceSub, Int.reduceTDiv, Int.reduceTMod, ge_iff_le, Int.reduceGE, Nat.reducePow, Int.reduceEq, Int.reduceNeg, Int.reduceLE, Int.reducePow, Int.reduceLT, Int.reduceSub, Int.reduceAdd, Int.reduceMul, Int.reduceToNat, Option.map_some, ↓reduceIte, ite_not, beq_iff_eq, bne_iff_ne, ne_eq, beq_self_eq_true, beq_eq_false_iff_ne, bne_eq_false_iff_eq, resAll, resL, resV, reduceCtorEq, Option.some.injEq, exists_eq_left', blkAt, Nat.reduceLeDiff, Nat.reduceMul, eq_self, Nat.reduceLT, undef, fillV, evParts, footOp, wrOp, chk, disj, Nat.reduceBEq] | split))
        exact hJ _ _ _ _ _ (by omega) ⟨i + 1, by omega, rfl, rfl, .inl ⟨by rw [hS]; exact h0, rfl⟩⟩ (by refine .ren _ _ _ [0, 1] (by decide) (by intro k h; first | exact absurd h (Nat.not_lt_zero k) | (simp at h; done) | (match k, h with | 0, _ => rfl)) ?_ ?_ <;> simp [KeepS, KeepH, ArgRel, ArgRelL, argL_cl, arg_cl, row_l_of, row_l_nil, bn_len, blkAt])
      · (repeat' (first | simp (maxSteps := 2000000) -implicitDefEqProofs only [A_clavigerlaw15_list_L0, d1, w1, w2, b1, b2, hb, Int.reduceBNe, Int.reduceBEq, rk_ext, fk_ext, len_ints, idx_ints, cells_ints, len_lst, cells_lst, sm_c, sm_a, src_ints, zros_v, zros_m, ints_nil_l, lr_ros, lr, lr2, oO, oN, oG, oNG, oM, oF, oL, rg, ci, Nat.reduceEqDiff, Nat.reduceAdd, Nat.reduceSub, Int.reduceTDiv, Int.reduceTMod, ge_iff_le, Int.reduceGE, Nat.reducePow, Int.reduceEq, Int.reduceNeg, Int.reduceLE, Int.reducePow, Int.reduceLT, Int.reduceSub, Int.reduceAdd, Int.reduceMul, Int.reduceToNat, Option.map_some, ↓reduceIte, ite_not, beq_iff_eq, bne_iff_ne, ne_eq, beq_self_eq_true, beq_eq_false_iff_ne, bne_eq_false_iff_eq, resAll, resL, resV, reduceCtorEq, Option.some.injEq, exists_eq_left', blkAt, Nat.reduceLeDiff, Nat.reduceMul, eq_self, Nat.reduceLT, undef, fillV, evParts, footOp, wrOp, chk, disj, Nat.reduceBEq] | split))
        exact hJ _ _ _ _ _ (by omega) ⟨i + 1, by omega, rfl, rfl, .inr ⟨by rw [hS]; exact h0, rfl⟩⟩ (by refine .ren _ _ _ [0, 1, 2] (by decide) (by intro k h; first | exact absurd h (Nat.not_lt_zero k) | (simp at h; done) | (match k, h with | 0, _ => rfl)) ?_ ?_ <;> simp [KeepS, KeepH, ArgRel, ArgRelL, argL_cl, arg_cl, row_l_of, row_l_nil, bn_len, blkAt, hS, argGG_Ros])
  · obtain rfl : i = 8 := by omega
    unfold listF
    rcases hH with ⟨h0, rfl⟩ | ⟨h0, rfl⟩
    · (repeat' (first | simp (maxSteps := 2000000) -implicitDefEqProofs only [A_clavigerlaw15_list_L0, K_clavigerlaw15_list_L0, Int.reduceBNe, Int.reduceBEq, rk_ext, fk_ext, len_ints, idx_ints, cells_ints, len_lst, cells_lst, sm_c, sm_a, src_ints, zros_v, zros_m, ints_nil_l, lr_ros, lr, lr2, oO, oN, oG, oNG, oM, oF, oL, rg, ci, Nat.reduceEqDiff, Nat.reduceAdd, Nat.reduceSub, Int.reduceTDiv, Int.reduceTMod, ge_iff_le, Int.reduceGE, Nat.reducePow, Int.reduceEq, Int.reduceNeg, Int.reduceLE, Int.reducePow, Int.reduceLT, Int.reduceSub, Int.reduceAdd, Int.reduceMul, Int.reduceToNat, Option.map_some, ↓reduceIte, ite_not, beq_iff_eq, bne_iff_ne, ne_eq, beq_self_eq_true, beq_eq_false_iff_ne, bne_eq_false_iff_eq, resAll, resL, resV, reduceCtorEq, Option.some.injEq, exists_eq_left', blkAt, Nat.reduceLeDiff, Nat.reduceMul, eq_self, Nat.reduceLT, undef, fillV, evParts, footOp, wrOp, chk, disj, Nat.reduceBEq] | split))
      rw [h0]
      exact out_eq rfl cl
    · (repeat' (first | simp (maxSteps := 2000000) -implicitDefEqProofs only [A_clavigerlaw15_list_L0, K_clavigerlaw15_list_L0, Int.reduceBNe, Int.reduceBEq, rk_ext, fk_ext, len_ints, idx_ints, cells_ints, len_lst, cells_lst, sm_c, sm_a, src_ints, zros_v, zros_m, ints_nil_l, lr_ros, lr, lr2, oO, oN, oG, oNG, oM, oF, oL, rg, ci, Nat.reduceEqDiff, Nat.reduceAdd, Nat.reduceSub, Int.reduceTDiv, Int.reduceTMod, ge_iff_le, Int.reduceGE, Nat.reducePow, Int.reduceEq, Int.reduceNeg, Int.reduceLE, Int.reducePow, Int.reduceLT, Int.reduceSub, Int.reduceAdd, Int.reduceMul, Int.reduceToNat, Option.map_some, ↓reduceIte, ite_not, beq_iff_eq, bne_iff_ne, ne_eq, beq_self_eq_true, beq_eq_false_iff_ne, bne_eq_false_iff_eq, resAll, resL, resV, reduceCtorEq, Option.some.injEq, exists_eq_left', blkAt, Nat.reduceLeDiff, Nat.reduceMul, eq_self, Nat.reduceLT, undef, fillV, evParts, footOp, wrOp, chk, disj, Nat.reduceBEq] | split))
      rw [isOf_ne h0]
      exact show_ros ⟨v, .nil⟩ rfl rfl
end Go.Proofs.Ytmmaenfjnkoknaa.VA
