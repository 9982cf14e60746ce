/- FrameChain. -/
import Derived.Test.YtehinkckdeodhaaClaw9
import Derived.Test.YtehinkckdeodhaaVC
set_option linter.unusedVariables false
set_option linter.unusedSimpArgs false
set_option maxRecDepth 100000
namespace Go.Proofs.Ytehinkckdeodhaa.VA
open Go
attribute [local irreducible] WK NK XK TK RK FK CK CFK CallRel C
attribute [local irreducible] putR sealF textF fits recS RightR twoF sumF keepR frameF headF frec
def chH (k : Bn 16) (l : List KR) : Nat → Bn 16
  | 0 => Bn.zero 16
  | i + 1 => headF (chH k l i) (frameF k (i + 1) (chH k l i) (keepR (l.getD i default)))
def chF (k : Bn 16) (l : List KR) (i : Nat) : List UInt8 := frameF k (i + 1) (chH k l i) (keepR (l.getD i default))
def cRw (r : Row) : List V := [rowV r]
theorem cRw_len (r : Row) : (cRw r).length = 1 := rfl
theorem cRw_closed (r : Row) : ClosedL (cRw r) := ⟨row_closed r, trivial⟩
instance (r : Row) : ClL (cRw r) := ⟨cRw_closed r⟩
def rowsC (k : Bn 16) (l : List KR) (i : Nat) : List Row := (List.range i).map fun j => Row.of (chF k l j)
def headsC (k : Bn 16) (l : List KR) (i : Nat) : List (Bn 16) := (List.range i).map fun j => chH k l j
theorem rowsC_len (k : Bn 16) (l : List KR) (i : Nat) : (rowsC k l i).length = i := by simp [rowsC]
theorem headsC_len (k : Bn 16) (l : List KR) (i : Nat) : (headsC k l i).length = i := by simp [headsC]
theorem rowsC_S (k : Bn 16) (l : List KR) (i : Nat) : rowsC k l (i + 1) = rowsC k l i ++ [Row.of (chF k l i)] := by simp [rowsC, List.range_succ]
theorem headsC_S (k : Bn 16) (l : List KR) (i : Nat) : headsC k l (i + 1) = headsC k l i ++ [chH k l i] := by simp [headsC, List.range_succ]
theorem rd_rowsC (k : Bn 16) (l : List KR) (n i : Nat) (h : i < n) : rd none ((rowsC k l n).flatMap cRw) i = some (rowV (.of (chF k l i))) := by
  have e : (rowsC k l n).flatMap cRw = (rowsC k l n).map rowV := by
    induction rowsC k l n with
    | nil => rfl
    | cons r rs ih => rw [List.flatMap_cons, ih]; rfl
  rw [e]
  simp [rd, rowsC, h]
theorem rd_headsC (k : Bn 16) (l : List KR) (n i : Nat) (h : i < n) : rd (some 16) ((headsC k l n).flatMap dg) (i * 16) = some (.agg (dg (chH k l i))) := by
  rw [← rd_drop_s _ _ 16 (by decide), flat_drop dg_len]
  have e : (headsC k l n).drop i = chH k l i :: (headsC k l n).drop (i + 1) := by
    rw [List.drop_eq_getElem_cons (by rw [headsC_len]; exact h)]
    simp [headsC]
  rw [e, List.flatMap_cons, rd_sA _ _ _ (dg_len _)]
theorem blk_nil1 (cs : List V) : blkOf [.slice none 0 0] cs = cs := rfl
theorem blk_z16 (cs : List V) : blkOf z16 cs = cs := rfl
set_option maxHeartbeats 8000000 in
theorem frameChain_C (k : Bn 16) (l : Lst KR) (hl : ∀ x ∈ l.l, x.fine) : C Try.prog 25 [.agg (dg k), lstV cKR l] [] (vb true) [] := by
  refine C_of mixed Try.func25 A_clavigerlaw9_FrameChain_ok A_clavigerlaw9_FrameChain_res _ A_clavigerlaw9_FrameChain_nt ?_
  obtain ⟨N, hN⟩ : ∃ N, N = min l.l.length 12 := ⟨_, rfl⟩
  have hfine : ∀ i, i < N → (l.l.getD i default).fine := fun i hi => by
    rw [List.getD_eq_getElem?_getD, List.getElem?_eq_getElem (by omega)]
    exact hl _ (List.getElem_mem _)
  (repeat' (first | simp (maxSteps := 2000000) -implicitDefEqProofs only [A_clavigerlaw9_FrameChain, Int.reduceBNe, Int.reduceBEq, len_lst, cells_lst, rk_ext, fk_ext, sm_c, sm_a, numI_len, lr_api, lr_keep, lr, lr2, oO, oN, oG, oNG, oM, oF, oL, rg, ci, Nat.reduceEqDiff, Nat.reduceAdd, Nat.reduceSub, Int.reduceTDiv, Int.reduceTMod, ge_iff_le, Int.reduceGE, Nat.reducePow, Int.reduceEq, Int.reduceNeg, Int.reduceLE, Int.reducePow, Int.reduceLT, Int.reduceSub, Int.reduceAdd, Int.reduceMul, Int.reduceToNat, Option.map_some, ↓reduceIte, ite_not, beq_iff_eq, bne_iff_ne, ne_eq, beq_self_eq_true, beq_eq_false_iff_ne, bne_eq_false_iff_eq, resAll, resL, resV, reduceCtorEq, Option.some.injEq, exists_eq_left', blkAt, Nat.reduceLeDiff, Nat.reduceMul, eq_self, Nat.reduceLT, undef, fillV, evParts, footOp, wrOp, chk, disj, Nat.reduceBEq] | split))
  refine wk_loop (fun m S H => ∃ i : Nat, i ≤ N ∧ m = N - i ∧
      (i = 0 ∧ S = (.dead :: lstV cKR l :: .ref 0 0 :: .dead :: vb false :: .ref 1 0 :: vnil :: vnil :: vi .i64 i :: .dead :: .dead :: .dead :: .dead :: .dead :: .dead :: .dead :: .dead :: .dead :: .dead :: .dead :: .dead :: .dead :: .dead :: .dead :: .dead :: .dead :: .dead :: .dead :: .dead :: .dead :: .dead :: .dead :: .dead :: .dead :: .dead :: .dead :: .dead :: .dead :: .dead :: .dead :: .dead :: .dead :: .dead :: .dead :: .dead :: .dead :: .dead :: .dead :: .dead :: .dead :: .dead :: .dead :: .dead :: .dead :: .dead :: .dead :: .dead :: .dead :: .dead :: .dead :: .dead :: .dead :: .dead :: .dead :: .dead :: .dead :: .dead :: .dead :: .dead :: .dead :: .dead :: .dead :: .dead :: .dead :: .dead :: .dead :: .dead :: .dead :: .dead :: .dead :: .dead :: .dead :: .dead :: .dead :: .dead :: .dead :: .dead :: []) ∧ H = [some (dg k), some (dg (chH k l.l i))] ∨
       0 < i ∧ S = (.dead :: lstV cKR l :: .ref 0 0 :: .dead :: vb false :: .ref 1 0 :: .sref 2 0 i 1 :: .sref 3 0 i 16 :: vi .i64 i :: .dead :: .dead :: .dead :: .dead :: .dead :: .dead :: .dead :: .dead :: .dead :: .dead :: .dead :: .dead :: .dead :: .dead :: .dead :: .dead :: .dead :: .dead :: .dead :: .dead :: .dead :: .dead :: .dead :: .dead :: .dead :: .dead :: .dead :: .dead :: .dead :: .dead :: .dead :: .dead :: .dead :: .dead :: .dead :: .dead :: .dead :: .dead :: .dead :: .dead :: .dead :: .dead :: .dead :: .dead :: .dead :: .dead :: .dead :: .dead :: .dead :: .dead :: .dead :: .dead :: .dead :: .dead :: .dead :: .dead :: .dead :: .dead :: .dead :: .dead :: .dead :: .dead :: .dead :: .dead :: .dead :: .dead :: .dead :: .dead :: .dead :: .dead :: .dead :: .dead :: .dead :: .dead :: .dead :: .dead :: .dead :: .dead :: []) ∧ H = [some (dg k), some (dg (chH k l.l i)), some ((rowsC k l.l i).flatMap cRw), some ((headsC k l.l i).flatMap dg)])) N
    ⟨0, Nat.zero_le _, rfl, .inl ⟨rfl, rfl, rfl⟩⟩ (by refine .ren _ _ _ [0, 1] (by decide) (by intro k h; first | exact absurd h (Nat.not_lt_zero k) | (simp at h; done) | (match k, h with | 0, _ => rfl)) ?_ ?_ <;> simp [KeepS, KeepH, ArgRel, ArgRelL, argL_cl, arg_cl, row_l_of, row_l_nil, bn_len, blkAt, chH]) ?_
  rintro m S H ⟨i, hi, rfl, hH⟩ J hJ
  have d0 : (0 : Int) ≤ i := by omega
  by_cases hin : i < N
  · have d1 : (i : Int) < l.l.length := by omega
    have d2 : (i : Int) < 12 := by omega
    have w1 : IntKind.i64.wrap ((i : Int) + 1) = ((i + 1 : Nat) : Int) := by rw [wrap_id _ (by omega) (by omega)]; omega
    have w2 : IntKind.u64.wrap ((i + 1 : Nat) : Int) = ((i + 1 : Nat) : Int) := IntWalk.u64_in _ ⟨by omega, by omega⟩
    have g1 := rd_flat cKR_len l.l i (by omega)
    have hf := hfine i hin
    have k1 := keepR_C (l.l.getD i default) hf
    have r1 := keepR_right (l.l.getD i default) hf
    have c1 := fseal_C k (i + 1) (chH k l.l i) (keepR (l.l.getD i default)) r1.1 r1.2.1
    have l1 := frame_len (k := k) (n := i + 1) (prev := chH k l.l i) r1.1
    have l2 := putR_le r1.1
    change C _ _ _ _ (.tup [rowV (.of (chF k l.l i)), vi .i64 0]) _ at c1
    change (chF k l.l i).length = _ at l1
    have c2 := fhead_C (chH k l.l i) (.of (chF k l.l i)) (by rw [row_l_of]; omega)
    change C _ _ _ _ (.agg (dg (chH k l.l (i + 1)))) _ at c2
    have hR := rowsC_S k l.l i
    have hD := headsC_S k l.l i
    generalize l.l.getD i default = x at *
    generalize keepR x = r at *
    rcases hH with ⟨hi0, rfl, rfl⟩ | ⟨hi0, rfl, rfl⟩
    · have e1 : i + 1 = 1 := by omega
      have eR : rowsC k l.l i = [] := by rw [hi0]; rfl
      have eD : headsC k l.l i = [] := by rw [hi0]; rfl
      rw [eR, List.nil_append] at hR
      rw [eD, List.nil_append] at hD
      have hR' := hR
      have hD' := hD
      rw [e1] at hR' hD'
      (repeat' (first | simp (maxSteps := 2000000) -implicitDefEqProofs only [A_clavigerlaw9_FrameChain_L0, d0, d1, d2, w1, w2, g1, blk_nil1, blk_z16, slB_st, idx_lst cKR_len, Int.reduceBNe, Int.reduceBEq, len_lst, cells_lst, rk_ext, fk_ext, sm_c, sm_a, numI_len, lr_api, lr_keep, lr, lr2, oO, oN, oG, oNG, oM, oF, oL, rg, ci, Nat.reduceEqDiff, Nat.reduceAdd, Nat.reduceSub, Int.reduceTDiv, Int.reduceTMod, ge_iff_le, Int.reduceGE, Nat.reducePow, Int.reduceEq, Int.reduceNeg, Int.reduceLE, Int.reducePow, Int.reduceLT, Int.reduceSub, Int.reduceAdd, Int.reduceMul, Int.reduceToNat, Option.map_some, ↓reduceIte, ite_not, beq_iff_eq, bne_iff_ne, ne_eq, beq_self_eq_true, beq_eq_false_iff_ne, bne_eq_false_iff_eq, resAll, resL, resV, reduceCtorEq, Option.some.injEq, exists_eq_left', blkAt, Nat.reduceLeDiff, Nat.reduceMul, eq_self, Nat.reduceLT, undef, fillV, evParts, footOp, wrOp, chk, disj, Nat.reduceBEq] | split | ((first | apply ck_call | apply cfk_call); (first | (apply call_pure (k1) cll cl) | (apply call_pure (c1) cll cl) | (apply call_pure (c2) cll cl)))))
      exact hJ _ _ _ _ _ (by omega) ⟨i + 1, by omega, rfl, .inr ⟨by omega, rfl, rfl⟩⟩ (by refine .ren _ _ _ [0, 1, 3, 5] (by decide) (by intro k h; first | exact absurd h (Nat.not_lt_zero k) | (simp at h; done) | (match k, h with | 0, _ => rfl)) ?_ ?_ <;> simp [KeepS, KeepH, ArgRel, ArgRelL, argL_cl, arg_cl, row_l_of, row_l_nil, bn_len, blkAt, hR', hD', e1, cRw])
    · have a1 := fun H id => app_fl cRw_len H (rowsC k l.l i) (Row.of (chF k l.l i)) id i 24 (rowsC_len k l.l i).symm (by omega) (by decide)
      have a2 := fun H id => app_fl (dg_len (n := 16)) H (headsC k l.l i) (chH k l.l i) id i 16 (headsC_len k l.l i).symm (by omega) (by decide)
      rw [← hR] at a1
      rw [← hD] at a2
      have e1 : [rowV (.of (chF k l.l i))] = cRw (.of (chF k l.l i)) := rfl
      (repeat' (first | simp (maxSteps := 2000000) -implicitDefEqProofs only [A_clavigerlaw9_FrameChain_L0, d0, d1, d2, w1, w2, g1, blk_nil1, blk_z16, slB_st, e1, cRw_len, a1, a2, idx_lst cKR_len, Int.reduceBNe, Int.reduceBEq, len_lst, cells_lst, rk_ext, fk_ext, sm_c, sm_a, numI_len, lr_api, lr_keep, lr, lr2, oO, oN, oG, oNG, oM, oF, oL, rg, ci, Nat.reduceEqDiff, Nat.reduceAdd, Nat.reduceSub, Int.reduceTDiv, Int.reduceTMod, ge_iff_le, Int.reduceGE, Nat.reducePow, Int.reduceEq, Int.reduceNeg, Int.reduceLE, Int.reducePow, Int.reduceLT, Int.reduceSub, Int.reduceAdd, Int.reduceMul, Int.reduceToNat, Option.map_some, ↓reduceIte, ite_not, beq_iff_eq, bne_iff_ne, ne_eq, beq_self_eq_true, beq_eq_false_iff_ne, bne_eq_false_iff_eq, resAll, resL, resV, reduceCtorEq, Option.some.injEq, exists_eq_left', blkAt, Nat.reduceLeDiff, Nat.reduceMul, eq_self, Nat.reduceLT, undef, fillV, evParts, footOp, wrOp, chk, disj, Nat.reduceBEq] | split | ((first | apply ck_call | apply cfk_call); (first | (apply call_pure (k1) cll cl) | (apply call_pure (c1) cll cl) | (apply call_pure (c2) cll cl)))))
      exact hJ _ _ _ _ _ (by omega) ⟨i + 1, by omega, rfl, .inr ⟨by omega, rfl, rfl⟩⟩ (by refine .ren _ _ _ [0, 1, 5, 7] (by decide) (by intro k h; first | exact absurd h (Nat.not_lt_zero k) | (simp at h; done) | (match k, h with | 0, _ => rfl)) ?_ ?_ <;> simp [KeepS, KeepH, ArgRel, ArgRelL, argL_cl, arg_cl, row_l_of, row_l_nil, bn_len, blkAt])
  · obtain rfl : i = N := by omega
    have hlen : ((i : Int) < l.l.length ∧ ¬ (i : Int) < 12) ∨ ¬ (i : Int) < l.l.length := by omega
    suffices hrest : ∀ (S0 : List V) (H0 : Heap) (S : List V) (H : Heap) (f g : V), Weak 0 ⟨S0, H0⟩ ⟨S, H⟩ → S = (.dead :: lstV cKR l :: .ref 0 0 :: .dead :: vb false :: .dead :: f :: g :: .dead :: .dead :: .dead :: vi .i64 0 :: .dead :: .dead :: .dead :: .dead :: .dead :: .dead :: .dead :: .dead :: .dead :: .dead :: .dead :: .dead :: .dead :: .dead :: .dead :: .dead :: .dead :: .dead :: .dead :: .dead :: .dead :: .dead :: .dead :: .dead :: .dead :: .dead :: .dead :: .dead :: .dead :: .dead :: .dead :: .dead :: .dead :: .dead :: .dead :: .dead :: .dead :: .dead :: .dead :: .dead :: .dead :: .dead :: .dead :: .dead :: .dead :: .dead :: .dead :: .dead :: .dead :: .dead :: .dead :: .dead :: .dead :: .dead :: .dead :: .dead :: .dead :: .dead :: .dead :: .dead :: .dead :: .dead :: .dead :: .dead :: .dead :: .dead :: .dead :: .dead :: .dead :: .dead :: .dead :: .dead :: .dead :: .dead :: .dead :: []) →
        (i = 0 ∧ f = vnil ∧ g = vnil ∧ H = [some (dg k)] ∨ 0 < i ∧ f = .sref 1 0 i 1 ∧ g = .sref 2 0 i 16 ∧ H = [some (dg k), some ((rowsC k l.l i).flatMap cRw), some ((headsC k l.l i).flatMap dg)]) →
        WK Try.prog 0 (Post [.tmp 4] 0 (vb true) []) (.loop A_clavigerlaw9_FrameChain_L1) K_clavigerlaw9_FrameChain_L1 S0 H0 by
      rcases hlen with ⟨d1, d2⟩ | d1
      all_goals (rcases hH with ⟨hi0, rfl, rfl⟩ | ⟨hi0, rfl, rfl⟩)
      · (repeat' (first | simp (maxSteps := 2000000) -implicitDefEqProofs only [A_clavigerlaw9_FrameChain_L0, K_clavigerlaw9_FrameChain_L0, d0, d1, d2, Int.reduceBNe, Int.reduceBEq, len_lst, cells_lst, rk_ext, fk_ext, sm_c, sm_a, numI_len, lr_api, lr_keep, lr, lr2, oO, oN, oG, oNG, oM, oF, oL, rg, ci, Nat.reduceEqDiff, Nat.reduceAdd, Nat.reduceSub, Int.reduceTDiv, Int.reduceTMod, ge_iff_le, Int.reduceGE, Nat.reducePow, Int.reduceEq, Int.reduceNeg, Int.reduceLE, Int.reducePow, Int.reduceLT, Int.reduceSub, Int.reduceAdd, Int.reduceMul, Int.reduceToNat, Option.map_some, ↓reduceIte, ite_not, beq_iff_eq, bne_iff_ne, ne_eq, beq_self_eq_true, beq_eq_false_iff_ne, bne_eq_false_iff_eq, resAll, resL, resV, reduceCtorEq, Option.some.injEq, exists_eq_left', blkAt, Nat.reduceLeDiff, Nat.reduceMul, eq_self, Nat.reduceLT, undef, fillV, evParts, footOp, wrOp, chk, disj, Nat.reduceBEq] | split))
        exact hrest _ _ _ _ vnil vnil (by refine .ren _ _ _ [0] (by decide) (by intro k h; first | exact absurd h (Nat.not_lt_zero k) | (simp at h; done) | (match k, h with | 0, _ => rfl)) ?_ ?_ <;> simp [KeepS, KeepH, ArgRel, ArgRelL, argL_cl, arg_cl, row_l_of, row_l_nil, bn_len, blkAt]) rfl (.inl ⟨hi0, rfl, rfl, rfl⟩)
      · (repeat' (first | simp (maxSteps := 2000000) -implicitDefEqProofs only [A_clavigerlaw9_FrameChain_L0, K_clavigerlaw9_FrameChain_L0, d0, d1, d2, Int.reduceBNe, Int.reduceBEq, len_lst, cells_lst, rk_ext, fk_ext, sm_c, sm_a, numI_len, lr_api, lr_keep, lr, lr2, oO, oN, oG, oNG, oM, oF, oL, rg, ci, Nat.reduceEqDiff, Nat.reduceAdd, Nat.reduceSub, Int.reduceTDiv, Int.reduceTMod, ge_iff_le, Int.reduceGE, Nat.reducePow, Int.reduceEq, Int.reduceNeg, Int.reduceLE, Int.reducePow, Int.reduceLT, Int.reduceSub, Int.reduceAdd, Int.reduceMul, Int.reduceToNat, Option.map_some, ↓reduceIte, ite_not, beq_iff_eq, bne_iff_ne, ne_eq, beq_self_eq_true, beq_eq_false_iff_ne, bne_eq_false_iff_eq, resAll, resL, resV, reduceCtorEq, Option.some.injEq, exists_eq_left', blkAt, Nat.reduceLeDiff, Nat.reduceMul, eq_self, Nat.reduceLT, undef, fillV, evParts, footOp, wrOp, chk, disj, Nat.reduceBEq] | split))
        exact hrest _ _ _ _ (.sref 1 0 i 1) (.sref 2 0 i 16) (by refine .ren _ _ _ [0, 2, 3] (by decide) (by intro k h; first | exact absurd h (Nat.not_lt_zero k) | (simp at h; done) | (match k, h with | 0, _ => rfl)) ?_ ?_ <;> simp [KeepS, KeepH, ArgRel, ArgRelL, argL_cl, arg_cl, row_l_of, row_l_nil, bn_len, blkAt]) rfl (.inr ⟨hi0, rfl, rfl, rfl⟩)
      · (repeat' (first | simp (maxSteps := 2000000) -implicitDefEqProofs only [A_clavigerlaw9_FrameChain_L0, K_clavigerlaw9_FrameChain_L0, d0, d1, Int.reduceBNe, Int.reduceBEq, len_lst, cells_lst, rk_ext, fk_ext, sm_c, sm_a, numI_len, lr_api, lr_keep, lr, lr2, oO, oN, oG, oNG, oM, oF, oL, rg, ci, Nat.reduceEqDiff, Nat.reduceAdd, Nat.reduceSub, Int.reduceTDiv, Int.reduceTMod, ge_iff_le, Int.reduceGE, Nat.reducePow, Int.reduceEq, Int.reduceNeg, Int.reduceLE, Int.reducePow, Int.reduceLT, Int.reduceSub, Int.reduceAdd, Int.reduceMul, Int.reduceToNat, Option.map_some, ↓reduceIte, ite_not, beq_iff_eq, bne_iff_ne, ne_eq, beq_self_eq_true, beq_eq_false_iff_ne, bne_eq_false_iff_eq, resAll, resL, resV, reduceCtorEq, Option.some.injEq, exists_eq_left', blkAt, Nat.reduceLeDiff, Nat.reduceMul, eq_self, Nat.reduceLT, undef, fillV, evParts, footOp, wrOp, chk, disj, Nat.reduceBEq] | split))
        exact hrest _ _ _ _ vnil vnil (by refine .ren _ _ _ [0] (by decide) (by intro k h; first | exact absurd h (Nat.not_lt_zero k) | (simp at h; done) | (match k, h with | 0, _ => rfl)) ?_ ?_ <;> simp [KeepS, KeepH, ArgRel, ArgRelL, argL_cl, arg_cl, row_l_of, row_l_nil, bn_len, blkAt]) rfl (.inl ⟨hi0, rfl, rfl, rfl⟩)
      · (repeat' (first | simp (maxSteps := 2000000) -implicitDefEqProofs only [A_clavigerlaw9_FrameChain_L0, K_clavigerlaw9_FrameChain_L0, d0, d1, Int.reduceBNe, Int.reduceBEq, len_lst, cells_lst, rk_ext, fk_ext, sm_c, sm_a, numI_len, lr_api, lr_keep, lr, lr2, oO, oN, oG, oNG, oM, oF, oL, rg, ci, Nat.reduceEqDiff, Nat.reduceAdd, Nat.reduceSub, Int.reduceTDiv, Int.reduceTMod, ge_iff_le, Int.reduceGE, Nat.reducePow, Int.reduceEq, Int.reduceNeg, Int.reduceLE, Int.reducePow, Int.reduceLT, Int.reduceSub, Int.reduceAdd, Int.reduceMul, Int.reduceToNat, Option.map_some, ↓reduceIte, ite_not, beq_iff_eq, bne_iff_ne, ne_eq, beq_self_eq_true, beq_eq_false_iff_ne, bne_eq_false_iff_eq, resAll, resL, resV, reduceCtorEq, Option.some.injEq, exists_eq_left', blkAt, Nat.reduceLeDiff, Nat.reduceMul, eq_self, Nat.reduceLT, undef, fillV, evParts, footOp, wrOp, chk, disj, Nat.reduceBEq] | split))
        exact hrest _ _ _ _ (.sref 1 0 i 1) (.sref 2 0 i 16) (by refine .ren _ _ _ [0, 2, 3] (by decide) (by intro k h; first | exact absurd h (Nat.not_lt_zero k) | (simp at h; done) | (match k, h with | 0, _ => rfl)) ?_ ?_ <;> simp [KeepS, KeepH, ArgRel, ArgRelL, argL_cl, arg_cl, row_l_of, row_l_nil, bn_len, blkAt]) rfl (.inr ⟨hi0, rfl, rfl, rfl⟩)
    rintro S0 H0 S H f g hw rfl hfg
    refine wk_loop (fun m S H => ∃ j : Nat, j ≤ i ∧ m = i - j ∧ S = (.dead :: lstV cKR l :: .ref 0 0 :: .dead :: vb false :: .dead :: f :: g :: .dead :: .dead :: .dead :: vi .i64 j :: .dead :: .dead :: .dead :: .dead :: .dead :: .dead :: .dead :: .dead :: .dead :: .dead :: .dead :: .dead :: .dead :: .dead :: .dead :: .dead :: .dead :: .dead :: .dead :: .dead :: .dead :: .dead :: .dead :: .dead :: .dead :: .dead :: .dead :: .dead :: .dead :: .dead :: .dead :: .dead :: .dead :: .dead :: .dead :: .dead :: .dead :: .dead :: .dead :: .dead :: .dead :: .dead :: .dead :: .dead :: .dead :: .dead :: .dead :: .dead :: .dead :: .dead :: .dead :: .dead :: .dead :: .dead :: .dead :: .dead :: .dead :: .dead :: .dead :: .dead :: .dead :: .dead :: .dead :: .dead :: .dead :: .dead :: .dead :: .dead :: .dead :: .dead :: .dead :: .dead :: .dead :: .dead :: .dead :: []) ∧
      (i = 0 ∧ f = vnil ∧ g = vnil ∧ H = [some (dg k)] ∨ 0 < i ∧ f = .sref 1 0 i 1 ∧ g = .sref 2 0 i 16 ∧ H = [some (dg k), some ((rowsC k l.l i).flatMap cRw), some ((headsC k l.l i).flatMap dg)])) i
      ⟨0, Nat.zero_le _, rfl, rfl, hfg⟩ hw ?_
    rintro m S H ⟨j, hj, rfl, rfl, hH⟩ J' hJ'
    have d0 : (0 : Int) ≤ j := by omega
    by_cases hjn : j < i
    · have d1 : (j : Int) < l.l.length := by omega
      have d2 : (j : Int) < i := by omega
      have w1 : IntKind.i64.wrap ((j : Int) + 1) = ((j + 1 : Nat) : Int) := by rw [wrap_id _ (by omega) (by omega)]; omega
      have w2 : IntKind.u64.wrap ((j + 1 : Nat) : Int) = ((j + 1 : Nat) : Int) := IntWalk.u64_in _ ⟨by omega, by omega⟩
      have g1 := rd_flat cKR_len l.l j (by omega)
      have g2 := rd_rowsC k l.l i j hjn
      have g3 := rd_headsC k l.l i j hjn
      have hf := hfine j (by omega)
      have k1 := keepR_C (l.l.getD j default) hf
      have r1 := keepR_right (l.l.getD j default) hf
      obtain ⟨hv, hs⟩ := frame_back k (j + 1) (chH k l.l j) (keepR (l.l.getD j default)) r1.1 r1.2.1
      change frecV k (j + 1) (chH k l.l j) (chF k l.l j) at hv
      change sameR (frec k (j + 1) (chF k l.l j)).x _ at hs
      have c1 := fopenT_C k (j + 1) (chH k l.l j) (.of (chF k l.l j)) hv
      have c2 := rrecords_C (frec k (j + 1) (chF k l.l j)).x _ hs (by have := frec_le k (j + 1) (chF k l.l j); omega)
      simp only [row_l_of] at c1
      generalize (frec k (j + 1) (chF k l.l j)).x = y at *
      generalize l.l.getD j default = x at *
      generalize keepR x = r at *
      rcases hH with ⟨hi0, rfl, rfl, rfl⟩ | ⟨hi0, rfl, rfl, rfl⟩
      · omega
      · have b1 : j + 1 ≤ i := by omega
        (repeat' (first | simp (maxSteps := 2000000) -implicitDefEqProofs only [A_clavigerlaw9_FrameChain_L1, d0, d1, d2, w1, w2, g1, g2, g3, idx_lst cKR_len, rowsC_len, headsC_len, Int.reduceBNe, Int.reduceBEq, len_lst, cells_lst, rk_ext, fk_ext, sm_c, sm_a, numI_len, lr_api, lr_keep, lr, lr2, oO, oN, oG, oNG, oM, oF, oL, rg, ci, Nat.reduceEqDiff, Nat.reduceAdd, Nat.reduceSub, Int.reduceTDiv, Int.reduceTMod, ge_iff_le, Int.reduceGE, Nat.reducePow, Int.reduceEq, Int.reduceNeg, Int.reduceLE, Int.reducePow, Int.reduceLT, Int.reduceSub, Int.reduceAdd, Int.reduceMul, Int.reduceToNat, Option.map_some, ↓reduceIte, ite_not, beq_iff_eq, bne_iff_ne, ne_eq, beq_self_eq_true, beq_eq_false_iff_ne, bne_eq_false_iff_eq, resAll, resL, resV, reduceCtorEq, Option.some.injEq, exists_eq_left', blkAt, Nat.reduceLeDiff, Nat.reduceMul, eq_self, Nat.reduceLT, undef, fillV, evParts, footOp, wrOp, chk, disj, Nat.reduceBEq] | split | ((first | apply ck_call | apply cfk_call); (first | (apply call_pure (k1) cll cl) | (apply call_pure (c1) cll cl) | (apply call_pure (c2) cll cl)))))
        exact hJ' _ _ _ _ _ (by omega) ⟨j + 1, by omega, rfl, rfl, .inr ⟨hi0, rfl, rfl, rfl⟩⟩ (by refine .ren _ _ _ [0, 1, 2] (by decide) (by intro k h; first | exact absurd h (Nat.not_lt_zero k) | (simp at h; done) | (match k, h with | 0, _ => rfl)) ?_ ?_ <;> simp [KeepS, KeepH, ArgRel, ArgRelL, argL_cl, arg_cl, row_l_of, row_l_nil, bn_len, blkAt])
    · obtain rfl : j = i := by omega
      rcases hH with ⟨hi0, rfl, rfl, rfl⟩ | ⟨hi0, rfl, rfl, rfl⟩
      · have d2 : ¬ (j : Int) < 0 := by omega
        (repeat' (first | simp (maxSteps := 2000000) -implicitDefEqProofs only [A_clavigerlaw9_FrameChain_L1, K_clavigerlaw9_FrameChain_L1, d2, Int.reduceBNe, Int.reduceBEq, len_lst, cells_lst, rk_ext, fk_ext, sm_c, sm_a, numI_len, lr_api, lr_keep, lr, lr2, oO, oN, oG, oNG, oM, oF, oL, rg, ci, Nat.reduceEqDiff, Nat.reduceAdd, Nat.reduceSub, Int.reduceTDiv, Int.reduceTMod, ge_iff_le, Int.reduceGE, Nat.reducePow, Int.reduceEq, Int.reduceNeg, Int.reduceLE, Int.reducePow, Int.reduceLT, Int.reduceSub, Int.reduceAdd, Int.reduceMul, Int.reduceToNat, Option.map_some, ↓reduceIte, ite_not, beq_iff_eq, bne_iff_ne, ne_eq, beq_self_eq_true, beq_eq_false_iff_ne, bne_eq_false_iff_eq, resAll, resL, resV, reduceCtorEq, Option.some.injEq, exists_eq_left', blkAt, Nat.reduceLeDiff, Nat.reduceMul, eq_self, Nat.reduceLT, undef, fillV, evParts, footOp, wrOp, chk, disj, Nat.reduceBEq] | split | ((first | apply ck_call | apply cfk_call); (first | (apply call_pure (known9_C) cll cl)))))
        all_goals (refine out_eq ?_ (cl); first | rfl | (simp_all []; done) | (simp_all []; intros; omega) | (simp []; (repeat' split) <;> first | rfl | omega | (simp_all; done) | (simp_all; intros; omega)))
      · have d2 : ¬ (j : Int) < j := by omega
        (repeat' (first | simp (maxSteps := 2000000) -implicitDefEqProofs only [A_clavigerlaw9_FrameChain_L1, K_clavigerlaw9_FrameChain_L1, d2, Int.reduceBNe, Int.reduceBEq, len_lst, cells_lst, rk_ext, fk_ext, sm_c, sm_a, numI_len, lr_api, lr_keep, lr, lr2, oO, oN, oG, oNG, oM, oF, oL, rg, ci, Nat.reduceEqDiff, Nat.reduceAdd, Nat.reduceSub, Int.reduceTDiv, Int.reduceTMod, ge_iff_le, Int.reduceGE, Nat.reducePow, Int.reduceEq, Int.reduceNeg, Int.reduceLE, Int.reducePow, Int.reduceLT, Int.reduceSub, Int.reduceAdd, Int.reduceMul, Int.reduceToNat, Option.map_some, ↓reduceIte, ite_not, beq_iff_eq, bne_iff_ne, ne_eq, beq_self_eq_true, beq_eq_false_iff_ne, bne_eq_false_iff_eq, resAll, resL, resV, reduceCtorEq, Option.some.injEq, exists_eq_left', blkAt, Nat.reduceLeDiff, Nat.reduceMul, eq_self, Nat.reduceLT, undef, fillV, evParts, footOp, wrOp, chk, disj, Nat.reduceBEq] | split | ((first | apply ck_call | apply cfk_call); (first | (apply call_pure (known9_C) cll cl)))))
        all_goals (refine out_eq ?_ (cl); first | rfl | (simp_all []; done) | (simp_all []; intros; omega) | (simp []; (repeat' split) <;> first | rfl | omega | (simp_all; done) | (simp_all; intros; omega)))
end Go.Proofs.Ytehinkckdeodhaa.VA
