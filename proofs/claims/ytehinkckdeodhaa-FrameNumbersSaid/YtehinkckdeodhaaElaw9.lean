/- FrameNumbers. -/
import Derived.Test.YtehinkckdeodhaaClaw9
import Derived.Test.YtehinkckdeodhaaLnum9
import Derived.Test.YtehinkckdeodhaaVC
set_option linter.unusedVariables false
set_option linter.unusedSimpArgs false
set_option maxRecDepth 100000
namespace Go.Proofs.Ytehinkckdeodhaa.VA
open Go
attribute [local irreducible] WK NK XK TK RK FK CK CFK CallRel C
attribute [local irreducible] putR sealF textF fits recS RightR twoF sumF keepR frameF headF frec
def gKRl (x : KR) (s : V) : List V := vi .i64 x.kind :: (vi .i64 x.shard :: (vi .i64 x.to :: (vi .u64 x.epoch :: (cKV x.v ++ [s]))))
theorem gKRl_rel {H : Heap} {ids bs : List Nat} (x : KR) {s : V} {l : Lst KV} (h : ArgRel H ids bs s (lstV cKV l)) : ArgRelL H ids bs (gKRl x s) (cKR { x with l := l }) := by
  show ArgRelL H ids bs [vi .i64 x.kind, vi .i64 x.shard, vi .i64 x.to, vi .u64 x.epoch, vi .i64 x.v.id, vi .i64 x.v.pin, vi .i64 x.v.owner, vi .i64 x.v.limit, vi .i64 x.v.used, vi .i64 x.v.how, vi .u64 x.v.gen, rowV x.v.secret, s] [vi .i64 x.kind, vi .i64 x.shard, vi .i64 x.to, vi .u64 x.epoch, vi .i64 x.v.id, vi .i64 x.v.pin, vi .i64 x.v.owner, vi .i64 x.v.limit, vi .i64 x.v.used, vi .i64 x.v.how, vi .u64 x.v.gen, rowV x.v.secret, lstV cKV l]
  repeat' (first | exact argL_nil | apply argL_cons)
  all_goals first | exact h | exact arg_closed _ trivial | exact arg_closed _ (row_closed _)
theorem gKRl_own {H : Heap} {id n : Nat} (x : KR) : ArgRelL H [id] [] (gKRl x (.sref id 0 n 8)) (gKRl x (.sref 0 0 n 8)) := by
  show ArgRelL H [id] [] [vi .i64 x.kind, vi .i64 x.shard, vi .i64 x.to, vi .u64 x.epoch, vi .i64 x.v.id, vi .i64 x.v.pin, vi .i64 x.v.owner, vi .i64 x.v.limit, vi .i64 x.v.used, vi .i64 x.v.how, vi .u64 x.v.gen, rowV x.v.secret, .sref id 0 n 8] [vi .i64 x.kind, vi .i64 x.shard, vi .i64 x.to, vi .u64 x.epoch, vi .i64 x.v.id, vi .i64 x.v.pin, vi .i64 x.v.owner, vi .i64 x.v.limit, vi .i64 x.v.used, vi .i64 x.v.how, vi .u64 x.v.gen, rowV x.v.secret, .sref 0 0 n 8]
  repeat' (first | exact argL_nil | apply argL_cons)
  all_goals first | exact arg_closed _ trivial | exact arg_closed _ (row_closed _) | (simp only [ArgRel]; exact .inl ⟨0, rfl, rfl⟩)
theorem gKRl_ids (x : KR) (s : V) : idsInL (gKRl x s) = idsIn s := by
  unfold gKRl
  simp only [idsInL, ids_app, cKV_ids, idsIn, List.nil_append, List.append_nil]
theorem call_keepR {H : Heap} {id n : Nat} {x : KR} {l : List KV} (hf : KR.fine { x with l := .of l }) (hb : blkAt H id = some (l.flatMap cKV)) (hn : n = l.length) :
    CallRel Try.prog 67 H [.agg (gKRl x (.sref id 0 n 8))] (.agg (cRec (keepR { x with l := .of l }))) (H.set id none) [id] [id] := by
  have hc : ClosedL (l.flatMap cKV) := by
    clear hf hb hn
    induction l with
    | nil => trivial
    | cons y l ih => exact closedL_app (cKV_closed y) ih
  refine call_give (args1 := [.agg (gKRl x (.sref 0 0 n 8))]) (keepR_C _ hf) cl hb hc (by simp [idsInL, idsIn, gKRl_ids]) ⟨argL_cons (arg_agg (gKRl_own x)) argL_nil, argL_cons (arg_agg (gKRl_rel x ?_)) argL_nil⟩
  exact arg_lst cKV_len cKV_closed rfl (by simp) hn
theorem len_sp (c : List V) (o : Nat) (v : List V) (h : o + v.length ≤ c.length) : (splice c o v).length = c.length := by
  simp [splice]; omega
theorem kv_3 (i j : Int) : splice (splice (splice (cKQ KQ.zero) 0 [vi .i64 i]) 3 [vi .i64 j]) 5 [vi .i64 i] = cKV ⟨i, 0, 0, j, 0, i, 0, .nil⟩ := rfl
theorem kv_1 (j : Int) : splice (cKQ KQ.zero) 3 [vi .i64 j] = cKV ⟨0, 0, 0, j, 0, 0, 0, .nil⟩ := rfl
theorem kv_2 (j : Int) : splice (cKQ KQ.zero) 5 [vi .i64 j] = cKV ⟨0, 0, 0, 0, 0, j, 0, .nil⟩ := rfl
theorem kv_4 (i j : Int) : splice (splice (cKQ KQ.zero) 0 [vi .i64 i]) 3 [vi .i64 j] = cKV ⟨i, 0, 0, j, 0, 0, 0, .nil⟩ := rfl
theorem kv_5 (x : KV) (j : Int) : splice (cKV x) 5 [vi .i64 j] = cKV { x with how := j } := rfl
theorem kq2_0 (a : KQ) (b : KQ) (x : KV) : splice (cKQ a ++ cKQ b) 0 (cKV x) = cKV x ++ cKQ b := by simp [splice, cKQ_len, cKV_len]
theorem kq2_1 (b : KQ) (x y : KV) : splice (cKV x ++ cKQ b) 8 (cKV y) = [x, y].flatMap cKV := by simp [splice, cKQ_len, cKV_len]
theorem kq2_l0 (a b : KQ) : (cKQ a ++ cKQ b).length = 16 := by simp [cKQ_len]
theorem kq2_l1 (x : KV) (b : KQ) : (cKV x ++ cKQ b).length = 16 := by simp [cKQ_len, cKV_len]
theorem kr_6 (a b c d : Int) (x : KV) (s : V) : splice (splice (splice (splice (splice (splice (cKR KR.zero) 0 [vi .i64 a]) 1 [vi .i64 b]) 2 [vi .i64 c]) 3 [vi .u64 d]) 4 (cKV x)) 12 [s] = gKRl ⟨a, b, c, d, x, .nil⟩ s := rfl
def x9 (j : Nat) : KR := ⟨j, (j : Int) * 2, j, j, ⟨j, 0, 0, 5, 0, j, 0, .nil⟩, .of [⟨0, 0, 0, 4, 0, 0, 0, .nil⟩, ⟨0, 0, 0, 0, 0, 3, 0, .nil⟩]⟩
theorem x9_fine (j : Nat) (h : j < 6) : (x9 j).fine := by
  refine ⟨by simp only [x9]; omega, by simp [x9], by simp [x9, Lst.l], fun y hy => ?_⟩
  simp only [x9, Lst.l, List.mem_cons, List.not_mem_nil, or_false] at hy
  rcases hy with rfl | rfl <;> decide
theorem call_x9 (j : Nat) (h : j < 6) (H : Heap) (id : Nat) (hb : blkAt H id = some (([⟨0, 0, 0, 4, 0, 0, 0, .nil⟩, ⟨0, 0, 0, 0, 0, 3, 0, .nil⟩] : List KV).flatMap cKV)) :
    CallRel Try.prog 67 H [.agg (gKRl ⟨j, (j : Int) * 2, j, j, ⟨j, 0, 0, 5, 0, j, 0, .nil⟩, .nil⟩ (.sref id 0 2 8))] (.agg (cRec (keepR (x9 j)))) (H.set id none) [id] [id] := call_keepR (x9_fine j h) hb rfl
set_option maxHeartbeats 8000000 in
theorem frameNumbers_C : C Try.prog 23 [] [] (vb true) [] := by
  refine C_of mixed Try.func23 A_clavigerlaw9_FrameNumbers_ok A_clavigerlaw9_FrameNumbers_res _ A_clavigerlaw9_FrameNumbers_nt ?_
  (repeat' (first | simp (maxSteps := 2000000) -implicitDefEqProofs only [A_clavigerlaw9_FrameNumbers, Int.reduceBNe, Int.reduceBEq, len_lst, cells_lst, rk_ext, fk_ext, sm_c, sm_a, numI_len, lr_api, lr_keep, lr, lr2, oO, oN, oG, oNG, oM, oF, oL, rg, ci, Nat.reduceEqDiff, Nat.reduceAdd, Nat.reduceSub, Int.reduceTDiv, Int.reduceTMod, ge_iff_le, Int.reduceGE, Nat.reducePow, Int.reduceEq, Int.reduceNeg, Int.reduceLE, Int.reducePow, Int.reduceLT, Int.reduceSub, Int.reduceAdd, Int.reduceMul, Int.reduceToNat, Option.map_some, ↓reduceIte, ite_not, beq_iff_eq, bne_iff_ne, ne_eq, beq_self_eq_true, beq_eq_false_iff_ne, bne_eq_false_iff_eq, resAll, resL, resV, reduceCtorEq, Option.some.injEq, exists_eq_left', blkAt, Nat.reduceLeDiff, Nat.reduceMul, eq_self, Nat.reduceLT, undef, fillV, evParts, footOp, wrOp, chk, disj, Nat.reduceBEq] | split))
  refine wk_loop (fun m S H => ∃ j : Nat, j ≤ 6 ∧ m = 6 - j ∧ S = (vb false :: vi .i64 j :: .dead :: .dead :: .dead :: .dead :: .dead :: .dead :: .dead :: .dead :: .dead :: .dead :: .dead :: .dead :: .dead :: .dead :: .dead :: .dead :: .dead :: .dead :: .dead :: .dead :: .dead :: .dead :: .dead :: .dead :: .dead :: .dead :: .dead :: .dead :: .dead :: .dead :: .dead :: .dead :: .dead :: .dead :: .dead :: .dead :: .dead :: .dead :: .dead :: .dead :: .dead :: .dead :: .dead :: .dead :: .dead :: .dead :: .dead :: .dead :: .dead :: .dead :: .dead :: .dead :: .dead :: .dead :: .dead :: .dead :: .dead :: .dead :: .dead :: .dead :: .dead :: .dead :: .dead :: .dead :: .dead :: .dead :: .dead :: .dead :: .dead :: .dead :: .dead :: .dead :: .dead :: .dead :: .dead :: .dead :: .dead :: .dead :: .dead :: .dead :: []) ∧ H = []) 6 ⟨0, Nat.zero_le _, rfl, rfl, rfl⟩ (by refine .ren _ _ _ [] (by decide) (by intro k h; first | exact absurd h (Nat.not_lt_zero k) | (simp at h; done) | (match k, h with | 0, _ => rfl)) ?_ ?_ <;> simp [KeepS, KeepH, ArgRel, ArgRelL, argL_cl, arg_cl, row_l_of, row_l_nil, bn_len, blkAt]) ?_
  rintro m1 S1 H1 ⟨j, hj, rfl, rfl, rfl⟩ J1 hJ1
  by_cases hjn : j < 6
  · have d1 : (j : Int) < 6 := by omega
    have w1 : IntKind.i64.wrap ((j : Int) + 1) = ((j + 1 : Nat) : Int) := by rw [wrap_id _ (by omega) (by omega)]; omega
    have wm : IntKind.i64.wrap ((j : Int) * 2) = (j : Int) * 2 := by rw [wrap_id _ (by omega) (by omega)]
    have wu : IntKind.u64.wrap (j : Int) = (j : Int) := IntWalk.u64_in _ ⟨by omega, by omega⟩
    have hX := x9_fine j hjn
    have r4 := keepR_right (x9 j) hX
    have c1 := rframe_C ((Bn.zero 16).set 0 (by8 9)) 7 (by decide) ((Bn.zero 16).set 0 (by8 8)) (keepR (x9 j)) r4.1 r4.2.1 r4.2.2.1
    have l1 := frame_len (k := (Bn.zero 16).set 0 (by8 9)) (n := 7) (prev := (Bn.zero 16).set 0 (by8 8)) r4.1
    have l2 := putR_le r4.1
    have hs := same9_C ((Bn.zero 16).set 0 (by8 9)) 7 (by decide) ((Bn.zero 16).set 0 (by8 8)) (keepR (x9 j)) r4.2.1
    have hcall := call_x9 j hjn
    generalize keepR (x9 j) = r at *
    generalize frameF ((Bn.zero 16).set 0 (by8 9)) 7 ((Bn.zero 16).set 0 (by8 8)) r = f at *
    have hl : f.length ≤ 1008 := by omega
    (repeat' (first | simp (maxSteps := 2000000) -implicitDefEqProofs only [A_clavigerlaw9_FrameNumbers_L1, d1, wm, wu, kv_1, kv_2, kv_3, kv_4, kv_5, kq2_0, kq2_1, kq2_l0, kq2_l1, kr_6, len_sp, cKR_len, List.length_cons, List.length_nil, Int.reduceBNe, Int.reduceBEq, len_lst, cells_lst, rk_ext, fk_ext, sm_c, sm_a, numI_len, lr_api, lr_keep, lr, lr2, oO, oN, oG, oNG, oM, oF, oL, rg, ci, Nat.reduceEqDiff, Nat.reduceAdd, Nat.reduceSub, Int.reduceTDiv, Int.reduceTMod, ge_iff_le, Int.reduceGE, Nat.reducePow, Int.reduceEq, Int.reduceNeg, Int.reduceLE, Int.reducePow, Int.reduceLT, Int.reduceSub, Int.reduceAdd, Int.reduceMul, Int.reduceToNat, Option.map_some, ↓reduceIte, ite_not, beq_iff_eq, bne_iff_ne, ne_eq, beq_self_eq_true, beq_eq_false_iff_ne, bne_eq_false_iff_eq, resAll, resL, resV, reduceCtorEq, Option.some.injEq, exists_eq_left', blkAt, Nat.reduceLeDiff, Nat.reduceMul, eq_self, Nat.reduceLT, undef, fillV, evParts, footOp, wrOp, chk, disj, Nat.reduceBEq] | split))
    (first | apply ck_call | apply cfk_call)
    · exact hcall _ _ rfl
    have o1 := fun (k p : Bn 16) (n : Nat) (hn : n < 18446744073709551616) => open9_C k n hn p (.of f) (by rw [row_l_of]; omega)
    (repeat' (first | simp (maxSteps := 2000000) -implicitDefEqProofs only [hl, Int.reduceBNe, Int.reduceBEq, len_lst, cells_lst, rk_ext, fk_ext, sm_c, sm_a, numI_len, lr_api, lr_keep, lr, lr2, oO, oN, oG, oNG, oM, oF, oL, rg, ci, Nat.reduceEqDiff, Nat.reduceAdd, Nat.reduceSub, Int.reduceTDiv, Int.reduceTMod, ge_iff_le, Int.reduceGE, Nat.reducePow, Int.reduceEq, Int.reduceNeg, Int.reduceLE, Int.reducePow, Int.reduceLT, Int.reduceSub, Int.reduceAdd, Int.reduceMul, Int.reduceToNat, Option.map_some, ↓reduceIte, ite_not, beq_iff_eq, bne_iff_ne, ne_eq, beq_self_eq_true, beq_eq_false_iff_ne, bne_eq_false_iff_eq, resAll, resL, resV, reduceCtorEq, Option.some.injEq, exists_eq_left', blkAt, Nat.reduceLeDiff, Nat.reduceMul, eq_self, Nat.reduceLT, undef, fillV, evParts, footOp, wrOp, chk, disj, Nat.reduceBEq] | split | ((first | apply ck_call | apply cfk_call); (first | (apply call_pure (c1) cll cl) | (apply call_pure (hs) cll cl) | (apply call_pure (o1 ((Bn.zero 16).set 0 (by8 9)) ((Bn.zero 16).set 0 (by8 8)) 7 (by decide)) cll cl) | (apply call_pure (o1 ((Bn.zero 16).set 0 (by8 9)) ((Bn.zero 16).set 0 (by8 8)) 8 (by decide)) cll cl) | (apply call_pure (o1 ((Bn.zero 16).set 0 (by8 9)) ((Bn.zero 16).set 0 (by8 7)) 7 (by decide)) cll cl) | (apply call_pure (o1 ((Bn.zero 16).set 0 (by8 8)) ((Bn.zero 16).set 0 (by8 8)) 7 (by decide)) cll cl)))))
    refine wk_loop (fun m S H => ∃ i : Nat, i ≤ f.length ∧ m = f.length - i ∧ S = (vb false :: vi .i64 j :: .dead :: rowV (.of f) :: vi .i64 i :: .dead :: .dead :: .dead :: .dead :: .dead :: .dead :: .dead :: .dead :: .dead :: .dead :: .dead :: .dead :: .dead :: .dead :: .dead :: .dead :: .dead :: .dead :: .dead :: .dead :: .dead :: .dead :: .dead :: .dead :: .dead :: .dead :: .dead :: .dead :: .dead :: .dead :: .dead :: .dead :: .dead :: .dead :: .dead :: .dead :: .dead :: .dead :: .dead :: .dead :: .dead :: .dead :: .dead :: .dead :: .dead :: .dead :: .dead :: .dead :: .dead :: .dead :: .dead :: .dead :: .dead :: .dead :: .dead :: .dead :: .dead :: .dead :: .dead :: .dead :: .dead :: .dead :: .dead :: .dead :: .dead :: .dead :: .dead :: .dead :: .dead :: .dead :: .dead :: .dead :: .dead :: .dead :: .dead :: .dead :: .dead :: []) ∧ H = []) (f.length) ⟨0, Nat.zero_le _, rfl, rfl, rfl⟩ (by refine .ren _ _ _ [] (by decide) (by intro k h; first | exact absurd h (Nat.not_lt_zero k) | (simp at h; done) | (match k, h with | 0, _ => rfl)) ?_ ?_ <;> simp [KeepS, KeepH, ArgRel, ArgRelL, argL_cl, arg_cl, row_l_of, row_l_nil, bn_len, blkAt]) ?_
    rintro m S H ⟨i, hi, rfl, rfl, rfl⟩ J hJ
    have d0 : (0 : Int) ≤ i := by omega
    by_cases hin : i < f.length
    · have e1 : (i : Int) < f.length := by omega
      have w2 : IntKind.i64.wrap ((i : Int) + 1) = ((i + 1 : Nat) : Int) := by rw [wrap_id _ (by omega) (by omega)]; omega
      have x1 : evBin .xor (.sc (.int .u8 ((f.getD i 0).toNat : Int))) (.sc (.int .u8 16)) = some (.sc (.int .u8 ((f.getD i 0 ^^^ 16).toNat : Int))) := xor_u8 (f.getD i 0) 16
      have o2 := open9_C ((Bn.zero 16).set 0 (by8 9)) 7 (by decide) ((Bn.zero 16).set 0 (by8 8)) (.of (f.set i (f.getD i 0 ^^^ 16))) (by rw [row_l_of, List.length_set]; omega)
      have e2 : i < f.length := hin
      have e3 : i + 1 ≤ f.length := by omega
      have hl2 : f.length ≤ 140737488355328 := by omega
      (repeat' (first | simp (maxSteps := 2000000) -implicitDefEqProofs only [A_clavigerlaw9_FrameNumbers_L0, app_bs0, hl2, d0, e1, e2, e3, w2, x1, rd_bs, by8_nat, List.length_set, Int.reduceBNe, Int.reduceBEq, len_lst, cells_lst, rk_ext, fk_ext, sm_c, sm_a, numI_len, lr_api, lr_keep, lr, lr2, oO, oN, oG, oNG, oM, oF, oL, rg, ci, Nat.reduceEqDiff, Nat.reduceAdd, Nat.reduceSub, Int.reduceTDiv, Int.reduceTMod, ge_iff_le, Int.reduceGE, Nat.reducePow, Int.reduceEq, Int.reduceNeg, Int.reduceLE, Int.reducePow, Int.reduceLT, Int.reduceSub, Int.reduceAdd, Int.reduceMul, Int.reduceToNat, Option.map_some, ↓reduceIte, ite_not, beq_iff_eq, bne_iff_ne, ne_eq, beq_self_eq_true, beq_eq_false_iff_ne, bne_eq_false_iff_eq, resAll, resL, resV, reduceCtorEq, Option.some.injEq, exists_eq_left', blkAt, Nat.reduceLeDiff, Nat.reduceMul, eq_self, Nat.reduceLT, undef, fillV, evParts, footOp, wrOp, chk, disj, Nat.reduceBEq] | split | ((first | apply ck_call | apply cfk_call); (first | (apply call_roA (o2); (simp [ids_nil, ids_cons, ids_sc, ids_agg, ids_dg, ids_bs, ids_row, ids_ints, ids_sref, ids_ref, ids_sl, blkAt] <;> fail); (repeat' (first | exact args_n | apply args_c | (first | exact arg_closed _ cl | (refine arg_rowA rfl mem ?_; (first | rfl | omega | (simp [bn_len] <;> fail) | (simp [bn_len]; omega))) | (refine arg_row rfl mem ?_; (first | rfl | omega | (simp [bn_len] <;> fail) | (simp [bn_len]; omega))) | (refine arg_fld mem ?_ ?_; (first | rfl | omega | (simp [bn_len] <;> fail) | (simp [bn_len]; omega)); (simp only [Int.reduceBNe, Int.reduceBEq, len_lst, cells_lst, rk_ext, fk_ext, sm_c, sm_a, numI_len, lr_api, lr_keep, blkAt, List.getD_cons_zero, List.getD_cons_succ, Option.bind_some, rd_sE] <;> fail))))); (first | exact cl | exact cll); (first | exact nr | exact nrl))))))
      exact hJ _ _ _ _ _ (by omega) ⟨i + 1, by omega, rfl, rfl, rfl⟩ (by refine .ren _ _ _ [] (by decide) (by intro k h; first | exact absurd h (Nat.not_lt_zero k) | (simp at h; done) | (match k, h with | 0, _ => rfl)) ?_ ?_ <;> simp [KeepS, KeepH, ArgRel, ArgRelL, argL_cl, arg_cl, row_l_of, row_l_nil, bn_len, blkAt])
    · obtain rfl : i = f.length := by omega
      (repeat' (first | simp (maxSteps := 2000000) -implicitDefEqProofs only [A_clavigerlaw9_FrameNumbers_L0, w1, Int.lt_irrefl, Int.reduceBNe, Int.reduceBEq, len_lst, cells_lst, rk_ext, fk_ext, sm_c, sm_a, numI_len, lr_api, lr_keep, lr, lr2, oO, oN, oG, oNG, oM, oF, oL, rg, ci, Nat.reduceEqDiff, Nat.reduceAdd, Nat.reduceSub, Int.reduceTDiv, Int.reduceTMod, ge_iff_le, Int.reduceGE, Nat.reducePow, Int.reduceEq, Int.reduceNeg, Int.reduceLE, Int.reducePow, Int.reduceLT, Int.reduceSub, Int.reduceAdd, Int.reduceMul, Int.reduceToNat, Option.map_some, ↓reduceIte, ite_not, beq_iff_eq, bne_iff_ne, ne_eq, beq_self_eq_true, beq_eq_false_iff_ne, bne_eq_false_iff_eq, resAll, resL, resV, reduceCtorEq, Option.some.injEq, exists_eq_left', blkAt, Nat.reduceLeDiff, Nat.reduceMul, eq_self, Nat.reduceLT, undef, fillV, evParts, footOp, wrOp, chk, disj, Nat.reduceBEq] | split))
      exact hJ1 _ _ _ _ _ (by omega) ⟨j + 1, by omega, rfl, rfl, rfl⟩ (by refine .ren _ _ _ [] (by decide) (by intro k h; first | exact absurd h (Nat.not_lt_zero k) | (simp at h; done) | (match k, h with | 0, _ => rfl)) ?_ ?_ <;> simp [KeepS, KeepH, ArgRel, ArgRelL, argL_cl, arg_cl, row_l_of, row_l_nil, bn_len, blkAt])
  · obtain rfl : j = 6 := by omega
    (repeat' (first | simp (maxSteps := 2000000) -implicitDefEqProofs only [A_clavigerlaw9_FrameNumbers_L1, K_clavigerlaw9_FrameNumbers_L1, Int.reduceBNe, Int.reduceBEq, len_lst, cells_lst, rk_ext, fk_ext, sm_c, sm_a, numI_len, lr_api, lr_keep, lr, lr2, oO, oN, oG, oNG, oM, oF, oL, rg, ci, Nat.reduceEqDiff, Nat.reduceAdd, Nat.reduceSub, Int.reduceTDiv, Int.reduceTMod, ge_iff_le, Int.reduceGE, Nat.reducePow, Int.reduceEq, Int.reduceNeg, Int.reduceLE, Int.reducePow, Int.reduceLT, Int.reduceSub, Int.reduceAdd, Int.reduceMul, Int.reduceToNat, Option.map_some, ↓reduceIte, ite_not, beq_iff_eq, bne_iff_ne, ne_eq, beq_self_eq_true, beq_eq_false_iff_ne, bne_eq_false_iff_eq, resAll, resL, resV, reduceCtorEq, Option.some.injEq, exists_eq_left', blkAt, Nat.reduceLeDiff, Nat.reduceMul, eq_self, Nat.reduceLT, undef, fillV, evParts, footOp, wrOp, chk, disj, Nat.reduceBEq] | split | ((first | apply ck_call | apply cfk_call); (first | (apply call_pure (known9_C) cll cl)))))
    all_goals (refine out_eq ?_ (cl); first | rfl | (simp_all []; done) | (simp_all []; intros; omega) | (simp []; (repeat' split) <;> first | rfl | omega | (simp_all; done) | (simp_all; intros; omega)))
end Go.Proofs.Ytehinkckdeodhaa.VA
