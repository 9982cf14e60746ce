/- Layer 6's laws: CodecReads. -/
import Derived.Test.YtehinkckdeodhaaElaw6
import Derived.Test.YtehinkckdeodhaaDlaw6
import Derived.Test.YtehinkckdeodhaaVC
set_option linter.unusedVariables false
set_option linter.unusedSimpArgs false
set_option maxRecDepth 100000
namespace Go.Proofs.Ytehinkckdeodhaa.VA
open Go
attribute [local irreducible] WK NK XK TK RK FK CK CFK CallRel C
attribute [local irreducible] putV putQ putP putR vltV vltE keepV keepQ keepR reqV recS

def rows3 (a b c : List UInt8) : List V := [rowV (.of a), rowV (.of b), rowV (.of c)]
theorem rows3_len (a b c : List UInt8) : (rows3 a b c).length = 3 := rfl
theorem rows3_at (a b c : List UInt8) (i : Nat) (h : i < 3) (ha : 1 ≤ a.length ∧ a.length ≤ 1000) (hb : 1 ≤ b.length ∧ b.length ≤ 1000) (hc : 1 ≤ c.length ∧ c.length ≤ 1000) : ∃ l : List UInt8, 1 ≤ l.length ∧ l.length ≤ 1000 ∧ rd none (rows3 a b c) i = some (rowV (.of l)) := by
  match i, h with
  | 0, _ => exact ⟨a, ha.1, ha.2, rfl⟩
  | 1, _ => exact ⟨b, hb.1, hb.2, rfl⟩
  | 2, _ => exact ⟨c, hc.1, hc.2, rfl⟩
theorem rows3_cl (a b c : List UInt8) : ClosedL (rows3 a b c) := ⟨row_closed _, row_closed _, row_closed _, trivial⟩
theorem rows3_arg {H : Heap} {ids bs : List Nat} {a b c : List UInt8} : ArgRelL H ids bs (rows3 a b c) (rows3 a b c) := argL_closed _ (rows3_cl a b c)
theorem rows3_of (a b c : List UInt8) : [rowV (.of a), rowV (.of b), rowV (.of c)] = rows3 a b c := rfl
attribute [local irreducible] rows3

theorem putR_len {r : Rec} (h : RightR r) : 1 ≤ (putR r).length ∧ (putR r).length ≤ 1000 := by
  have fl : RisingP r.vaults.l → (r.vaults.l.flatMap putV).length ≤ 112 * r.vaults.l.length := fun h => flat_le _ fun i hi => (h.2 i hi).1
  have hk := rightR_kind h
  unfold putR
  split
  · have hv : RightV r.vault := by rcases h with h | ⟨_, h | h | h⟩ <;> first | exact h.2.1 | omega
    have := right_sec hv
    simp only [List.length_append, putV_len, List.length_cons, List.length_nil]; omega
  · split
    · simp only [List.length_append, numI_len, List.length_cons, List.length_nil]; omega
    · split
      · have hr : RisingP r.vaults.l := by rcases h with h | ⟨_, h | h | h⟩ <;> first | exact h.2.2 | omega
        have := fl hr
        have := hr.1
        simp only [List.length_append, numI_len, List.length_cons, List.length_nil]; omega
      · simp only [List.length_append, numI_len, List.length_cons, List.length_nil]; omega

set_option maxHeartbeats 4000000 in
theorem codecReads_C (x : KV) (q : KQ) (r : KR) (at_ : Int) (turn : UInt8) (more : Row) (hx : 0 ≤ x.gen) (hq : 0 ≤ q.num) (hr : r.fine) :
    C Try.prog 18 [.agg (cKV x), .agg (cKQ q), .agg (cKR r), vi .i64 at_, vi .u8 (turn.toNat : Int), rowV more] [] (vb true) [] := by
  refine C_of mixed Try.func18 A_clavigerlaw6_CodecReads_ok A_clavigerlaw6_CodecReads_res _ A_clavigerlaw6_CodecReads_nt ?_
  have k1 := keepV_C x (kid x.id) hx
  have k3 := keepQ_C q hq
  have k4 := keepR_C r hr
  have r1 := keepV_right x (kid x.id) hx
  have r3 := keepQ_right q hq
  have r4 := keepR_right r hr
  have i1 := kid_C x.id
  generalize keepV x (kid x.id) = a at *
  generalize keepQ q = p at *
  generalize keepR r = s at *
  have hn : p.num ≤ 1099511627776 := r3.1.1.2.2
  have hs := rightQ_sec r3.1
  have hsa := right_sec r1
  have la := putV_len a
  have lp := putQ_len p
  have lrr := putR_len r4.1
  have c1 := rputVR_C a r1
  have c2 := rputQ_C p r3.2 (by omega) (by omega)
  have c3 := rputR_C s r4.1 r4.2.1 r4.2.2.1
  generalize putV a = A at *
  generalize putQ p = B at *
  generalize putR s = D at *
  (repeat' (first | simp (maxSteps := 2000000) -implicitDefEqProofs only [A_clavigerlaw6_CodecReads, Int.reduceBNe, Int.reduceBEq, len_lst, cells_lst, rk_ext, fk_ext, sm_c, sm_a, numI_len, lr_api, lr_keep, lr, lr2, oO, oN, oG, oNG, oM, oF, oL, rg, ci, Nat.reduceEqDiff, Nat.reduceAdd, Nat.reduceSub, Int.reduceTDiv, Int.reduceTMod, ge_iff_le, Int.reduceGE, Nat.reducePow, Int.reduceEq, Int.reduceNeg, Int.reduceLE, Int.reducePow, Int.reduceLT, Int.reduceSub, Int.reduceAdd, Int.reduceMul, Int.reduceToNat, Option.map_some, ↓reduceIte, ite_not, beq_iff_eq, bne_iff_ne, ne_eq, beq_self_eq_true, beq_eq_false_iff_ne, bne_eq_false_iff_eq, resAll, resL, resV, reduceCtorEq, Option.some.injEq, exists_eq_left', blkAt, Nat.reduceLeDiff, Nat.reduceMul, eq_self, Nat.reduceLT, undef, fillV, evParts, footOp, wrOp, chk, disj, Nat.reduceBEq] | split | ((first | apply ck_call | apply cfk_call); (first | (apply call_pure (i1) cll cl) | (apply call_pure (k1) cll cl) | (apply call_pure (c1) cll cl) | (apply call_pure (k3) cll cl) | (apply call_pure (c2) cll cl) | (apply call_pure (k4) cll cl) | (apply call_pure (c3) cll cl)))))
  rw [rows3_of]
  refine wk_loop (fun z S H => ∃ i : Nat, i ≤ 3 ∧ z = 3 - i ∧ S = (.dead :: .dead :: .dead :: vi .i64 at_ :: vi .u8 (turn.toNat : Int) :: rowV more :: .dead :: .dead :: .dead :: .dead :: .dead :: .dead :: vb false :: .dead :: .dead :: .dead :: .dead :: .dead :: .dead :: .dead :: .dead :: .dead :: .dead :: .dead :: .dead :: .dead :: .dead :: .dead :: .dead :: .dead :: .sref 0 0 3 1 :: vi .i64 3 :: vi .i64 i :: .dead :: .dead :: .dead :: .dead :: .dead :: .dead :: .dead :: .dead :: .dead :: .dead :: .dead :: .dead :: .dead :: .dead :: .dead :: .dead :: .dead :: .dead :: .dead :: .dead :: .dead :: .dead :: .dead :: .dead :: .dead :: .dead :: .dead :: .dead :: .dead :: .dead :: .dead :: .dead :: .dead :: .dead :: .dead :: []) ∧ H = [some (rows3 A B D)]) 3 ⟨0, Nat.zero_le _, rfl, rfl, rfl⟩ (by refine .ren _ _ _ [3] (by decide) (by intro k h; first | exact absurd h (Nat.not_lt_zero k) | (simp at h; done) | (match k, h with | 0, _ => rfl)) ?_ ?_ <;> simp [KeepS, KeepH, ArgRel, ArgRelL, argL_cl, arg_cl, row_l_of, row_l_nil, bn_len, blkAt, rows3_arg]) ?_
  rintro z S H ⟨i, hi, rfl, rfl, rfl⟩ J hJ
  have d0 : (0 : Int) ≤ i := by omega
  by_cases hi3 : i < 3
  · have d1 : (i : Int) < 3 := by omega
    have d2 : i + 1 ≤ 3 := by omega
    obtain ⟨l, hl1, hl2, hrd⟩ := rows3_at A B D i hi3 (by omega) (by omega) (by omega)
    have wi : IntKind.i64.wrap ((i : Int) + 1) = ((i + 1 : Nat) : Int) := by rw [wrap_id _ (by omega) (by omega)]; omega
    have wl : IntKind.i64.wrap ((l.length : Int) - 1) = ((l.length - 1 : Nat) : Int) := by rw [wrap_id _ (by omega) (by omega)]; omega
    have hc : (cutF more 30).l.length ≤ 30 := by rw [cutF_l, List.length_take]; omega
    have ll : l.length ≤ 140737488355328 := by omega
    (repeat' (first | simp (maxSteps := 2000000) -implicitDefEqProofs only [A_clavigerlaw6_CodecReads_L0, d0, d1, d2, hrd, rows3_len, wl, app_bs0, ll, Int.reduceBNe, Int.reduceBEq, len_lst, cells_lst, rk_ext, fk_ext, sm_c, sm_a, numI_len, lr_api, lr_keep, lr, lr2, oO, oN, oG, oNG, oM, oF, oL, rg, ci, Nat.reduceEqDiff, Nat.reduceAdd, Nat.reduceSub, Int.reduceTDiv, Int.reduceTMod, ge_iff_le, Int.reduceGE, Nat.reducePow, Int.reduceEq, Int.reduceNeg, Int.reduceLE, Int.reducePow, Int.reduceLT, Int.reduceSub, Int.reduceAdd, Int.reduceMul, Int.reduceToNat, Option.map_some, ↓reduceIte, ite_not, beq_iff_eq, bne_iff_ne, ne_eq, beq_self_eq_true, beq_eq_false_iff_ne, bne_eq_false_iff_eq, resAll, resL, resV, reduceCtorEq, Option.some.injEq, exists_eq_left', blkAt, Nat.reduceLeDiff, Nat.reduceMul, eq_self, Nat.reduceLT, undef, fillV, evParts, footOp, wrOp, chk, disj, Nat.reduceBEq] | split))
    ((first | apply ck_call | apply cfk_call); (apply call_pure (within_C at_ 0 ((l.length - 1 : Nat) : Int) (by decide) (by omega) (by omega)) cll cl))
    have hw := within_range at_ 0 ((l.length - 1 : Nat) : Int) (by omega)
    generalize within at_ 0 ((l.length - 1 : Nat) : Int) = k at hw
    obtain ⟨k, rfl⟩ : ∃ n : Nat, k = n := ⟨k.toNat, by omega⟩
    have e0 : (0 : Int) ≤ k := by omega
    have e1 : (k : Int) < l.length := by omega
    have e2 : k < l.length := by omega
    have e3 : k + 1 ≤ l.length := by omega
    have hl' : (l.set k (l.getD k 0 ^^^ turn)).length = l.length := List.length_set
    have hs : Sm (l.set k (l.getD k 0 ^^^ turn)) (cutF more 30).l.length := by simp only [Sm, hl']; omega
    (repeat' (first | simp (maxSteps := 2000000) -implicitDefEqProofs only [e0, e1, e2, e3, wi, rd_bs, by8_nat, hs, List.length_set, Int.reduceBNe, Int.reduceBEq, len_lst, cells_lst, rk_ext, fk_ext, sm_c, sm_a, numI_len, lr_api, lr_keep, lr, lr2, oO, oN, oG, oNG, oM, oF, oL, rg, ci, Nat.reduceEqDiff, Nat.reduceAdd, Nat.reduceSub, Int.reduceTDiv, Int.reduceTMod, ge_iff_le, Int.reduceGE, Nat.reducePow, Int.reduceEq, Int.reduceNeg, Int.reduceLE, Int.reducePow, Int.reduceLT, Int.reduceSub, Int.reduceAdd, Int.reduceMul, Int.reduceToNat, Option.map_some, ↓reduceIte, ite_not, beq_iff_eq, bne_iff_ne, ne_eq, beq_self_eq_true, beq_eq_false_iff_ne, bne_eq_false_iff_eq, resAll, resL, resV, reduceCtorEq, Option.some.injEq, exists_eq_left', blkAt, Nat.reduceLeDiff, Nat.reduceMul, eq_self, Nat.reduceLT, undef, fillV, evParts, footOp, wrOp, chk, disj, Nat.reduceBEq] | split | ((first | apply ck_call | apply cfk_call); (first | (apply call_pure (reads6_C (.of l)) cll cl) | (apply call_pure (cut_C more 30) cll cl) | (apply call_roA (reads6_C (.of (l.set k (l.getD k 0 ^^^ turn)))); (simp [ids_nil, ids_cons, ids_sc, ids_agg, ids_dg, ids_bs, ids_row, ids_ints, ids_sref, ids_ref, ids_sl, blkAt] <;> fail); (repeat' (first | exact args_n | apply args_c | (first | exact arg_closed _ cl | (refine arg_rowA rfl mem ?_; (first | rfl | omega | (simp [bn_len] <;> fail) | (simp [bn_len]; omega))) | (refine arg_row rfl mem ?_; (first | rfl | omega | (simp [bn_len] <;> fail) | (simp [bn_len]; omega))) | (refine arg_fld mem ?_ ?_; (first | rfl | omega | (simp [bn_len] <;> fail) | (simp [bn_len]; omega)); (simp only [Int.reduceBNe, Int.reduceBEq, len_lst, cells_lst, rk_ext, fk_ext, sm_c, sm_a, numI_len, lr_api, lr_keep, blkAt, List.getD_cons_zero, List.getD_cons_succ, Option.bind_some, rd_sE] <;> fail))))); (first | exact cl | exact cll); (first | exact nr | exact nrl)) | (apply call_roA (reads6_C (.of (l.set k (l.getD k 0 ^^^ turn) ++ (cutF more 30).l))); (simp [ids_nil, ids_cons, ids_sc, ids_agg, ids_dg, ids_bs, ids_row, ids_ints, ids_sref, ids_ref, ids_sl, blkAt] <;> fail); (repeat' (first | exact args_n | apply args_c | (first | exact arg_closed _ cl | (refine arg_rowA rfl mem ?_; (first | rfl | omega | (simp [bn_len] <;> fail) | (simp [bn_len]; omega))) | (refine arg_row rfl mem ?_; (first | rfl | omega | (simp [bn_len] <;> fail) | (simp [bn_len]; omega))) | (refine arg_fld mem ?_ ?_; (first | rfl | omega | (simp [bn_len] <;> fail) | (simp [bn_len]; omega)); (simp only [Int.reduceBNe, Int.reduceBEq, len_lst, cells_lst, rk_ext, fk_ext, sm_c, sm_a, numI_len, lr_api, lr_keep, blkAt, List.getD_cons_zero, List.getD_cons_succ, Option.bind_some, rd_sE] <;> fail))))); (first | exact cl | exact cll); (first | exact nr | exact nrl))))))
    exact hJ _ _ _ _ _ (by omega) ⟨i + 1, by omega, rfl, rfl, rfl⟩ (by refine .ren _ _ _ [0] (by decide) (by intro k h; first | exact absurd h (Nat.not_lt_zero k) | (simp at h; done) | (match k, h with | 0, _ => rfl)) ?_ ?_ <;> simp [KeepS, KeepH, ArgRel, ArgRelL, argL_cl, arg_cl, row_l_of, row_l_nil, bn_len, blkAt, rows3_arg])
  · obtain rfl : i = 3 := by omega
    (repeat' (first | simp (maxSteps := 2000000) -implicitDefEqProofs only [A_clavigerlaw6_CodecReads_L0, K_clavigerlaw6_CodecReads_L0, Int.reduceBNe, Int.reduceBEq, len_lst, cells_lst, rk_ext, fk_ext, sm_c, sm_a, numI_len, lr_api, lr_keep, lr, lr2, oO, oN, oG, oNG, oM, oF, oL, rg, ci, Nat.reduceEqDiff, Nat.reduceAdd, Nat.reduceSub, Int.reduceTDiv, Int.reduceTMod, ge_iff_le, Int.reduceGE, Nat.reducePow, Int.reduceEq, Int.reduceNeg, Int.reduceLE, Int.reducePow, Int.reduceLT, Int.reduceSub, Int.reduceAdd, Int.reduceMul, Int.reduceToNat, Option.map_some, ↓reduceIte, ite_not, beq_iff_eq, bne_iff_ne, ne_eq, beq_self_eq_true, beq_eq_false_iff_ne, bne_eq_false_iff_eq, resAll, resL, resV, reduceCtorEq, Option.some.injEq, exists_eq_left', blkAt, Nat.reduceLeDiff, Nat.reduceMul, eq_self, Nat.reduceLT, undef, fillV, evParts, footOp, wrOp, chk, disj, Nat.reduceBEq] | split | ((first | apply ck_call | apply cfk_call); (first | (apply call_pure (known6_C) cll cl)))))
    all_goals (refine out_eq ?_ (cl); first | rfl | (simp_all []; done) | (simp_all []; intros; omega) | (simp []; (repeat' split) <;> first | rfl | omega | (simp_all; done) | (simp_all; intros; omega)))

end Go.Proofs.Ytehinkckdeodhaa.VA
