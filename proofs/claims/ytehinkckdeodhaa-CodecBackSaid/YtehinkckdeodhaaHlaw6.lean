/- Layer 6's laws: CodecBack. -/
import Derived.Test.YtehinkckdeodhaaElaw6
import Derived.Test.YtehinkckdeodhaaPR
import Derived.Test.YtehinkckdeodhaaVC
set_option linter.unusedVariables false
set_option linter.unusedSimpArgs false
set_option maxRecDepth 100000
namespace Go.Proofs.Ytehinkckdeodhaa.VA
open Go
attribute [local irreducible] WK NK XK TK RK FK CK CFK CallRel C
attribute [local irreducible] putV putQ putP putR vltV vltE keepV keepQ keepR reqV recS

theorem toRequestB_C {q : Req} (hq : RightQ q) (hn : 0 ≤ q.num) : ∃ v, sameQ v q ∧ C Try.prog 72 [rowV (.of (putQ q))] [] (.tup [.agg (cReq v), vi .i64 0]) [] := by
  have h := req_back hq hn (r := rd0 (.of (putQ q))) (at_rd0 _)
  have c1 := toRequest_C (.of (putQ q))
  rw [if_pos (show reqOK (rd0 (.of (putQ q))) from ⟨h.2.1, h.2.2⟩)] at c1
  exact ⟨_, h.1, c1⟩
theorem toRecordB_C {x : Rec} (hx : RightR x) (he : 0 ≤ x.epoch) : ∃ v, sameR v x ∧ RightR v ∧ C Try.prog 74 [rowV (.of (putR x))] [] (.tup [.agg (cRec v), vi .i64 0]) [] := by
  have h := rec_back hx he (r := rd0 (.of (putR x))) (at_rd0 _)
  have c1 := toRecord_C (.of (putR x))
  unfold recOut at c1
  rw [if_pos ⟨h.2.1, h.2.2⟩] at c1
  exact ⟨_, h.1, h.2.2, c1⟩

set_option maxHeartbeats 4000000 in
theorem codecBack_C (x y : KV) (q : KQ) (r : KR) (hx : 0 ≤ x.gen) (hy : 0 ≤ y.gen) (hq : 0 ≤ q.num) (hr : r.fine) : C Try.prog 19 [.agg (cKV x), .agg (cKV y), .agg (cKQ q), .agg (cKR r)] [] (vb true) [] := by
  refine C_of mixed Try.func19 A_clavigerlaw6_CodecBack_ok A_clavigerlaw6_CodecBack_res _ A_clavigerlaw6_CodecBack_nt ?_
  have k1 := keepV_C x (kid x.id) hx
  have k2 := keepV_C y (kid y.id) hy
  have k3 := keepQ_C q hq
  have k4 := keepR_C r hr
  have r1 := keepV_right x (kid x.id) hx
  have r2 := keepV_right y (kid y.id) hy
  have r3 := keepQ_right q hq
  have r4 := keepR_right r hr
  have i1 := kid_C x.id
  have i2 := kid_C y.id
  generalize keepV x (kid x.id) = a at *
  generalize keepV y (kid y.id) = b at *
  generalize keepQ q = p at *
  generalize keepR r = s at *
  obtain ⟨v, hv, c1⟩ := toVaultB_C r1 (putV b)
  obtain ⟨o, ho, c2⟩ := toRequestB_C r3.1 r3.2
  obtain ⟨t, ht, htr, c3⟩ := toRecordB_C r4.1 r4.2.1
  have hn : p.num ≤ 1099511627776 := r3.1.1.2.2
  have hs := rightQ_sec r3.1
  have hsa := right_sec r1
  have hsb := right_sec r2
  have la := putV_len a
  have lb := putV_len b
  have c4 := rrequests2_C o p r3.2 (by omega) (by omega) ho
  have lt : t.vaults.l.length ≤ 4 := by rw [ht.2.2.2.2.2.1]; exact r4.2.2.2
  have c5 := rrecords_C t s ht (by omega)
  have c6 := sameV_C v a
  rw [decide_eq_true hv] at c6
  have d1 : (putV a).length ≤ 140737488355328 := by omega
  have d2 : Sm (putV a) (putV b).length := by simp only [Sm]; omega
  have c7 := vaultR_C a r1
  have c8 := vaultR_C b r2
  have c9 := sameV_C a b
  have c10 := rsame_C a b
  have c11 := request_C p r3.1 r3.2
  have c12 := record_C s r4.1 r4.2.1
  by_cases h : sameV a b
  · have e := putV_same h
    rw [e] at c1 c7 d1 d2
    rw [decide_eq_true h] at c9 c10
    (repeat' (first | simp (maxSteps := 2000000) -implicitDefEqProofs only [A_clavigerlaw6_CodecBack, app_bs0, d1, d2, Int.reduceBNe, Int.reduceBEq, len_lst, cells_lst, rk_ext, fk_ext, sm_c, sm_a, numI_len, lr_api, lr_keep, lr, lr2, oO, oN, oG, oNG, oM, oF, oL, rg, ci, Nat.reduceEqDiff, Nat.reduceAdd, Nat.reduceSub, Int.reduceTDiv, Int.reduceTMod, ge_iff_le, Int.reduceGE, Nat.reducePow, Int.reduceEq, Int.reduceNeg, Int.reduceLE, Int.reducePow, Int.reduceLT, Int.reduceSub, Int.reduceAdd, Int.reduceMul, Int.reduceToNat, Option.map_some, ↓reduceIte, ite_not, beq_iff_eq, bne_iff_ne, ne_eq, beq_self_eq_true, beq_eq_false_iff_ne, bne_eq_false_iff_eq, resAll, resL, resV, reduceCtorEq, Option.some.injEq, exists_eq_left', blkAt, Nat.reduceLeDiff, Nat.reduceMul, eq_self, Nat.reduceLT, undef, fillV, evParts, footOp, wrOp, chk, disj, Nat.reduceBEq] | split | ((first | apply ck_call | apply cfk_call); (first | (apply call_pure (i1) cll cl) | (apply call_pure (i2) cll cl) | (apply call_pure (k1) cll cl) | (apply call_pure (k2) cll cl) | (apply call_pure (c7) cll cl) | (apply call_pure (c8) cll cl) | (apply call_give (c1); (case hg => ((first | (apply give_rowA; (first | rfl | omega | (simp [bn_len] <;> fail) | (simp [bn_len]; omega) | fail)) | (apply give_row; (first | rfl | omega | (simp [bn_len] <;> fail) | (simp [bn_len]; omega) | fail)) | (apply give_c; (first | exact cl | exact cll)) | fail); exact give_n)); (first | exact cl | exact cll); rfl; (first | exact cl | exact cll); (simp [ids_nil, ids_cons, ids_sc, ids_agg, ids_dg, ids_bs, ids_row, ids_ints, ids_sref, ids_ref, ids_sl, gVlt_ids, cVlt_ids] <;> fail)) | (apply call_pure (c6) cll cl) | (apply call_pure (c9) cll cl) | (apply call_pure (c10) cll cl) | (apply call_pure (k3) cll cl) | (apply call_pure (c11) cll cl) | (apply call_pure (c2) cll cl) | (apply call_pure (k4) cll cl) | (apply call_pure (c12) cll cl) | (apply call_pure (c3) cll cl) | (apply call_pure (c4) cll cl) | (apply call_pure (c5) cll cl) | (apply call_pure (known6_C) cll cl)))))
    all_goals (refine out_eq ?_ (cl); first | rfl | (simp_all []; done) | (simp_all []; intros; omega) | (simp []; (repeat' split) <;> first | rfl | omega | (simp_all; done) | (simp_all; intros; omega)))
  · have e : ¬ putV a = putV b := fun e => h (putV_inj r1 r2 e)
    rw [decide_eq_false h] at c9 c10
    (repeat' (first | simp (maxSteps := 2000000) -implicitDefEqProofs only [A_clavigerlaw6_CodecBack, app_bs0, d1, d2, e, Int.reduceBNe, Int.reduceBEq, len_lst, cells_lst, rk_ext, fk_ext, sm_c, sm_a, numI_len, lr_api, lr_keep, lr, lr2, oO, oN, oG, oNG, oM, oF, oL, rg, ci, Nat.reduceEqDiff, Nat.reduceAdd, Nat.reduceSub, Int.reduceTDiv, Int.reduceTMod, ge_iff_le, Int.reduceGE, Nat.reducePow, Int.reduceEq, Int.reduceNeg, Int.reduceLE, Int.reducePow, Int.reduceLT, Int.reduceSub, Int.reduceAdd, Int.reduceMul, Int.reduceToNat, Option.map_some, ↓reduceIte, ite_not, beq_iff_eq, bne_iff_ne, ne_eq, beq_self_eq_true, beq_eq_false_iff_ne, bne_eq_false_iff_eq, resAll, resL, resV, reduceCtorEq, Option.some.injEq, exists_eq_left', blkAt, Nat.reduceLeDiff, Nat.reduceMul, eq_self, Nat.reduceLT, undef, fillV, evParts, footOp, wrOp, chk, disj, Nat.reduceBEq] | split | ((first | apply ck_call | apply cfk_call); (first | (apply call_pure (i1) cll cl) | (apply call_pure (i2) cll cl) | (apply call_pure (k1) cll cl) | (apply call_pure (k2) cll cl) | (apply call_pure (c7) cll cl) | (apply call_pure (c8) cll cl) | (apply call_give (c1); (case hg => ((first | (apply give_rowA; (first | rfl | omega | (simp [bn_len] <;> fail) | (simp [bn_len]; omega) | fail)) | (apply give_row; (first | rfl | omega | (simp [bn_len] <;> fail) | (simp [bn_len]; omega) | fail)) | (apply give_c; (first | exact cl | exact cll)) | fail); exact give_n)); (first | exact cl | exact cll); rfl; (first | exact cl | exact cll); (simp [ids_nil, ids_cons, ids_sc, ids_agg, ids_dg, ids_bs, ids_row, ids_ints, ids_sref, ids_ref, ids_sl, gVlt_ids, cVlt_ids] <;> fail)) | (apply call_pure (c6) cll cl) | (apply call_pure (c9) cll cl) | (apply call_pure (c10) cll cl) | (apply call_pure (k3) cll cl) | (apply call_pure (c11) cll cl) | (apply call_pure (c2) cll cl) | (apply call_pure (k4) cll cl) | (apply call_pure (c12) cll cl) | (apply call_pure (c3) cll cl) | (apply call_pure (c4) cll cl) | (apply call_pure (c5) cll cl) | (apply call_pure (known6_C) cll cl)))))
    all_goals (refine out_eq ?_ (cl); first | rfl | (simp_all []; done) | (simp_all []; intros; omega) | (simp []; (repeat' split) <;> first | rfl | omega | (simp_all; done) | (simp_all; intros; omega)))


end Go.Proofs.Ytehinkckdeodhaa.VA
