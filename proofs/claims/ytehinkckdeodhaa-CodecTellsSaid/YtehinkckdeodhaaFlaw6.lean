/- Layer 6's laws: CodecTells. -/
import Derived.Test.YtehinkckdeodhaaElaw6
import Derived.Test.YtehinkckdeodhaaDlaw6
import Derived.Test.YtehinkckdeodhaaVC
set_option linter.unusedVariables false
set_option linter.unusedSimpArgs false
set_option maxRecDepth 100000
namespace Go.Proofs.Ytehinkckdeodhaa.VA
open Go
attribute [local irreducible] WK NK XK TK RK FK CK CFK CallRel C
attribute [local irreducible] putV putQ putP putR vltV vltE keepV keepQ keepR reqV recS

theorem room_cut6 (l : List UInt8) (m : UInt8) : ((roomyF l m).drop 0).take l.length = l := by
  rw [List.drop_zero, roomyF, List.take_left']; rfl
set_option maxHeartbeats 4000000 in
theorem codecTells_C (x : KV) (q : KQ) (r : KR) (v : Vlt) (p : Req) (y : Rpl) (z : Rec) (b : Row) (hx : 0 ≤ x.gen) (hq : 0 ≤ q.num) (hr : r.fine) (hp : 0 ≤ p.num) (hy : 0 ≤ y.num) (hy2 : 0 ≤ y.gen) (hz : 0 ≤ z.epoch) :
    C Try.prog 21 [.agg (cKV x), .agg (cKQ q), .agg (cKR r), .agg (cVlt v), .agg (cReq p), .agg (cRpl y), .agg (cRec z), rowV b] [] (vb true) [] := by
  refine C_of mixed Try.func21 A_clavigerlaw6_CodecTells_ok A_clavigerlaw6_CodecTells_res _ A_clavigerlaw6_CodecTells_nt ?_
  have k1 := keepV_C x (kid x.id) hx
  have k3 := keepQ_C q hq
  have k4 := keepR_C r hr
  have r3 := keepQ_right q hq
  have r4 := keepR_right r hr
  have i1 := kid_C x.id
  generalize keepV x (kid x.id) = a at *
  generalize keepQ q = o at *
  generalize keepR r = s at *
  (repeat' (first | simp (maxSteps := 2000000) -implicitDefEqProofs only [A_clavigerlaw6_CodecTells, Int.reduceBNe, Int.reduceBEq, len_lst, cells_lst, rk_ext, fk_ext, sm_c, sm_a, numI_len, lr_api, lr_keep, lr, lr2, oO, oN, oG, oNG, oM, oF, oL, rg, ci, Nat.reduceEqDiff, Nat.reduceAdd, Nat.reduceSub, Int.reduceTDiv, Int.reduceTMod, ge_iff_le, Int.reduceGE, Nat.reducePow, Int.reduceEq, Int.reduceNeg, Int.reduceLE, Int.reducePow, Int.reduceLT, Int.reduceSub, Int.reduceAdd, Int.reduceMul, Int.reduceToNat, Option.map_some, ↓reduceIte, ite_not, beq_iff_eq, bne_iff_ne, ne_eq, beq_self_eq_true, beq_eq_false_iff_ne, bne_eq_false_iff_eq, resAll, resL, resV, reduceCtorEq, Option.some.injEq, exists_eq_left', blkAt, Nat.reduceLeDiff, Nat.reduceMul, eq_self, Nat.reduceLT, undef, fillV, evParts, footOp, wrOp, chk, disj, Nat.reduceBEq] | split | ((first | apply ck_call | apply cfk_call); (first | (apply call_pure (cut_C b 150) cll cl)))))
  have hb : (cutF b 150).l.length ≤ 150 := by rw [cutF_l, List.length_take]; omega
  generalize cutF b 150 = b at *
  ((first | apply ck_call | apply cfk_call); (apply call_new (roomy_C b 165 (by omega)) cll cll))
  have c1 := reads6_C (.of (((roomyF b.l 165).drop 0).take b.l.length))
  have d1 : (0 : Int) ≤ b.l.length := by omega
  have d2 : (b.l.length : Int) ≤ ((b.l.length + 80 : Nat) : Int) := by omega
  (repeat' (first | simp (maxSteps := 2000000) -implicitDefEqProofs only [d1, d2, Int.reduceBNe, Int.reduceBEq, len_lst, cells_lst, rk_ext, fk_ext, sm_c, sm_a, numI_len, lr_api, lr_keep, lr, lr2, oO, oN, oG, oNG, oM, oF, oL, rg, ci, Nat.reduceEqDiff, Nat.reduceAdd, Nat.reduceSub, Int.reduceTDiv, Int.reduceTMod, ge_iff_le, Int.reduceGE, Nat.reducePow, Int.reduceEq, Int.reduceNeg, Int.reduceLE, Int.reducePow, Int.reduceLT, Int.reduceSub, Int.reduceAdd, Int.reduceMul, Int.reduceToNat, Option.map_some, ↓reduceIte, ite_not, beq_iff_eq, bne_iff_ne, ne_eq, beq_self_eq_true, beq_eq_false_iff_ne, bne_eq_false_iff_eq, resAll, resL, resV, reduceCtorEq, Option.some.injEq, exists_eq_left', blkAt, Nat.reduceLeDiff, Nat.reduceMul, eq_self, Nat.reduceLT, undef, fillV, evParts, footOp, wrOp, chk, disj, Nat.reduceBEq] | split | ((first | apply ck_call | apply cfk_call); (first | (apply call_pure (i1) cll cl) | (apply call_pure (k1) cll cl) | (apply call_pure (vault6_C a) cll cl) | (apply call_pure (vault6_C v) cll cl) | (apply call_pure (k3) cll cl) | (apply call_pure (request6_C o r3.2) cll cl) | (apply call_pure (request6_C p hp) cll cl) | (apply call_pure (reply6_C y hy hy2) cll cl) | (apply call_pure (k4) cll cl) | (apply call_pure (record6_C s r4.2.1) cll cl) | (apply call_pure (record6_C z hz) cll cl) | (apply call_roA (c1); (simp [ids_nil, ids_cons, ids_sc, ids_agg, ids_dg, ids_bs, ids_row, ids_ints, ids_sref, ids_ref, ids_sl, gVlt_ids, cVlt_ids, blkAt] <;> fail); (repeat' (first | exact args_n | apply args_c | (first | (first | exact arg_closed _ cl | (refine arg_rowA rfl mem ?_; (first | rfl | omega | (simp [bn_len, roomyF] <;> fail) | (simp [bn_len, roomyF]; omega))) | (refine arg_row rfl mem ?_; (first | rfl | omega | (simp [bn_len, roomyF] <;> fail) | (simp [bn_len, roomyF]; omega))) | (refine arg_fld mem ?_ ?_; (first | rfl | omega | (simp [bn_len, roomyF] <;> fail) | (simp [bn_len, roomyF]; omega)); (simp only [Int.reduceBNe, Int.reduceBEq, len_lst, cells_lst, rk_ext, fk_ext, sm_c, sm_a, numI_len, lr_api, lr_keep, blkAt, List.getD_cons_zero, List.getD_cons_succ, Option.bind_some, rd_sE] <;> fail))) | (refine arg_agg (argG_Vlt_secret _ ?_); (first | exact arg_closed _ cl | (refine arg_rowA rfl mem ?_; (first | rfl | omega | (simp [bn_len, roomyF] <;> fail) | (simp [bn_len, roomyF]; omega))) | (refine arg_row rfl mem ?_; (first | rfl | omega | (simp [bn_len, roomyF] <;> fail) | (simp [bn_len, roomyF]; omega))) | (refine arg_fld mem ?_ ?_; (first | rfl | omega | (simp [bn_len, roomyF] <;> fail) | (simp [bn_len, roomyF]; omega)); (simp only [Int.reduceBNe, Int.reduceBEq, len_lst, cells_lst, rk_ext, fk_ext, sm_c, sm_a, numI_len, lr_api, lr_keep, blkAt, List.getD_cons_zero, List.getD_cons_succ, Option.bind_some, rd_sE] <;> fail)))) | fail))); (first | exact cl | exact cll); (first | exact nr | exact nrl)) | (apply call_roA (intact_C (.of (roomyF b.l 165)) b 165 (by omega) rfl); (simp [ids_nil, ids_cons, ids_sc, ids_agg, ids_dg, ids_bs, ids_row, ids_ints, ids_sref, ids_ref, ids_sl, gVlt_ids, cVlt_ids, blkAt] <;> fail); (repeat' (first | exact args_n | apply args_c | (first | (first | exact arg_closed _ cl | (refine arg_rowA rfl mem ?_; (first | rfl | omega | (simp [bn_len, roomyF] <;> fail) | (simp [bn_len, roomyF]; omega))) | (refine arg_row rfl mem ?_; (first | rfl | omega | (simp [bn_len, roomyF] <;> fail) | (simp [bn_len, roomyF]; omega))) | (refine arg_fld mem ?_ ?_; (first | rfl | omega | (simp [bn_len, roomyF] <;> fail) | (simp [bn_len, roomyF]; omega)); (simp only [Int.reduceBNe, Int.reduceBEq, len_lst, cells_lst, rk_ext, fk_ext, sm_c, sm_a, numI_len, lr_api, lr_keep, blkAt, List.getD_cons_zero, List.getD_cons_succ, Option.bind_some, rd_sE] <;> fail))) | (refine arg_agg (argG_Vlt_secret _ ?_); (first | exact arg_closed _ cl | (refine arg_rowA rfl mem ?_; (first | rfl | omega | (simp [bn_len, roomyF] <;> fail) | (simp [bn_len, roomyF]; omega))) | (refine arg_row rfl mem ?_; (first | rfl | omega | (simp [bn_len, roomyF] <;> fail) | (simp [bn_len, roomyF]; omega))) | (refine arg_fld mem ?_ ?_; (first | rfl | omega | (simp [bn_len, roomyF] <;> fail) | (simp [bn_len, roomyF]; omega)); (simp only [Int.reduceBNe, Int.reduceBEq, len_lst, cells_lst, rk_ext, fk_ext, sm_c, sm_a, numI_len, lr_api, lr_keep, blkAt, List.getD_cons_zero, List.getD_cons_succ, Option.bind_some, rd_sE] <;> fail)))) | fail))); (first | exact cl | exact cll); (first | exact nr | exact nrl)) | (apply call_pure (known6_C) cll cl)))))
  all_goals (refine out_eq ?_ (cl); first | rfl | (simp_all []; done) | (simp_all []; intros; omega) | (simp []; (repeat' split) <;> first | rfl | omega | (simp_all; done) | (simp_all; intros; omega)))

end Go.Proofs.Ytehinkckdeodhaa.VA
