/- Layer 6's laws: known, CodecLengths. -/
import Derived.Test.YtmmaenfjnkoknaaLlaw6
import Derived.Test.YtmmaenfjnkoknaaPR
import Derived.Test.YtmmaenfjnkoknaaPK
import Derived.Test.YtmmaenfjnkoknaaVC
set_option linter.unusedVariables false
set_option linter.unusedSimpArgs false
set_option maxRecDepth 100000
namespace Go.Proofs.Ytmmaenfjnkoknaa.VA
open Go
attribute [local irreducible] WK NK XK TK RK FK CK CFK CallRel C
attribute [local irreducible] putV putQ putP putR vltV vltE
def v6 : Vlt := ⟨(Bn.zero 4).set 0 (by8 1), 1, Bn.zero 16, .of [by8 115], 3, 0, Bn.zero 16, false, false⟩
theorem v6_right : RightV v6 := by decide
theorem toVaultB_C {x : Vlt} (hr : RightV x) (l : List UInt8) : ∃ v, sameV v x ∧ C Try.prog 109 [rowV (.of (putV x ++ l))] [] (.tup [.agg (cVlt v), vi .i64 (putV x).length, vi .i64 0]) [] := by
  have h := vlt_back hr (l := l) (r := rd0 (.of (putV x ++ l))) (at_rd0 _)
  have c1 := toVault_C (.of (putV x ++ l))
  have hb := h.2.1.1
  rw [if_neg (by rw [hb]; decide)] at c1
  refine ⟨_, h.1, ?_⟩
  have e : usedF (.of (putV x ++ l)) (vltE (rd0 (.of (putV x ++ l)))) = (putV x).length := by
    have hl := putV_len x
    have hs := right_sec hr
    unfold usedF
    rw [h.2.1.2, row_l_of, List.length_append, wrap_id _ (by omega) (by omega)]; omega
  rwa [e] at c1
set_option maxHeartbeats 4000000 in
theorem known6_C : C Try.prog 45 [] [] (vb true) [] := by
  refine C_of mixed Try.func45 A_clavigerlaw6_known_ok A_clavigerlaw6_known_res _ A_clavigerlaw6_known_nt ?_
  have c1 := vaultO_C v6 v6_right
  obtain ⟨v, hv, c2⟩ := toVaultB_C v6_right [by8 9]
  have c3 := toReply_C .nil
  rw [if_neg (by decide)] at c3
  have c4 := rsame_C v v6
  rw [decide_eq_true hv] at c4
  have c5 := rightV_C v6
  rw [decide_eq_true v6_right] at c5
  have c6 := rightV_C Vlt.zero
  rw [decide_eq_false (by decide)] at c6
  have hl := putV_len v6
  have hs : Sm (putV v6) 1 := by simp only [Sm, hl]; decide
  generalize putV v6 = P at *
  unfold v6 at c1 c4 c5
  (repeat' (first | simp (maxSteps := 2000000) -implicitDefEqProofs only [A_clavigerlaw6_known, hs, Int.reduceBNe, Int.reduceBEq, len_lst, cells_lst, rk_ext, fk_ext, sm_c, sm_a, numI_len, lr_api, lr_keep, lr, lr2, oO, oN, oG, oNG, oM, oF, oL, rg, ci, Nat.reduceEqDiff, Nat.reduceAdd, Nat.reduceSub, Int.reduceTDiv, Int.reduceTMod, ge_iff_le, Int.reduceGE, Nat.reducePow, Int.reduceEq, Int.reduceNeg, Int.reduceLE, Int.reducePow, Int.reduceLT, Int.reduceSub, Int.reduceAdd, Int.reduceMul, Int.reduceToNat, Option.map_some, ↓reduceIte, ite_not, beq_iff_eq, bne_iff_ne, ne_eq, beq_self_eq_true, beq_eq_false_iff_ne, bne_eq_false_iff_eq, resAll, resL, resV, reduceCtorEq, Option.some.injEq, exists_eq_left', blkAt, Nat.reduceLeDiff, Nat.reduceMul, eq_self, Nat.reduceLT, undef, fillV, evParts, footOp, wrOp, chk, disj, Nat.reduceBEq] | split | ((first | apply ck_call | apply cfk_call); (first | (apply call_inT (c1); (simp [ids_nil, ids_cons, ids_sc, ids_agg, ids_dg, ids_bs, ids_row, ids_ints, ids_sref, ids_ref, ids_sl, gVlt_ids, cVlt_ids, blkAt] <;> fail); (repeat' (first | exact args_n | apply args_c | (first | (first | exact arg_closed _ cl | (refine arg_rowA rfl mem ?_; (first | rfl | omega | (simp [bn_len] <;> fail) | (simp [bn_len]; omega))) | (refine arg_row rfl mem ?_; (first | rfl | omega | (simp [bn_len] <;> fail) | (simp [bn_len]; omega))) | (refine arg_fld mem ?_ ?_; (first | rfl | omega | (simp [bn_len] <;> fail) | (simp [bn_len]; omega)); (simp only [Int.reduceBNe, Int.reduceBEq, len_lst, cells_lst, rk_ext, fk_ext, sm_c, sm_a, numI_len, lr_api, lr_keep, blkAt, List.getD_cons_zero, List.getD_cons_succ, Option.bind_some, rd_sE] <;> fail))) | (refine arg_agg (argG_Vlt_secret _ ?_); (first | exact arg_closed _ cl | (refine arg_rowA rfl mem ?_; (first | rfl | omega | (simp [bn_len] <;> fail) | (simp [bn_len]; omega))) | (refine arg_row rfl mem ?_; (first | rfl | omega | (simp [bn_len] <;> fail) | (simp [bn_len]; omega))) | (refine arg_fld mem ?_ ?_; (first | rfl | omega | (simp [bn_len] <;> fail) | (simp [bn_len]; omega)); (simp only [Int.reduceBNe, Int.reduceBEq, len_lst, cells_lst, rk_ext, fk_ext, sm_c, sm_a, numI_len, lr_api, lr_keep, blkAt, List.getD_cons_zero, List.getD_cons_succ, Option.bind_some, rd_sE] <;> fail)))) | fail))); (first | exact cl | exact cll); (first | exact nr | exact nrl); (first | exact cl | exact cll); (first | exact nr | exact nrl)) | (apply call_give (c2); (case hg => ((first | (apply give_rowA; (first | rfl | omega | (simp [bn_len] <;> fail) | (simp [bn_len]; omega) | fail)) | (apply give_row; (first | rfl | omega | (simp [bn_len] <;> fail) | (simp [bn_len]; omega) | fail)) | (apply give_c; (first | exact cl | exact cll)) | fail); exact give_n)); (first | exact cl | exact cll); rfl; (first | exact cl | exact cll); (simp [ids_nil, ids_cons, ids_sc, ids_agg, ids_dg, ids_bs, ids_row, ids_ints, ids_sref, ids_ref, ids_sl, gVlt_ids, cVlt_ids] <;> fail)) | (apply call_pure (c3) cll cl) | (apply call_roA (c4); (simp [ids_nil, ids_cons, ids_sc, ids_agg, ids_dg, ids_bs, ids_row, ids_ints, ids_sref, ids_ref, ids_sl, gVlt_ids, cVlt_ids, blkAt] <;> fail); (repeat' (first | exact args_n | apply args_c | (first | (first | exact arg_closed _ cl | (refine arg_rowA rfl mem ?_; (first | rfl | omega | (simp [bn_len] <;> fail) | (simp [bn_len]; omega))) | (refine arg_row rfl mem ?_; (first | rfl | omega | (simp [bn_len] <;> fail) | (simp [bn_len]; omega))) | (refine arg_fld mem ?_ ?_; (first | rfl | omega | (simp [bn_len] <;> fail) | (simp [bn_len]; omega)); (simp only [Int.reduceBNe, Int.reduceBEq, len_lst, cells_lst, rk_ext, fk_ext, sm_c, sm_a, numI_len, lr_api, lr_keep, blkAt, List.getD_cons_zero, List.getD_cons_succ, Option.bind_some, rd_sE] <;> fail))) | (refine arg_agg (argG_Vlt_secret _ ?_); (first | exact arg_closed _ cl | (refine arg_rowA rfl mem ?_; (first | rfl | omega | (simp [bn_len] <;> fail) | (simp [bn_len]; omega))) | (refine arg_row rfl mem ?_; (first | rfl | omega | (simp [bn_len] <;> fail) | (simp [bn_len]; omega))) | (refine arg_fld mem ?_ ?_; (first | rfl | omega | (simp [bn_len] <;> fail) | (simp [bn_len]; omega)); (simp only [Int.reduceBNe, Int.reduceBEq, len_lst, cells_lst, rk_ext, fk_ext, sm_c, sm_a, numI_len, lr_api, lr_keep, blkAt, List.getD_cons_zero, List.getD_cons_succ, Option.bind_some, rd_sE] <;> fail)))) | fail))); (first | exact cl | exact cll); (first | exact nr | exact nrl)) | (apply call_roA (c5); (simp [ids_nil, ids_cons, ids_sc, ids_agg, ids_dg, ids_bs, ids_row, ids_ints, ids_sref, ids_ref, ids_sl, gVlt_ids, cVlt_ids, blkAt] <;> fail); (repeat' (first | exact args_n | apply args_c | (first | (first | exact arg_closed _ cl | (refine arg_rowA rfl mem ?_; (first | rfl | omega | (simp [bn_len] <;> fail) | (simp [bn_len]; omega))) | (refine arg_row rfl mem ?_; (first | rfl | omega | (simp [bn_len] <;> fail) | (simp [bn_len]; omega))) | (refine arg_fld mem ?_ ?_; (first | rfl | omega | (simp [bn_len] <;> fail) | (simp [bn_len]; omega)); (simp only [Int.reduceBNe, Int.reduceBEq, len_lst, cells_lst, rk_ext, fk_ext, sm_c, sm_a, numI_len, lr_api, lr_keep, blkAt, List.getD_cons_zero, List.getD_cons_succ, Option.bind_some, rd_sE] <;> fail))) | (refine arg_agg (argG_Vlt_secret _ ?_); (first | exact arg_closed _ cl | (refine arg_rowA rfl mem ?_; (first | rfl | omega | (simp [bn_len] <;> fail) | (simp [bn_len]; omega))) | (refine arg_row rfl mem ?_; (first | rfl | omega | (simp [bn_len] <;> fail) | (simp [bn_len]; omega))) | (refine arg_fld mem ?_ ?_; (first | rfl | omega | (simp [bn_len] <;> fail) | (simp [bn_len]; omega)); (simp only [Int.reduceBNe, Int.reduceBEq, len_lst, cells_lst, rk_ext, fk_ext, sm_c, sm_a, numI_len, lr_api, lr_keep, blkAt, List.getD_cons_zero, List.getD_cons_succ, Option.bind_some, rd_sE] <;> fail)))) | fail))); (first | exact cl | exact cll); (first | exact nr | exact nrl)) | (apply call_pure (c6) cll cl)))))
  all_goals (refine out_eq ?_ (cl); first | rfl | (simp_all []; done) | (simp_all []; intros; omega) | (simp []; (repeat' split) <;> first | rfl | omega | (simp_all; done) | (simp_all; intros; omega)))
end Go.Proofs.Ytmmaenfjnkoknaa.VA
