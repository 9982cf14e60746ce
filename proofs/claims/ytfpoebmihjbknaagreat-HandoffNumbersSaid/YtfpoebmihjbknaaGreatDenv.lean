/- Letters are opened: the program's and the document's. -/
import Derived.Test.YtfpoebmihjbknaaGreatCenv
import Derived.Test.YtfpoebmihjbknaaGreatVC
set_option linter.unusedVariables false
set_option linter.unusedSimpArgs false
set_option maxRecDepth 100000
namespace Go.Proofs.YtfpoebmihjbknaaGreat.VA
open Go
attribute [local irreducible] WK NK XK TK RK FK CK CFK CallRel C
def lkey (k : Bn 16) (b : List UInt8) : Bn 16 := innerF k (numB (b.take 8))
def lfits (k : Bn 16) (to : UInt8) (b : List UInt8) : Prop := fits (lkey k b) (numB (b.take 8)) [to] (b.drop 8)
theorem cut8 (b : Row) (h : 8 ≤ b.l.length) : (b.cut 8 b.l.length).l = b.l.drop 8 := by
  rw [cut_l, List.take_of_length_le (by rw [List.length_drop]; omega)]
theorem openShort_C (k : Bn 16) (to : UInt8) (b : Row) (h : b.l.length < 16) : C Tryz.prog 49 [.agg (dg k), vi .u8 (to.toNat : Int), rowV b] [] (.tup [vnil, vi .i64 12]) [] := by
  refine C_of mixed Tryz.func49 A_envelope_Open_ok A_envelope_Open_res _ A_envelope_Open_nt ?_
  have c1 : (b.l.length : Int) < 16 := by omega
  (repeat' (first | simp (maxSteps := 2000000) -implicitDefEqProofs only [A_envelope_Open, c1, lr, lr2, oO, oN, oG, oNG, oM, oF, oL, rg, ci, seval, resAll, resL, resV, blkAt, undef, fillV, evParts, footOp, wrOp, chk, disj] | split))
  all_goals (refine out_eq ?_ (cl); first | rfl | (simp_all []; done) | (simp_all []; intros; omega) | (simp []; (repeat' split) <;> first | rfl | omega | (simp_all; done) | (simp_all; intros; omega)))
theorem openLong_C (k : Bn 16) (to : UInt8) (b : Row) (h : 8192 < b.l.length) : C Tryz.prog 49 [.agg (dg k), vi .u8 (to.toNat : Int), rowV b] [] (.tup [vnil, vi .i64 3]) [] := by
  refine C_of mixed Tryz.func49 A_envelope_Open_ok A_envelope_Open_res _ A_envelope_Open_nt ?_
  have c1 : ¬ (b.l.length : Int) < 16 := by omega
  have c2 : (b.l.length : Int) > 8192 := by omega
  (repeat' (first | simp (maxSteps := 2000000) -implicitDefEqProofs only [A_envelope_Open, c1, c2, lr, lr2, oO, oN, oG, oNG, oM, oF, oL, rg, ci, seval, resAll, resL, resV, blkAt, undef, fillV, evParts, footOp, wrOp, chk, disj] | split))
  all_goals (refine out_eq ?_ (cl); first | rfl | (simp_all []; done) | (simp_all []; intros; omega) | (simp []; (repeat' split) <;> first | rfl | omega | (simp_all; done) | (simp_all; intros; omega)))
theorem openBad_C (k : Bn 16) (to : UInt8) (b : Row) (h1 : 16 ≤ b.l.length) (h2 : b.l.length ≤ 8192) (h : ¬ lfits k to b.l) : C Tryz.prog 49 [.agg (dg k), vi .u8 (to.toNat : Int), rowV b] [] (.tup [vnil, vi .i64 30]) [] := by
  refine C_of mixed Tryz.func49 A_envelope_Open_ok A_envelope_Open_res _ A_envelope_Open_nt ?_
  have c1 : ¬ (b.l.length : Int) < 16 := by omega
  have c2 : ¬ (b.l.length : Int) > 8192 := by omega
  have c3 : (8 : Int) ≤ b.l.length := by omega
  have e8 := cut8 b (by omega)
  have oc := openE_C (lkey k b.l) (numB (b.l.take 8)) (.of [to]) (b.cut 8 b.l.length) (by rw [e8]; exact h)
  (repeat' (first | simp (maxSteps := 2000000) -implicitDefEqProofs only [A_envelope_Open, c1, c2, c3, by8_nat, lr, lr2, oO, oN, oG, oNG, oM, oF, oL, rg, ci, seval, resAll, resL, resV, blkAt, undef, fillV, evParts, footOp, wrOp, chk, disj] | split | ((first | apply ck_call | apply cfk_call); (first | (apply call_pure (seed_C b (by omega)) cll cl) | (apply call_pure (inner_C k (numB (b.l.take 8))) cll cl) | (apply call_roA (oc); (simp [ids_nil, ids_cons, ids_sc, ids_agg, ids_dg, ids_bs, ids_row, ids_ints, ids_sref, ids_ref, ids_sl, blkAt] <;> fail); (repeat' (first | exact args_n | apply args_c | (first | exact arg_closed _ cl | (refine arg_rowA rfl mem ?_; (first | rfl | omega | (simp [bn_len] <;> fail) | (simp [bn_len]; omega))) | (refine arg_row rfl mem ?_; (first | rfl | omega | (simp [bn_len] <;> fail) | (simp [bn_len]; omega))) | (refine arg_fld mem ?_ ?_; (first | rfl | omega | (simp [bn_len] <;> fail) | (simp [bn_len]; omega)); (simp only [blkAt, List.getD_cons_zero, List.getD_cons_succ, Option.bind_some, rd_sE] <;> fail))))); (first | exact cl | exact cll); (first | exact nr | exact nrl))))))
  all_goals (refine out_eq ?_ (cl); first | rfl | (simp_all []; done) | (simp_all []; intros; omega) | (simp []; (repeat' split) <;> first | rfl | omega | (simp_all; done) | (simp_all; intros; omega)))
theorem openGood_C (k : Bn 16) (to : UInt8) (b : Row) (h1 : 16 ≤ b.l.length) (h2 : b.l.length ≤ 8192) (h : lfits k to b.l) : C Tryz.prog 49 [.agg (dg k), vi .u8 (to.toNat : Int), rowV b] [] (.tup [rowV (openV (lkey k b.l) (numB (b.l.take 8)) (b.l.drop 8)), vi .i64 0]) [] := by
  have e8 := cut8 b (by omega)
  have l8 : (b.l.drop 8).length = b.l.length - 8 := by rw [List.length_drop]
  have c1 : ¬ (b.l.length : Int) < 16 := by omega
  have c2 : ¬ (b.l.length : Int) > 8192 := by omega
  have c3 : (8 : Int) ≤ b.l.length := by omega
  by_cases h16 : (b.l.drop 8).length = 8
  · rw [openV, if_pos h16]
    refine C_of mixed Tryz.func49 A_envelope_Open_ok A_envelope_Open_res _ A_envelope_Open_nt ?_
    have oc := open8_C (lkey k b.l) (numB (b.l.take 8)) (.of [to]) (b.cut 8 b.l.length) (by rw [e8]; exact h16) (by rw [e8]; exact h)
    (repeat' (first | simp (maxSteps := 2000000) -implicitDefEqProofs only [A_envelope_Open, c1, c2, c3, by8_nat, lr, lr2, oO, oN, oG, oNG, oM, oF, oL, rg, ci, seval, resAll, resL, resV, blkAt, undef, fillV, evParts, footOp, wrOp, chk, disj] | split | ((first | apply ck_call | apply cfk_call); (first | (apply call_pure (seed_C b (by omega)) cll cl) | (apply call_pure (inner_C k (numB (b.l.take 8))) cll cl) | (apply call_roA (oc); (simp [ids_nil, ids_cons, ids_sc, ids_agg, ids_dg, ids_bs, ids_row, ids_ints, ids_sref, ids_ref, ids_sl, blkAt] <;> fail); (repeat' (first | exact args_n | apply args_c | (first | exact arg_closed _ cl | (refine arg_rowA rfl mem ?_; (first | rfl | omega | (simp [bn_len] <;> fail) | (simp [bn_len]; omega))) | (refine arg_row rfl mem ?_; (first | rfl | omega | (simp [bn_len] <;> fail) | (simp [bn_len]; omega))) | (refine arg_fld mem ?_ ?_; (first | rfl | omega | (simp [bn_len] <;> fail) | (simp [bn_len]; omega)); (simp only [blkAt, List.getD_cons_zero, List.getD_cons_succ, Option.bind_some, rd_sE] <;> fail))))); (first | exact cl | exact cll); (first | exact nr | exact nrl))))))
    all_goals (refine out_eq ?_ (cl); first | rfl | (simp_all []; done) | (simp_all []; intros; omega) | (simp []; (repeat' split) <;> first | rfl | omega | (simp_all; done) | (simp_all; intros; omega)))
  · rw [openV, if_neg h16]
    have tl := text_len (lkey k b.l) (numB (b.l.take 8)) (b.l.drop 8) (by omega)
    refine C_shutT (n := (b.l.drop 8).length - 8) ?_ tl.symm trivial
    refine C_of mixed Tryz.func49 A_envelope_Open_ok A_envelope_Open_res _ A_envelope_Open_nt ?_
    have oc := open_C (lkey k b.l) (numB (b.l.take 8)) (.of [to]) (b.cut 8 b.l.length) (by rw [e8]; omega) (by rw [e8]; exact h)
    rw [e8] at oc
    (repeat' (first | simp (maxSteps := 2000000) -implicitDefEqProofs only [A_envelope_Open, c1, c2, c3, by8_nat, lr, lr2, oO, oN, oG, oNG, oM, oF, oL, rg, ci, seval, resAll, resL, resV, blkAt, undef, fillV, evParts, footOp, wrOp, chk, disj] | split | ((first | apply ck_call | apply cfk_call); (first | (apply call_pure (seed_C b (by omega)) cll cl) | (apply call_pure (inner_C k (numB (b.l.take 8))) cll cl) | (apply call_inT (oc); (simp [ids_nil, ids_cons, ids_sc, ids_agg, ids_dg, ids_bs, ids_row, ids_ints, ids_sref, ids_ref, ids_sl, blkAt] <;> fail); (repeat' (first | exact args_n | apply args_c | (first | exact arg_closed _ cl | (refine arg_rowA rfl mem ?_; (first | rfl | omega | (simp [bn_len] <;> fail) | (simp [bn_len]; omega))) | (refine arg_row rfl mem ?_; (first | rfl | omega | (simp [bn_len] <;> fail) | (simp [bn_len]; omega))) | (refine arg_fld mem ?_ ?_; (first | rfl | omega | (simp [bn_len] <;> fail) | (simp [bn_len]; omega)); (simp only [blkAt, List.getD_cons_zero, List.getD_cons_succ, Option.bind_some, rd_sE] <;> fail))))); (first | exact cl | exact cll); (first | exact nr | exact nrl); (first | exact cl | exact cll); (first | exact nr | exact nrl))))))
    exact out_rowT rfl trivial (bs_closed _)
theorem uncShort_C (k : Bn 16) (to : UInt8) (b : Row) (h : b.l.length < 16) : C Tryz.prog 20 [.agg (dg k), vi .u8 (to.toNat : Int), rowV b] [] (.tup [vnil, vi .i64 12]) [] := by
  refine C_of mixed Tryz.func20 A_clavigerref4_Unclose_ok A_clavigerref4_Unclose_res _ A_clavigerref4_Unclose_nt ?_
  have c1 : (b.l.length : Int) < 16 := by omega
  (repeat' (first | simp (maxSteps := 2000000) -implicitDefEqProofs only [A_clavigerref4_Unclose, c1, lr, lr2, oO, oN, oG, oNG, oM, oF, oL, rg, ci, seval, resAll, resL, resV, blkAt, undef, fillV, evParts, footOp, wrOp, chk, disj] | split))
  all_goals (refine out_eq ?_ (cl); first | rfl | (simp_all []; done) | (simp_all []; intros; omega) | (simp []; (repeat' split) <;> first | rfl | omega | (simp_all; done) | (simp_all; intros; omega)))
theorem uncLong_C (k : Bn 16) (to : UInt8) (b : Row) (h : 8192 < b.l.length) : C Tryz.prog 20 [.agg (dg k), vi .u8 (to.toNat : Int), rowV b] [] (.tup [vnil, vi .i64 3]) [] := by
  refine C_of mixed Tryz.func20 A_clavigerref4_Unclose_ok A_clavigerref4_Unclose_res _ A_clavigerref4_Unclose_nt ?_
  have c1 : ¬ (b.l.length : Int) < 16 := by omega
  have c2 : (b.l.length : Int) > 8192 := by omega
  (repeat' (first | simp (maxSteps := 2000000) -implicitDefEqProofs only [A_clavigerref4_Unclose, c1, c2, lr, lr2, oO, oN, oG, oNG, oM, oF, oL, rg, ci, seval, resAll, resL, resV, blkAt, undef, fillV, evParts, footOp, wrOp, chk, disj] | split))
  all_goals (refine out_eq ?_ (cl); first | rfl | (simp_all []; done) | (simp_all []; intros; omega) | (simp []; (repeat' split) <;> first | rfl | omega | (simp_all; done) | (simp_all; intros; omega)))
theorem uncBad_C (k : Bn 16) (to : UInt8) (b : Row) (h1 : 16 ≤ b.l.length) (h2 : b.l.length ≤ 8192) (h : ¬ lfits k to b.l) : C Tryz.prog 20 [.agg (dg k), vi .u8 (to.toNat : Int), rowV b] [] (.tup [vnil, vi .i64 30]) [] := by
  refine C_of mixed Tryz.func20 A_clavigerref4_Unclose_ok A_clavigerref4_Unclose_res _ A_clavigerref4_Unclose_nt ?_
  have c1 : ¬ (b.l.length : Int) < 16 := by omega
  have c2 : ¬ (b.l.length : Int) > 8192 := by omega
  have c3 : (8 : Int) ≤ b.l.length := by omega
  have e8 := cut8 b (by omega)
  have n8 := numB8 b.l
  have oc := ropenE_C (lkey k b.l) (numB (b.l.take 8)) n8 (.of [to]) (b.cut 8 b.l.length) (by rw [e8]; exact h)
  (repeat' (first | simp (maxSteps := 2000000) -implicitDefEqProofs only [A_clavigerref4_Unclose, c1, c2, c3, by8_nat, lr, lr2, oO, oN, oG, oNG, oM, oF, oL, rg, ci, seval, resAll, resL, resV, blkAt, undef, fillV, evParts, footOp, wrOp, chk, disj] | split | ((first | apply ck_call | apply cfk_call); (first | (apply call_pure (rseed_C b (by omega)) cll cl) | (apply call_pure (rinner_C k (numB (b.l.take 8)) n8) cll cl) | (apply call_roA (oc); (simp [ids_nil, ids_cons, ids_sc, ids_agg, ids_dg, ids_bs, ids_row, ids_ints, ids_sref, ids_ref, ids_sl, blkAt] <;> fail); (repeat' (first | exact args_n | apply args_c | (first | exact arg_closed _ cl | (refine arg_rowA rfl mem ?_; (first | rfl | omega | (simp [bn_len] <;> fail) | (simp [bn_len]; omega))) | (refine arg_row rfl mem ?_; (first | rfl | omega | (simp [bn_len] <;> fail) | (simp [bn_len]; omega))) | (refine arg_fld mem ?_ ?_; (first | rfl | omega | (simp [bn_len] <;> fail) | (simp [bn_len]; omega)); (simp only [blkAt, List.getD_cons_zero, List.getD_cons_succ, Option.bind_some, rd_sE] <;> fail))))); (first | exact cl | exact cll); (first | exact nr | exact nrl))))))
  all_goals (refine out_eq ?_ (cl); first | rfl | (simp_all []; done) | (simp_all []; intros; omega) | (simp []; (repeat' split) <;> first | rfl | omega | (simp_all; done) | (simp_all; intros; omega)))
theorem uncGood_C (k : Bn 16) (to : UInt8) (b : Row) (h1 : 16 ≤ b.l.length) (h2 : b.l.length ≤ 8192) (h : lfits k to b.l) : C Tryz.prog 20 [.agg (dg k), vi .u8 (to.toNat : Int), rowV b] [] (.tup [rowV (.of (textF (lkey k b.l) (numB (b.l.take 8)) (b.l.drop 8))), vi .i64 0]) [] := by
  have e8 := cut8 b (by omega)
  have l8 : (b.l.drop 8).length = b.l.length - 8 := by rw [List.length_drop]
  have c1 : ¬ (b.l.length : Int) < 16 := by omega
  have c2 : ¬ (b.l.length : Int) > 8192 := by omega
  have c3 : (8 : Int) ≤ b.l.length := by omega
  have n8 := numB8 b.l
  have tl := text_len (lkey k b.l) (numB (b.l.take 8)) (b.l.drop 8) (by omega)
  refine C_shutT (n := (b.l.drop 8).length - 8) ?_ tl.symm trivial
  refine C_of mixed Tryz.func20 A_clavigerref4_Unclose_ok A_clavigerref4_Unclose_res _ A_clavigerref4_Unclose_nt ?_
  have oc := ropen_C (lkey k b.l) (numB (b.l.take 8)) n8 (.of [to]) (b.cut 8 b.l.length) (by rw [e8]; exact h)
  rw [e8] at oc
  (repeat' (first | simp (maxSteps := 2000000) -implicitDefEqProofs only [A_clavigerref4_Unclose, c1, c2, c3, by8_nat, lr, lr2, oO, oN, oG, oNG, oM, oF, oL, rg, ci, seval, resAll, resL, resV, blkAt, undef, fillV, evParts, footOp, wrOp, chk, disj] | split | ((first | apply ck_call | apply cfk_call); (first | (apply call_pure (rseed_C b (by omega)) cll cl) | (apply call_pure (rinner_C k (numB (b.l.take 8)) n8) cll cl) | (apply call_inT (oc); (simp [ids_nil, ids_cons, ids_sc, ids_agg, ids_dg, ids_bs, ids_row, ids_ints, ids_sref, ids_ref, ids_sl, blkAt] <;> fail); (repeat' (first | exact args_n | apply args_c | (first | exact arg_closed _ cl | (refine arg_rowA rfl mem ?_; (first | rfl | omega | (simp [bn_len] <;> fail) | (simp [bn_len]; omega))) | (refine arg_row rfl mem ?_; (first | rfl | omega | (simp [bn_len] <;> fail) | (simp [bn_len]; omega))) | (refine arg_fld mem ?_ ?_; (first | rfl | omega | (simp [bn_len] <;> fail) | (simp [bn_len]; omega)); (simp only [blkAt, List.getD_cons_zero, List.getD_cons_succ, Option.bind_some, rd_sE] <;> fail))))); (first | exact cl | exact cll); (first | exact nr | exact nrl); (first | exact cl | exact cll); (first | exact nr | exact nrl))))))
  exact out_rowT rfl trivial (bs_closed _)
end Go.Proofs.YtfpoebmihjbknaaGreat.VA
