/- Frames are sealed, opened, chained: the program's and the document's. -/
import Derived.Test.YtmmaenfjnkoknaaGreatLframe
import Derived.Test.YtmmaenfjnkoknaaGreatPV
import Derived.Test.YtmmaenfjnkoknaaGreatPR
import Derived.Test.YtmmaenfjnkoknaaGreatVC
set_option linter.unusedVariables false
set_option linter.unusedSimpArgs false
set_option maxRecDepth 100000
namespace Go.Proofs.YtmmaenfjnkoknaaGreat.VA
open Go
attribute [local irreducible] WK NK XK TK RK FK CK CFK CallRel C
attribute [local irreducible] putR sealF textF fits recS RightR
def frameF (k : Bn 16) (n : Nat) (prev : Bn 16) (r : Rec) : List UInt8 := sealF k n prev.1 (putR r)
theorem putR_le {r : Rec} (h : RightR r) : (putR r).length ≤ 1000 := by
  have fl : RisingP r.vaults.l → (r.vaults.l.flatMap putV).length ≤ 112 * r.vaults.l.length := fun h => flat_le _ fun i hi => (h.2 i hi).1
  have hk := rightR_kind h
  unfold putR
  split
  · have hv : RightV r.vault := by
      unfold RightR at h
      rcases h with h | ⟨_, h | h | h⟩ <;> first | exact h.2.1 | omega
    have := right_sec hv
    simp only [List.length_append, putV_len, List.length_cons, List.length_nil]; omega
  · split
    · simp only [List.length_append, numI_len, List.length_cons, List.length_nil]; omega
    · split
      · have hr : RisingP r.vaults.l := by
          unfold RightR at h
          rcases h with h | ⟨_, h | h | h⟩ <;> first | exact h.2.2 | omega
        have := fl hr
        have := hr.1
        simp only [List.length_append, numI_len, List.length_cons, List.length_nil]; omega
      · simp only [List.length_append, numI_len, List.length_cons, List.length_nil]; omega
theorem frame_len {k : Bn 16} {n : Nat} {prev : Bn 16} {r : Rec} (h : RightR r) : (frameF k n prev r).length = (putR r).length + 8 := by
  have := putR_le h
  unfold frameF; rw [seal_len _ _ _ _ (by omega)]
theorem fseal_C (k : Bn 16) (n : Nat) (prev : Bn 16) (r : Rec) (h : RightR r) (he : 0 ≤ r.epoch) : C Tryz.prog 25 [.agg (dg k), vi .u64 n, .agg (dg prev), .agg (cRec r)] [] (.tup [rowV (.of (frameF k n prev r)), vi .i64 0]) [] := by
  refine C_shutT (n := (frameF k n prev r).length) ?_ rfl trivial
  refine C_of mixed Tryz.func25 A_frame_Seal_ok A_frame_Seal_res _ A_frame_Seal_nt ?_
  have hl := putR_le h
  have s1 := seal_C k n (.of prev.1) (.of (putR r)) (by rw [row_l_of, bn_len]; decide) (by rw [row_l_of]; omega)
  (repeat' (first | simp (maxSteps := 2000000) -implicitDefEqProofs only [A_frame_Seal, len_lst, cells_lst, rk_ext, fk_ext, lr_api, lr, lr2, oO, oN, oG, oNG, oM, oF, oL, rg, ci, seval, resAll, resL, resV, blkAt, undef, fillV, evParts, footOp, wrOp, chk, disj] | split | ((first | apply ck_call | apply cfk_call); (first | (apply call_pure (record_C r h he) cll cl) | (apply call_roA_new (s1); (simp [ids_nil, ids_cons, ids_sc, ids_agg, ids_dg, ids_bs, ids_row, ids_ints, ids_sref, ids_ref, ids_sl, blkAt] <;> fail); (repeat' (first | exact args_n | apply args_c | (first | exact arg_closed _ cl | (refine arg_rowA rfl mem ?_; (first | rfl | omega | (simp [bn_len] <;> fail) | (simp [bn_len]; omega))) | (refine arg_row rfl mem ?_; (first | rfl | omega | (simp [bn_len] <;> fail) | (simp [bn_len]; omega))) | (refine arg_fld mem ?_ ?_; (first | rfl | omega | (simp [bn_len] <;> fail) | (simp [bn_len]; omega)); (simp only [len_lst, cells_lst, rk_ext, fk_ext, lr_api, blkAt, List.getD_cons_zero, List.getD_cons_succ, Option.bind_some, rd_sE] <;> fail))))); (first | exact cl | exact cll); (first | exact nr | exact nrl))))))
  exact out_rowT rfl trivial (bs_closed _)
theorem rframeO_C (k : Bn 16) (n : Nat) (hn : n < 18446744073709551616) (prev : Bn 16) (r : Rec) (h : RightR r) (he : 0 ≤ r.epoch) (he2 : r.epoch < 18446744073709551616) : C Tryz.prog 28 [.agg (dg k), vi .u64 n, .agg (dg prev), .agg (cRec r)] [] (.sref 0 0 (frameF k n prev r).length 1) [some (bs (frameF k n prev r))] := by
  refine C_of mixed Tryz.func28 A_clavigerref10_Frame_ok A_clavigerref10_Frame_res _ A_clavigerref10_Frame_nt ?_
  have hl := putR_le h
  have s1 := rseal_C k n hn (.of prev.1) (.of (putR r)) (by rw [row_l_of, bn_len]; decide) (by rw [row_l_of]; omega)
  (repeat' (first | simp (maxSteps := 2000000) -implicitDefEqProofs only [A_clavigerref10_Frame, len_lst, cells_lst, rk_ext, fk_ext, lr_api, lr, lr2, oO, oN, oG, oNG, oM, oF, oL, rg, ci, seval, resAll, resL, resV, blkAt, undef, fillV, evParts, footOp, wrOp, chk, disj] | split | ((first | apply ck_call | apply cfk_call); (first | (apply call_pure (rputR_C r h he he2) cll cl) | (apply call_roA_new (s1); (simp [ids_nil, ids_cons, ids_sc, ids_agg, ids_dg, ids_bs, ids_row, ids_ints, ids_sref, ids_ref, ids_sl, blkAt] <;> fail); (repeat' (first | exact args_n | apply args_c | (first | exact arg_closed _ cl | (refine arg_rowA rfl mem ?_; (first | rfl | omega | (simp [bn_len] <;> fail) | (simp [bn_len]; omega))) | (refine arg_row rfl mem ?_; (first | rfl | omega | (simp [bn_len] <;> fail) | (simp [bn_len]; omega))) | (refine arg_fld mem ?_ ?_; (first | rfl | omega | (simp [bn_len] <;> fail) | (simp [bn_len]; omega)); (simp only [len_lst, cells_lst, rk_ext, fk_ext, lr_api, blkAt, List.getD_cons_zero, List.getD_cons_succ, Option.bind_some, rd_sE] <;> fail))))); (first | exact cl | exact cll); (first | exact nr | exact nrl))))))
  exact out_row rfl (bs_closed _)
theorem rframe_C (k : Bn 16) (n : Nat) (hn : n < 18446744073709551616) (prev : Bn 16) (r : Rec) (h : RightR r) (he : 0 ≤ r.epoch) (he2 : r.epoch < 18446744073709551616) : C Tryz.prog 28 [.agg (dg k), vi .u64 n, .agg (dg prev), .agg (cRec r)] [] (rowV (.of (frameF k n prev r))) [] := C_shut (rframeO_C k n hn prev r h he he2) rfl
theorem recOut_no {s : RecS} (h : ¬ R3 s) : recOut s = .tup [.agg (cRec Rec.zero), vi .i64 12] := if_neg h
theorem recOut_yes {s : RecS} (h : R3 s) : recOut s = .tup [.agg (cRec s.x), vi .i64 0] := if_pos h
def frec (k : Bn 16) (n : Nat) (b : List UInt8) : RecS := recS (rd0 (.of (textF k n b)))
def frecV (k : Bn 16) (n : Nat) (prev : Bn 16) (b : List UInt8) : Prop := fits k n prev.1 b ∧ R3 (frec k n b)
theorem recS_nil (b : Row) (h : b.l = []) : ¬ R3 (recS (rd0 b)) := by
  intro h3
  have e : (dropS 1 (rd0 b)).bad = true := by
    unfold dropS
    rw [if_pos (by show b.l.length < 1; rw [h]; decide)]
  have o : oneV (rd0 b) = 0 := by
    unfold oneV takeL
    have : (rd0 b).b.l = [] := h
    rw [this]; rfl
  have r : recS (rd0 b) = ⟨⟨0, 0, 0, 0, Vlt.zero, .nil⟩, dropS 1 (rd0 b)⟩ := by
    unfold recS
    rw [o, if_neg (by decide), if_neg (by decide), if_neg (by decide), if_neg (by decide)]
  rw [r] at h3
  have := h3.1.1
  simp only [e] at this
  cases this
theorem fopenT_C (k : Bn 16) (n : Nat) (prev : Bn 16) (b : Row) (h : frecV k n prev b.l) : C Tryz.prog 40 [.agg (dg k), vi .u64 n, .agg (dg prev), rowV b] [] (.tup [.agg (cRec (frec k n b.l).x), vi .i64 0]) [] := by
  obtain ⟨hf, h3⟩ := h
  have hf' := hf
  unfold fits at hf'
  have c2 := toRecord_C (.of (textF k n b.l))
  change C _ _ _ _ (recOut (frec k n b.l)) _ at c2
  rw [recOut_yes h3] at c2
  have tl := text_len k n b.l hf'.2.1
  have h8 : 8 < b.l.length := by
    rcases Nat.lt_or_ge 8 b.l.length with h | h
    · exact h
    · exfalso
      have := text_8 k n b.l (by omega)
      exact recS_nil (.of (textF k n b.l)) this h3
  have c1 := open_C k n (.of prev.1) b h8 hf
  generalize textF k n b.l = T at *
  generalize frec k n b.l = x at *
  refine C_of mixed Tryz.func40 A_frame_Open_ok A_frame_Open_res _ A_frame_Open_nt ?_
  (repeat' (first | simp (maxSteps := 2000000) -implicitDefEqProofs only [A_frame_Open, tl, len_lst, cells_lst, rk_ext, fk_ext, lr_api, lr, lr2, oO, oN, oG, oNG, oM, oF, oL, rg, ci, seval, resAll, resL, resV, blkAt, undef, fillV, evParts, footOp, wrOp, chk, disj] | split | ((first | apply ck_call | apply cfk_call); (first | (apply call_inT (c1); (simp [ids_nil, ids_cons, ids_sc, ids_agg, ids_dg, ids_bs, ids_row, ids_ints, ids_sref, ids_ref, ids_sl, blkAt] <;> fail); (repeat' (first | exact args_n | apply args_c | (first | exact arg_closed _ cl | (refine arg_rowA rfl mem ?_; (first | rfl | omega | (simp [bn_len] <;> fail) | (simp [bn_len]; omega))) | (refine arg_row rfl mem ?_; (first | rfl | omega | (simp [bn_len] <;> fail) | (simp [bn_len]; omega))) | (refine arg_fld mem ?_ ?_; (first | rfl | omega | (simp [bn_len] <;> fail) | (simp [bn_len]; omega)); (simp only [len_lst, cells_lst, rk_ext, fk_ext, lr_api, blkAt, List.getD_cons_zero, List.getD_cons_succ, Option.bind_some, rd_sE] <;> fail))))); (first | exact cl | exact cll); (first | exact nr | exact nrl); (first | exact cl | exact cll); (first | exact nr | exact nrl)) | (apply call_give (c2); (case hg => ((first | (apply give_rowA; (first | rfl | omega | (simp [bn_len] <;> fail) | (simp [bn_len]; omega) | fail)) | (apply give_row; (first | rfl | omega | (simp [bn_len] <;> fail) | (simp [bn_len]; omega) | fail)) | (apply give_c; (first | exact cl | exact cll)) | fail); exact give_n)); (first | exact cl | exact cll); rfl; (first | exact cl | exact cll); (simp [ids_nil, ids_cons, ids_sc, ids_agg, ids_dg, ids_bs, ids_row, ids_ints, ids_sref, ids_ref, ids_sl] <;> fail))))))
  all_goals (refine out_eq rfl cl)
theorem fopenF_C (k : Bn 16) (n : Nat) (prev : Bn 16) (b : Row) (hf : fits k n prev.1 b.l) (h3 : ¬ R3 (frec k n b.l)) : C Tryz.prog 40 [.agg (dg k), vi .u64 n, .agg (dg prev), rowV b] [] (.tup [.agg (cRec Rec.zero), vi .i64 12]) [] := by
  have hf' := hf
  unfold fits at hf'
  have tl := text_len k n b.l hf'.2.1
  by_cases h8 : b.l.length = 8
  · have c1 := open8_C k n (.of prev.1) b h8 hf
    have c2 := toRecord_C .nil
    rw [recOut_no (recS_nil .nil rfl)] at c2
    refine C_of mixed Tryz.func40 A_frame_Open_ok A_frame_Open_res _ A_frame_Open_nt ?_
    (repeat' (first | simp (maxSteps := 2000000) -implicitDefEqProofs only [A_frame_Open, len_lst, cells_lst, rk_ext, fk_ext, lr_api, lr, lr2, oO, oN, oG, oNG, oM, oF, oL, rg, ci, seval, resAll, resL, resV, blkAt, undef, fillV, evParts, footOp, wrOp, chk, disj] | split | ((first | apply ck_call | apply cfk_call); (first | (apply call_roA (c1); (simp [ids_nil, ids_cons, ids_sc, ids_agg, ids_dg, ids_bs, ids_row, ids_ints, ids_sref, ids_ref, ids_sl, blkAt] <;> fail); (repeat' (first | exact args_n | apply args_c | (first | exact arg_closed _ cl | (refine arg_rowA rfl mem ?_; (first | rfl | omega | (simp [bn_len] <;> fail) | (simp [bn_len]; omega))) | (refine arg_row rfl mem ?_; (first | rfl | omega | (simp [bn_len] <;> fail) | (simp [bn_len]; omega))) | (refine arg_fld mem ?_ ?_; (first | rfl | omega | (simp [bn_len] <;> fail) | (simp [bn_len]; omega)); (simp only [len_lst, cells_lst, rk_ext, fk_ext, lr_api, blkAt, List.getD_cons_zero, List.getD_cons_succ, Option.bind_some, rd_sE] <;> fail))))); (first | exact cl | exact cll); (first | exact nr | exact nrl)) | (apply call_pure (c2) cll cl)))))
    all_goals (refine out_eq rfl cl)
  · have c1 := open_C k n (.of prev.1) b (by omega) hf
    have c2 := toRecord_C (.of (textF k n b.l))
    change C _ _ _ _ (recOut (frec k n b.l)) _ at c2
    rw [recOut_no h3] at c2
    generalize textF k n b.l = T at *
    refine C_of mixed Tryz.func40 A_frame_Open_ok A_frame_Open_res _ A_frame_Open_nt ?_
    (repeat' (first | simp (maxSteps := 2000000) -implicitDefEqProofs only [A_frame_Open, tl, len_lst, cells_lst, rk_ext, fk_ext, lr_api, lr, lr2, oO, oN, oG, oNG, oM, oF, oL, rg, ci, seval, resAll, resL, resV, blkAt, undef, fillV, evParts, footOp, wrOp, chk, disj] | split | ((first | apply ck_call | apply cfk_call); (first | (apply call_inT (c1); (simp [ids_nil, ids_cons, ids_sc, ids_agg, ids_dg, ids_bs, ids_row, ids_ints, ids_sref, ids_ref, ids_sl, blkAt] <;> fail); (repeat' (first | exact args_n | apply args_c | (first | exact arg_closed _ cl | (refine arg_rowA rfl mem ?_; (first | rfl | omega | (simp [bn_len] <;> fail) | (simp [bn_len]; omega))) | (refine arg_row rfl mem ?_; (first | rfl | omega | (simp [bn_len] <;> fail) | (simp [bn_len]; omega))) | (refine arg_fld mem ?_ ?_; (first | rfl | omega | (simp [bn_len] <;> fail) | (simp [bn_len]; omega)); (simp only [len_lst, cells_lst, rk_ext, fk_ext, lr_api, blkAt, List.getD_cons_zero, List.getD_cons_succ, Option.bind_some, rd_sE] <;> fail))))); (first | exact cl | exact cll); (first | exact nr | exact nrl); (first | exact cl | exact cll); (first | exact nr | exact nrl)) | (apply call_give (c2); (case hg => ((first | (apply give_rowA; (first | rfl | omega | (simp [bn_len] <;> fail) | (simp [bn_len]; omega) | fail)) | (apply give_row; (first | rfl | omega | (simp [bn_len] <;> fail) | (simp [bn_len]; omega) | fail)) | (apply give_c; (first | exact cl | exact cll)) | fail); exact give_n)); (first | exact cl | exact cll); rfl; (first | exact cl | exact cll); (simp [ids_nil, ids_cons, ids_sc, ids_agg, ids_dg, ids_bs, ids_row, ids_ints, ids_sref, ids_ref, ids_sl] <;> fail))))))
    all_goals (refine out_eq rfl cl)
theorem fopenE_C (k : Bn 16) (n : Nat) (prev : Bn 16) (b : Row) (h : ¬ fits k n prev.1 b.l) : C Tryz.prog 40 [.agg (dg k), vi .u64 n, .agg (dg prev), rowV b] [] (.tup [.agg (cRec Rec.zero), vi .i64 30]) [] := by
  have c1 := openE_C k n (.of prev.1) b h
  refine C_of mixed Tryz.func40 A_frame_Open_ok A_frame_Open_res _ A_frame_Open_nt ?_
  (repeat' (first | simp (maxSteps := 2000000) -implicitDefEqProofs only [A_frame_Open, len_lst, cells_lst, rk_ext, fk_ext, lr_api, lr, lr2, oO, oN, oG, oNG, oM, oF, oL, rg, ci, seval, resAll, resL, resV, blkAt, undef, fillV, evParts, footOp, wrOp, chk, disj] | split | ((first | apply ck_call | apply cfk_call); (first | (apply call_roA (c1); (simp [ids_nil, ids_cons, ids_sc, ids_agg, ids_dg, ids_bs, ids_row, ids_ints, ids_sref, ids_ref, ids_sl, blkAt] <;> fail); (repeat' (first | exact args_n | apply args_c | (first | exact arg_closed _ cl | (refine arg_rowA rfl mem ?_; (first | rfl | omega | (simp [bn_len] <;> fail) | (simp [bn_len]; omega))) | (refine arg_row rfl mem ?_; (first | rfl | omega | (simp [bn_len] <;> fail) | (simp [bn_len]; omega))) | (refine arg_fld mem ?_ ?_; (first | rfl | omega | (simp [bn_len] <;> fail) | (simp [bn_len]; omega)); (simp only [len_lst, cells_lst, rk_ext, fk_ext, lr_api, blkAt, List.getD_cons_zero, List.getD_cons_succ, Option.bind_some, rd_sE] <;> fail))))); (first | exact cl | exact cll); (first | exact nr | exact nrl))))))
  all_goals (refine out_eq rfl cl)
theorem rfopenT_C (k : Bn 16) (n : Nat) (hn : n < 18446744073709551616) (prev : Bn 16) (b : Row) (h : frecV k n prev b.l) : C Tryz.prog 46 [.agg (dg k), vi .u64 n, .agg (dg prev), rowV b] [] (.tup [.agg (cRec (frec k n b.l).x), vi .i64 0]) [] := by
  obtain ⟨hf, h3⟩ := h
  have hf' := hf
  unfold fits at hf'
  have c2 := rtoRecord_C (.of (textF k n b.l))
  change C _ _ _ _ (rrecOut (frec k n b.l)) _ at c2
  rw [rrecOut_yes h3] at c2
  have tl := text_len k n b.l hf'.2.1
  have c1 := ropen_C k n hn (.of prev.1) b hf
  generalize textF k n b.l = T at *
  generalize frec k n b.l = x at *
  refine C_of mixed Tryz.func46 A_clavigerref10_Open_ok A_clavigerref10_Open_res _ A_clavigerref10_Open_nt ?_
  (repeat' (first | simp (maxSteps := 2000000) -implicitDefEqProofs only [A_clavigerref10_Open, tl, len_lst, cells_lst, rk_ext, fk_ext, lr_api, lr, lr2, oO, oN, oG, oNG, oM, oF, oL, rg, ci, seval, resAll, resL, resV, blkAt, undef, fillV, evParts, footOp, wrOp, chk, disj] | split | ((first | apply ck_call | apply cfk_call); (first | (apply call_inT (c1); (simp [ids_nil, ids_cons, ids_sc, ids_agg, ids_dg, ids_bs, ids_row, ids_ints, ids_sref, ids_ref, ids_sl, blkAt] <;> fail); (repeat' (first | exact args_n | apply args_c | (first | exact arg_closed _ cl | (refine arg_rowA rfl mem ?_; (first | rfl | omega | (simp [bn_len] <;> fail) | (simp [bn_len]; omega))) | (refine arg_row rfl mem ?_; (first | rfl | omega | (simp [bn_len] <;> fail) | (simp [bn_len]; omega))) | (refine arg_fld mem ?_ ?_; (first | rfl | omega | (simp [bn_len] <;> fail) | (simp [bn_len]; omega)); (simp only [len_lst, cells_lst, rk_ext, fk_ext, lr_api, blkAt, List.getD_cons_zero, List.getD_cons_succ, Option.bind_some, rd_sE] <;> fail))))); (first | exact cl | exact cll); (first | exact nr | exact nrl); (first | exact cl | exact cll); (first | exact nr | exact nrl)) | (apply call_give (c2); (case hg => ((first | (apply give_rowA; (first | rfl | omega | (simp [bn_len] <;> fail) | (simp [bn_len]; omega) | fail)) | (apply give_row; (first | rfl | omega | (simp [bn_len] <;> fail) | (simp [bn_len]; omega) | fail)) | (apply give_c; (first | exact cl | exact cll)) | fail); exact give_n)); (first | exact cl | exact cll); rfl; (first | exact cl | exact cll); (simp [ids_nil, ids_cons, ids_sc, ids_agg, ids_dg, ids_bs, ids_row, ids_ints, ids_sref, ids_ref, ids_sl] <;> fail))))))
  all_goals (refine out_eq rfl cl)
theorem rfopenF_C (k : Bn 16) (n : Nat) (hn : n < 18446744073709551616) (prev : Bn 16) (b : Row) (hf : fits k n prev.1 b.l) (h3 : ¬ R3 (frec k n b.l)) : C Tryz.prog 46 [.agg (dg k), vi .u64 n, .agg (dg prev), rowV b] [] (.tup [.agg (cRec Rec.zero), vi .i64 12]) [] := by
  have hf' := hf
  unfold fits at hf'
  have c2 := rtoRecord_C (.of (textF k n b.l))
  change C _ _ _ _ (rrecOut (frec k n b.l)) _ at c2
  rw [rrecOut_no h3] at c2
  have tl := text_len k n b.l hf'.2.1
  have c1 := ropen_C k n hn (.of prev.1) b hf
  generalize textF k n b.l = T at *
  refine C_of mixed Tryz.func46 A_clavigerref10_Open_ok A_clavigerref10_Open_res _ A_clavigerref10_Open_nt ?_
  (repeat' (first | simp (maxSteps := 2000000) -implicitDefEqProofs only [A_clavigerref10_Open, tl, len_lst, cells_lst, rk_ext, fk_ext, lr_api, lr, lr2, oO, oN, oG, oNG, oM, oF, oL, rg, ci, seval, resAll, resL, resV, blkAt, undef, fillV, evParts, footOp, wrOp, chk, disj] | split | ((first | apply ck_call | apply cfk_call); (first | (apply call_inT (c1); (simp [ids_nil, ids_cons, ids_sc, ids_agg, ids_dg, ids_bs, ids_row, ids_ints, ids_sref, ids_ref, ids_sl, blkAt] <;> fail); (repeat' (first | exact args_n | apply args_c | (first | exact arg_closed _ cl | (refine arg_rowA rfl mem ?_; (first | rfl | omega | (simp [bn_len] <;> fail) | (simp [bn_len]; omega))) | (refine arg_row rfl mem ?_; (first | rfl | omega | (simp [bn_len] <;> fail) | (simp [bn_len]; omega))) | (refine arg_fld mem ?_ ?_; (first | rfl | omega | (simp [bn_len] <;> fail) | (simp [bn_len]; omega)); (simp only [len_lst, cells_lst, rk_ext, fk_ext, lr_api, blkAt, List.getD_cons_zero, List.getD_cons_succ, Option.bind_some, rd_sE] <;> fail))))); (first | exact cl | exact cll); (first | exact nr | exact nrl); (first | exact cl | exact cll); (first | exact nr | exact nrl)) | (apply call_give (c2); (case hg => ((first | (apply give_rowA; (first | rfl | omega | (simp [bn_len] <;> fail) | (simp [bn_len]; omega) | fail)) | (apply give_row; (first | rfl | omega | (simp [bn_len] <;> fail) | (simp [bn_len]; omega) | fail)) | (apply give_c; (first | exact cl | exact cll)) | fail); exact give_n)); (first | exact cl | exact cll); rfl; (first | exact cl | exact cll); (simp [ids_nil, ids_cons, ids_sc, ids_agg, ids_dg, ids_bs, ids_row, ids_ints, ids_sref, ids_ref, ids_sl] <;> fail))))))
  all_goals (refine out_eq rfl cl)
theorem rfopenE_C (k : Bn 16) (n : Nat) (hn : n < 18446744073709551616) (prev : Bn 16) (b : Row) (h : ¬ fits k n prev.1 b.l) : C Tryz.prog 46 [.agg (dg k), vi .u64 n, .agg (dg prev), rowV b] [] (.tup [.agg (cRec Rec.zero), vi .i64 30]) [] := by
  have c1 := ropenE_C k n hn (.of prev.1) b h
  refine C_of mixed Tryz.func46 A_clavigerref10_Open_ok A_clavigerref10_Open_res _ A_clavigerref10_Open_nt ?_
  (repeat' (first | simp (maxSteps := 2000000) -implicitDefEqProofs only [A_clavigerref10_Open, len_lst, cells_lst, rk_ext, fk_ext, lr_api, lr, lr2, oO, oN, oG, oNG, oM, oF, oL, rg, ci, seval, resAll, resL, resV, blkAt, undef, fillV, evParts, footOp, wrOp, chk, disj] | split | ((first | apply ck_call | apply cfk_call); (first | (apply call_roA (c1); (simp [ids_nil, ids_cons, ids_sc, ids_agg, ids_dg, ids_bs, ids_row, ids_ints, ids_sref, ids_ref, ids_sl, blkAt] <;> fail); (repeat' (first | exact args_n | apply args_c | (first | exact arg_closed _ cl | (refine arg_rowA rfl mem ?_; (first | rfl | omega | (simp [bn_len] <;> fail) | (simp [bn_len]; omega))) | (refine arg_row rfl mem ?_; (first | rfl | omega | (simp [bn_len] <;> fail) | (simp [bn_len]; omega))) | (refine arg_fld mem ?_ ?_; (first | rfl | omega | (simp [bn_len] <;> fail) | (simp [bn_len]; omega)); (simp only [len_lst, cells_lst, rk_ext, fk_ext, lr_api, blkAt, List.getD_cons_zero, List.getD_cons_succ, Option.bind_some, rd_sE] <;> fail))))); (first | exact cl | exact cll); (first | exact nr | exact nrl))))))
  all_goals (refine out_eq rfl cl)
def headF (prev : Bn 16) (b : List UInt8) : Bn 16 := twoF prev (sumF b)
theorem fhead_C (prev : Bn 16) (b : Row) (h : b.l.length ≤ 70368744177664) : C Tryz.prog 30 [.agg (dg prev), rowV b] [] (.agg (dg (headF prev b.l))) [] := by
  refine C_of mixed Tryz.func30 A_frame_Head_ok A_frame_Head_res _ A_frame_Head_nt ?_
  (repeat' (first | simp (maxSteps := 2000000) -implicitDefEqProofs only [A_frame_Head, len_lst, cells_lst, rk_ext, fk_ext, lr_api, lr, lr2, oO, oN, oG, oNG, oM, oF, oL, rg, ci, seval, resAll, resL, resV, blkAt, undef, fillV, evParts, footOp, wrOp, chk, disj] | split | ((first | apply ck_call | apply cfk_call); (first | (apply call_pure (sum_C b h) cll cl) | (apply call_pure (two_C prev (sumF b.l)) cll cl)))))
  all_goals (refine out_eq rfl cl)
theorem rfhead_C (prev : Bn 16) (b : Row) (h : b.l.length ≤ 70368744177664) : C Tryz.prog 47 [.agg (dg prev), rowV b] [] (.agg (dg (headF prev b.l))) [] := by
  refine C_of mixed Tryz.func47 A_clavigerref10_Head_ok A_clavigerref10_Head_res _ A_clavigerref10_Head_nt ?_
  (repeat' (first | simp (maxSteps := 2000000) -implicitDefEqProofs only [A_clavigerref10_Head, len_lst, cells_lst, rk_ext, fk_ext, lr_api, lr, lr2, oO, oN, oG, oNG, oM, oF, oL, rg, ci, seval, resAll, resL, resV, blkAt, undef, fillV, evParts, footOp, wrOp, chk, disj] | split | ((first | apply ck_call | apply cfk_call); (first | (apply call_pure (rsum_C b h) cll cl) | (apply call_pure (rtwo_C prev (sumF b.l)) cll cl)))))
  all_goals (refine out_eq rfl cl)
end Go.Proofs.YtmmaenfjnkoknaaGreat.VA
