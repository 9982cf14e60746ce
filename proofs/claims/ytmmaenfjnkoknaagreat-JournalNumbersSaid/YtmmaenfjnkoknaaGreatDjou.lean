/- Journals: places, images, what an image tells. -/
import Derived.Test.YtmmaenfjnkoknaaGreatCjou
import Derived.Test.YtmmaenfjnkoknaaGreatVC
set_option linter.unusedVariables false
set_option linter.unusedSimpArgs false
set_option maxRecDepth 100000
namespace Go.Proofs.YtmmaenfjnkoknaaGreat.VA
open Go
attribute [local irreducible] WK NK XK TK RK FK CK CFK CallRel C
attribute [local irreducible] sealF textF fits sumF heldR rightR
def placeR (r : Rgr) : Int := if 8 ≤ heldR r then -1 else 2 + heldR r
theorem held_range (r : Rgr) : 0 ≤ heldR r ∧ heldR r ≤ 8 := by
  unfold heldR
  split
  · rename_i h
    unfold rightR at h
    simp only [decide_eq_true_eq] at h
    have h1 : 0 ≤ IntKind.u64.wrap (r.count - r.base) := by rw [IntKind.wrap_u64]; omega
    have h2 := h.2.2.2.1
    rw [wrap_id _ (by omega) (by omega)]
    omega
  · omega
theorem place_C (r : Rgr) : C Tryz.prog 26 [.agg (cRgr r)] [] (vi .i64 (placeR r)) [] := by
  refine C_of mixed Tryz.func26 A_journal_Place_ok A_journal_Place_res _ A_journal_Place_nt ?_
  have h := held_range r
  have k1 := held_C r
  unfold placeR
  generalize heldR r = x at *
  by_cases h8 : 8 ≤ x
  · have c1 : x ≥ 8 := h8
    rw [if_pos h8]
    (repeat' (first | simp (maxSteps := 2000000) -implicitDefEqProofs only [A_journal_Place, c1, h8, len_lst, cells_lst, rk_ext, fk_ext, lrp, lr_api, lr_keep, lr_register, lr, lr2, oO, oN, oG, oNG, oM, oF, oL, rg, ci, seval, resAll, resL, resV, blkAt, undef, fillV, evParts, footOp, wrOp, chk, disj] | split | ((first | apply ck_call | apply cfk_call); (first | (apply call_pure (k1) cll cl)))))
    exact out_eq rfl cl
  · have c1 : ¬ x ≥ 8 := h8
    rw [if_neg h8]
    have w1 : IntKind.i64.wrap (2 + x) = 2 + x := wrap_id _ (by omega) (by omega)
    (repeat' (first | simp (maxSteps := 2000000) -implicitDefEqProofs only [A_journal_Place, c1, h8, w1, len_lst, cells_lst, rk_ext, fk_ext, lrp, lr_api, lr_keep, lr_register, lr, lr2, oO, oN, oG, oNG, oM, oF, oL, rg, ci, seval, resAll, resL, resV, blkAt, undef, fillV, evParts, footOp, wrOp, chk, disj] | split | ((first | apply ck_call | apply cfk_call); (first | (apply call_pure (k1) cll cl)))))
    exact out_eq rfl cl
theorem room_C (r : Rgr) : C Tryz.prog 13 [.agg (cRgr r)] [] (vi .i64 (IntKind.i64.wrap (1 - r.point))) [] := by
  refine C_of mixed Tryz.func13 A_journal_Room_ok A_journal_Room_res _ A_journal_Room_nt ?_
  (repeat' (first | simp (maxSteps := 2000000) -implicitDefEqProofs only [A_journal_Room, len_lst, cells_lst, rk_ext, fk_ext, lrp, lr_api, lr_keep, lr_register, lr, lr2, oO, oN, oG, oNG, oM, oF, oL, rg, ci, seval, resAll, resL, resV, blkAt, undef, fillV, evParts, footOp, wrOp, chk, disj] | split))
  exact out_eq rfl cl
theorem first_C (b : Row) (h : b.l.length ≤ 8192) : C Tryz.prog 33 [rowV b] [] (.agg (dg (sumF b.l))) [] := by
  refine C_of mixed Tryz.func33 A_journal_First_ok A_journal_First_res _ A_journal_First_nt ?_
  (repeat' (first | simp (maxSteps := 2000000) -implicitDefEqProofs only [A_journal_First, len_lst, cells_lst, rk_ext, fk_ext, lrp, lr_api, lr_keep, lr_register, lr, lr2, oO, oN, oG, oNG, oM, oF, oL, rg, ci, seval, resAll, resL, resV, blkAt, undef, fillV, evParts, footOp, wrOp, chk, disj] | split | ((first | apply ck_call | apply cfk_call); (first | (apply call_pure (sum_C b (by omega)) cll cl)))))
  exact out_eq rfl cl
def adI : List UInt8 := [105, 109, 97, 103, 101]
theorem adI_cells : [vi .u8 105, vi .u8 109, vi .u8 97, vi .u8 103, vi .u8 101] = bs adI := rfl
theorem jsealO_C (k : Bn 16) (r : Rgr) (c : Nat) (hc : r.count = c) (t : Row) (h : t.l.length ≤ 8184) : C Tryz.prog 21 [.agg (dg k), .agg (cRgr r), rowV t] [] (.tup [.sref 0 0 (sealF k c adI t.l).length 1, vi .i64 0]) [some (bs (sealF k c adI t.l))] := by
  refine C_of mixed Tryz.func21 A_journal_Seal_ok A_journal_Seal_res _ A_journal_Seal_nt ?_
  have c1 : ¬ (t.l.length : Int) > 8184 := by omega
  have s1 := seal_C k c (.of adI) t (by decide) h
  (repeat' (first | simp (maxSteps := 2000000) -implicitDefEqProofs only [A_journal_Seal, hc, c1, adI_cells, len_lst, cells_lst, rk_ext, fk_ext, lrp, lr_api, lr_keep, lr_register, lr, lr2, oO, oN, oG, oNG, oM, oF, oL, rg, ci, seval, resAll, resL, resV, blkAt, undef, fillV, evParts, footOp, wrOp, chk, disj] | split | ((first | apply ck_call | apply cfk_call); (first | (apply call_roA_new (s1); (simp [ids_nil, ids_cons, ids_sc, ids_agg, ids_dg, ids_bs, ids_row, ids_ints, ids_sref, ids_ref, ids_sl, blkAt] <;> fail); (repeat' (first | exact args_n | apply args_c | (first | exact arg_closed _ cl | (refine arg_rowA rfl mem ?_; (first | rfl | omega | (simp [bn_len] <;> fail) | (simp [bn_len]; omega))) | (refine arg_row rfl mem ?_; (first | rfl | omega | (simp [bn_len] <;> fail) | (simp [bn_len]; omega))) | (refine arg_fld mem ?_ ?_; (first | rfl | omega | (simp [bn_len] <;> fail) | (simp [bn_len]; omega)); (simp only [len_lst, cells_lst, rk_ext, fk_ext, lrp, lr_api, lr_keep, lr_register, blkAt, List.getD_cons_zero, List.getD_cons_succ, Option.bind_some, rd_sE] <;> fail))))); (first | exact cl | exact cll); (first | exact nr | exact nrl))))))
  exact out_rowT rfl trivial (bs_closed _)
theorem rimage_C : C Tryz.prog 44 [] [] (.sref 0 0 5 1) [some (bs adI)] := by
  refine C_of mixed Tryz.func44 A_clavigerref10_image_ok A_clavigerref10_image_res _ A_clavigerref10_image_nt ?_
  (repeat' (first | simp (maxSteps := 2000000) -implicitDefEqProofs only [A_clavigerref10_image, adI_cells, len_lst, cells_lst, rk_ext, fk_ext, lrp, lr_api, lr_keep, lr_register, lr, lr2, oO, oN, oG, oNG, oM, oF, oL, rg, ci, seval, resAll, resL, resV, blkAt, undef, fillV, evParts, footOp, wrOp, chk, disj] | split))
  exact out_row rfl (bs_closed _)
theorem rImageO_C (k : Bn 16) (r : Rgr) (c : Nat) (hc : r.count = c) (hc2 : c < 18446744073709551616) (t : Row) (h : t.l.length ≤ 8184) : C Tryz.prog 31 [.agg (dg k), .agg (cRgr r), rowV t] [] (.sref 0 0 (sealF k c adI t.l).length 1) [some (bs (sealF k c adI t.l))] := by
  refine C_of mixed Tryz.func31 A_clavigerref10_Image_ok A_clavigerref10_Image_res _ A_clavigerref10_Image_nt ?_
  have s1 := rseal_C k c hc2 (.of adI) t (by decide) h
  have hl : adI.length = 5 := rfl
  (repeat' (first | simp (maxSteps := 2000000) -implicitDefEqProofs only [A_clavigerref10_Image, hc, hl, len_lst, cells_lst, rk_ext, fk_ext, lrp, lr_api, lr_keep, lr_register, lr, lr2, oO, oN, oG, oNG, oM, oF, oL, rg, ci, seval, resAll, resL, resV, blkAt, undef, fillV, evParts, footOp, wrOp, chk, disj] | split | ((first | apply ck_call | apply cfk_call); (first | (apply call_new (rimage_C) cll cll) | (apply call_roA_new (s1); (simp [ids_nil, ids_cons, ids_sc, ids_agg, ids_dg, ids_bs, ids_row, ids_ints, ids_sref, ids_ref, ids_sl, blkAt] <;> fail); (repeat' (first | exact args_n | apply args_c | (first | exact arg_closed _ cl | (refine arg_rowA rfl mem ?_; (first | rfl | omega | (simp [bn_len] <;> fail) | (simp [bn_len]; omega))) | (refine arg_row rfl mem ?_; (first | rfl | omega | (simp [bn_len] <;> fail) | (simp [bn_len]; omega))) | (refine arg_fld mem ?_ ?_; (first | rfl | omega | (simp [bn_len] <;> fail) | (simp [bn_len]; omega)); (simp only [len_lst, cells_lst, rk_ext, fk_ext, lrp, lr_api, lr_keep, lr_register, blkAt, List.getD_cons_zero, List.getD_cons_succ, Option.bind_some, rd_sE] <;> fail))))); (first | exact cl | exact cll); (first | exact nr | exact nrl))))))
  exact out_row rfl (bs_closed _)
def Dsk.fine (d : Dsk) : Prop := d.ok ∧ ∀ n : Nat, (d.now.getD n default).b.l.length ≤ 8192
def imgR (k : Bn 16) (b : Nat) (x : List UInt8) : Row := if x.length = 8 then .nil else .of (textF k b x)
theorem imgR_l (k : Bn 16) (b : Nat) (x : List UInt8) : (imgR k b x).l = textF k b x := by
  unfold imgR
  split
  · rename_i h; rw [text_8 k b x h]; rfl
  · rfl
theorem base0_C (k : Bn 16) (d : Dsk) (r : Rgr) (h : r.base = 0) : C Tryz.prog 38 [.agg (dg k), .ref 0 0, .agg (cRgr r)] [cDsk d] (.tup [vnil, .agg (dg (Bn.zero 16)), vi .i64 0]) [some (cDsk d)] := by
  refine C_of mixed Tryz.func38 A_journal_base_ok A_journal_base_res _ A_journal_base_nt ?_
  (repeat' (first | simp (maxSteps := 2000000) -implicitDefEqProofs only [A_journal_base, h, len_lst, cells_lst, rk_ext, fk_ext, lrp, lr_api, lr_keep, lr_register, lr, lr2, oO, oN, oG, oNG, oM, oF, oL, rg, ci, seval, resAll, resL, resV, blkAt, undef, fillV, evParts, footOp, wrOp, chk, disj] | split))
  exact out_updE rfl rfl rfl cll cl
theorem baseN_C (k : Bn 16) (d : Dsk) (hd : d.fine) (r : Rgr) (b p : Nat) (hb : r.base = b) (h0 : 0 < b) (hp : r.point = p) (hp2 : p < 2) (hx : (d.now.getD p default).has = false) :
    C Tryz.prog 38 [.agg (dg k), .ref 0 0, .agg (cRgr r)] [cDsk d] (.tup [vnil, .agg (dg (Bn.zero 16)), vi .i64 30]) [some (cDsk d)] := by
  have g := get_C d hd.1 p (by omega) (hd.2 p)
  rw [hx, if_neg (by decide)] at g
  have c1 : ¬ (b : Int) = 0 := by omega
  refine C_of mixed Tryz.func38 A_journal_base_ok A_journal_base_res _ A_journal_base_nt ?_
  (repeat' (first | simp (maxSteps := 2000000) -implicitDefEqProofs only [A_journal_base, hb, hp, c1, len_lst, cells_lst, rk_ext, fk_ext, lrp, lr_api, lr_keep, lr_register, lr, lr2, oO, oN, oG, oNG, oM, oF, oL, rg, ci, seval, resAll, resL, resV, blkAt, undef, fillV, evParts, footOp, wrOp, chk, disj] | split | ((first | apply ck_call | apply cfk_call); (first | (apply call_upd (g) rfl cll cll cll cl)))))
  exact out_updE rfl rfl rfl cll cl
theorem out_updBV {H : Heap} {v r : V} {C C' : List V} (bs' : List Nat) (hb : blkAt H 0 = some C) (hbs : ∀ id, id ∈ bs' → ∃ cells, blkAt H id = some cells) (h : ArgRelL H [0] bs' C C') (hv : ArgRel H [0] bs' v r) : OutOK 1 H v r [some C'] := by
  refine ⟨[0], bs', by simp, rfl, by simp, fun k hk => ?_, hbs, hv, fun k c hk => ?_⟩
  · obtain rfl : k = 0 := by omega
    rfl
  · cases k with
    | zero => simp at hk; subst hk; exact ⟨0, C, rfl, hb, h⟩
    | succ k => simp at hk
theorem baseT_C (k : Bn 16) (d : Dsk) (hd : d.fine) (r : Rgr) (b p : Nat) (hb : r.base = b) (h0 : 0 < b) (hp : r.point = p) (hp2 : p < 2) (hx : (d.now.getD p default).has = true) (hf : fits k b adI (d.now.getD p default).b.l) :
    C Tryz.prog 38 [.agg (dg k), .ref 0 0, .agg (cRgr r)] [cDsk d] (.tup [rowV (imgR k b (d.now.getD p default).b.l), .agg (dg (sumF (d.now.getD p default).b.l)), vi .i64 0]) [some (cDsk d)] := by
  have g := get_C d hd.1 p (by omega) (hd.2 p)
  rw [hx, if_pos rfl] at g
  have f := first_C (d.now.getD p default).b (hd.2 p)
  generalize d.now.getD p default = x at *
  have c1 : ¬ (b : Int) = 0 := by omega
  have hf' := hf
  unfold fits at hf'
  have tl := text_len k b x.b.l hf'.2.1
  unfold imgR
  by_cases h8 : x.b.l.length = 8
  · have o := open8_C k b (.of adI) x.b h8 hf
    rw [if_pos h8]
    refine C_of mixed Tryz.func38 A_journal_base_ok A_journal_base_res _ A_journal_base_nt ?_
    (repeat' (first | simp (maxSteps := 2000000) -implicitDefEqProofs only [A_journal_base, hb, hp, c1, adI_cells, len_lst, cells_lst, rk_ext, fk_ext, lrp, lr_api, lr_keep, lr_register, lr, lr2, oO, oN, oG, oNG, oM, oF, oL, rg, ci, seval, resAll, resL, resV, blkAt, undef, fillV, evParts, footOp, wrOp, chk, disj] | split | ((first | apply ck_call | apply cfk_call); (first | (apply call_upd (g) rfl cll cll cll cl) | (apply call_roA (o); (simp [ids_nil, ids_cons, ids_sc, ids_agg, ids_dg, ids_bs, ids_row, ids_ints, ids_sref, ids_ref, ids_sl, blkAt] <;> fail); (repeat' (first | exact args_n | apply args_c | (first | exact arg_closed _ cl | (refine arg_rowA rfl mem ?_; (first | rfl | omega | (simp [bn_len] <;> fail) | (simp [bn_len]; omega))) | (refine arg_row rfl mem ?_; (first | rfl | omega | (simp [bn_len] <;> fail) | (simp [bn_len]; omega))) | (refine arg_fld mem ?_ ?_; (first | rfl | omega | (simp [bn_len] <;> fail) | (simp [bn_len]; omega)); (simp only [len_lst, cells_lst, rk_ext, fk_ext, lrp, lr_api, lr_keep, lr_register, blkAt, List.getD_cons_zero, List.getD_cons_succ, Option.bind_some, rd_sE] <;> fail))))); (first | exact cl | exact cll); (first | exact nr | exact nrl)) | (apply call_pure (f) cll cl)))))
    exact out_updE rfl rfl rfl cll cl
  · have o := open_C k b (.of adI) x.b (by omega) hf
    rw [if_neg h8]
    generalize textF k b x.b.l = T at *
    refine C_of mixed Tryz.func38 A_journal_base_ok A_journal_base_res _ A_journal_base_nt ?_
    (repeat' (first | simp (maxSteps := 2000000) -implicitDefEqProofs only [A_journal_base, hb, hp, c1, adI_cells, tl, len_lst, cells_lst, rk_ext, fk_ext, lrp, lr_api, lr_keep, lr_register, lr, lr2, oO, oN, oG, oNG, oM, oF, oL, rg, ci, seval, resAll, resL, resV, blkAt, undef, fillV, evParts, footOp, wrOp, chk, disj] | split | ((first | apply ck_call | apply cfk_call); (first | (apply call_upd (g) rfl cll cll cll cl) | (apply call_inT (o); (simp [ids_nil, ids_cons, ids_sc, ids_agg, ids_dg, ids_bs, ids_row, ids_ints, ids_sref, ids_ref, ids_sl, blkAt] <;> fail); (repeat' (first | exact args_n | apply args_c | (first | exact arg_closed _ cl | (refine arg_rowA rfl mem ?_; (first | rfl | omega | (simp [bn_len] <;> fail) | (simp [bn_len]; omega))) | (refine arg_row rfl mem ?_; (first | rfl | omega | (simp [bn_len] <;> fail) | (simp [bn_len]; omega))) | (refine arg_fld mem ?_ ?_; (first | rfl | omega | (simp [bn_len] <;> fail) | (simp [bn_len]; omega)); (simp only [len_lst, cells_lst, rk_ext, fk_ext, lrp, lr_api, lr_keep, lr_register, blkAt, List.getD_cons_zero, List.getD_cons_succ, Option.bind_some, rd_sE] <;> fail))))); (first | exact cl | exact cll); (first | exact nr | exact nrl); (first | exact cl | exact cll); (first | exact nr | exact nrl)) | (apply call_pure (f) cll cl)))))
    refine out_updBV [5] rfl (fun id h => ?_) (argL_closed _ (cDsk_closed d)) (arg_tup (argL_cons (sref_B rfl (by simp) (by simp) tl.symm) (argL_cons (arg_closed _ cl) (argL_cons (arg_closed _ cl) argL_nil))))
    simp at h; subst h; exact ⟨_, rfl⟩
theorem baseE_C (k : Bn 16) (d : Dsk) (hd : d.fine) (r : Rgr) (b p : Nat) (hb : r.base = b) (h0 : 0 < b) (hp : r.point = p) (hp2 : p < 2) (hx : (d.now.getD p default).has = true) (hf : ¬ fits k b adI (d.now.getD p default).b.l) :
    C Tryz.prog 38 [.agg (dg k), .ref 0 0, .agg (cRgr r)] [cDsk d] (.tup [vnil, .agg (dg (sumF (d.now.getD p default).b.l)), vi .i64 30]) [some (cDsk d)] := by
  have g := get_C d hd.1 p (by omega) (hd.2 p)
  rw [hx, if_pos rfl] at g
  have o := openE_C k b (.of adI) (d.now.getD p default).b hf
  have f := first_C (d.now.getD p default).b (hd.2 p)
  generalize d.now.getD p default = x at *
  have c1 : ¬ (b : Int) = 0 := by omega
  refine C_of mixed Tryz.func38 A_journal_base_ok A_journal_base_res _ A_journal_base_nt ?_
  (repeat' (first | simp (maxSteps := 2000000) -implicitDefEqProofs only [A_journal_base, hb, hp, c1, adI_cells, len_lst, cells_lst, rk_ext, fk_ext, lrp, lr_api, lr_keep, lr_register, lr, lr2, oO, oN, oG, oNG, oM, oF, oL, rg, ci, seval, resAll, resL, resV, blkAt, undef, fillV, evParts, footOp, wrOp, chk, disj] | split | ((first | apply ck_call | apply cfk_call); (first | (apply call_upd (g) rfl cll cll cll cl) | (apply call_roA (o); (simp [ids_nil, ids_cons, ids_sc, ids_agg, ids_dg, ids_bs, ids_row, ids_ints, ids_sref, ids_ref, ids_sl, blkAt] <;> fail); (repeat' (first | exact args_n | apply args_c | (first | exact arg_closed _ cl | (refine arg_rowA rfl mem ?_; (first | rfl | omega | (simp [bn_len] <;> fail) | (simp [bn_len]; omega))) | (refine arg_row rfl mem ?_; (first | rfl | omega | (simp [bn_len] <;> fail) | (simp [bn_len]; omega))) | (refine arg_fld mem ?_ ?_; (first | rfl | omega | (simp [bn_len] <;> fail) | (simp [bn_len]; omega)); (simp only [len_lst, cells_lst, rk_ext, fk_ext, lrp, lr_api, lr_keep, lr_register, blkAt, List.getD_cons_zero, List.getD_cons_succ, Option.bind_some, rd_sE] <;> fail))))); (first | exact cl | exact cll); (first | exact nr | exact nrl)) | (apply call_pure (f) cll cl)))))
  exact out_updE rfl rfl rfl cll cl
end Go.Proofs.YtmmaenfjnkoknaaGreat.VA
