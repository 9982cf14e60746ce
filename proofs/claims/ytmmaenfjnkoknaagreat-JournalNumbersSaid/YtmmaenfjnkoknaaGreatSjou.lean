/- Journals: the document's Load (seat .Z). -/
import Derived.Test.YtmmaenfjnkoknaaGreatRjou
import Derived.Test.YtmmaenfjnkoknaaGreatVC
set_option linter.unusedVariables false
set_option linter.unusedSimpArgs false
set_option maxRecDepth 100000
namespace Go.Proofs.YtmmaenfjnkoknaaGreat.VA
open Go
attribute [local irreducible] WK NK XK TK RK FK CK CFK CallRel C
attribute [local irreducible] sealF textF fits sumF heldR rightR frec headF imgR
theorem rloadV_eq (k : Bn 16) (d : Dsk) (r : Rgr) (b p n : Nat) (i img : Row) (h0 : Bn 16) (h : baseO k d b p = some (i, h0)) (hi : img = if b = 0 then .nil else .of i.l) :
    (match ldN k d b h0 n with | none => (.tup [vnil, vnil, vi .i64 30] : V) | some (l, h) => if h = r.head then .tup [rowV img, lstV cRec (lsOf l), vi .i64 0] else .tup [vnil, vnil, vi .i64 30]) = rloadV b (loadF k d r b p n) := by
  unfold loadF
  rw [h]
  subst hi
  simp only []
  cases ldN k d b h0 n with
  | none => rfl
  | some q =>
    obtain ⟨l, h'⟩ := q
    simp only []
    split
    · rfl
    · rfl
theorem rvn : rowV Row.nil = V.sc (Value.slice none 0 0) := rfl
set_option maxHeartbeats 8000000 in
theorem rload_C (k : Bn 16) (m : Rsk) (hm : m.fine) (r : Rgr) (hr : rightR r = true) (c b p : Nat) (hc : r.count = c) (hb : r.base = b) (hp : r.point = p) (hp2 : p < 2) :
    C Tryz.prog 15 [.agg (dg k), .ref 0 0, .agg (cRgr r)] [cRsk m] (rloadV b (loadF k (vwR m) r b p (c - b))) [some (cRsk m)] := by
  obtain ⟨hc2, hbc, hcb, hheld⟩ := right_nat hr c b hc hb
  have k1 := rright_C r
  rw [hr] at k1
  by_cases h0 : b = 0
  · subst h0
    have hz : r.base = 0 := hb
    have hbo : baseO k (vwR m) 0 p = some (.nil, Bn.zero 16) := if_pos rfl
    have c1 : ¬ (0 : Int) > 0 := by decide
    refine C_of mixed Tryz.func15 A_clavigerref10_Load_ok A_clavigerref10_Load_res _ A_clavigerref10_Load_nt ?_
    (repeat' (first | simp (maxSteps := 2000000) -implicitDefEqProofs only [A_clavigerref10_Load, hz, c1, len_lst, cells_lst, rk_ext, fk_ext, lrp, lr_api, lr_keep, lr_register, lr, lr2, oO, oN, oG, oNG, oM, oF, oL, rg, ci, seval, resAll, resL, resV, blkAt, undef, fillV, evParts, footOp, wrOp, chk, disj] | split | ((first | apply ck_call | apply cfk_call); (first | (apply call_pure (k1) cll cl)))))
    exact rloadL_C k m hm r c 0 p (c - 0) hc hc2 hbc hb hcb hheld .nil (Bn.zero 16) _ (rloadV_eq k (vwR m) r 0 p (c - 0) .nil .nil (Bn.zero 16) hbo rfl) _ _ (by refine .ren _ _ _ [0, 1, 2, 3] (by decide) (by intro k h; first | exact absurd h (Nat.not_lt_zero k) | (simp at h; done) | (rcases k with _ | _ | _ | k <;> first | rfl | (exfalso; omega) | (simp at h; done))) ?_ ?_ <;> simp [KeepS, KeepH, ArgRel, ArgRelL, argL_cl, arg_cl, row_l_of, row_l_nil, bn_len, blkAt, rvn])
  · have c1 : (b : Int) > 0 := by omega
    have g := rget_C m hm.1 p (by omega)
    have hx8 := hm.2 p
    have sm := rsum_C (m.now.getD p default).b (by omega)
    by_cases hx : (m.now.getD p default).has = true ∧ fits k b adI (m.now.getD p default).b.l
    · have hbo : baseO k (vwR m) b p = some (imgR k b (m.now.getD p default).b.l, sumF (m.now.getD p default).b.l) := by
        unfold baseO
        rw [if_neg h0]
        exact if_pos hx
      have o := ropenI_C k b (by omega) (m.now.getD p default).b hx.2
      have hv := rloadV_eq k (vwR m) r b p (c - b) _ (.of (textF k b (m.now.getD p default).b.l)) _ hbo (by rw [if_neg h0, imgR_l])
      rw [hx.1] at g
      generalize (m.now.getD p default) = x at *
      generalize textF k b x.b.l = T at *
      generalize sumF x.b.l = s0 at *
      have hl5 : adI.length = 5 := rfl
      refine C_of mixed Tryz.func15 A_clavigerref10_Load_ok A_clavigerref10_Load_res _ A_clavigerref10_Load_nt ?_
      (repeat' (first | simp (maxSteps := 2000000) -implicitDefEqProofs only [A_clavigerref10_Load, hb, hp, c1, hl5, len_lst, cells_lst, rk_ext, fk_ext, lrp, lr_api, lr_keep, lr_register, lr, lr2, oO, oN, oG, oNG, oM, oF, oL, rg, ci, seval, resAll, resL, resV, blkAt, undef, fillV, evParts, footOp, wrOp, chk, disj] | split | ((first | apply ck_call | apply cfk_call); (first | (apply call_pure (k1) cll cl) | (apply call_upd (g) rfl cll cll cll cl) | (apply call_new (rimage_C) cll cll) | (apply call_give (o); (case hg => ((first | (apply give_rowA; (first | rfl | omega | (simp [bn_len] <;> fail) | (simp [bn_len]; omega) | fail)) | (apply give_row; (first | rfl | omega | (simp [bn_len] <;> fail) | (simp [bn_len]; omega) | fail)) | (apply give_c; (first | exact cl | exact cll)) | fail); (first | (apply give_rowA; (first | rfl | omega | (simp [bn_len] <;> fail) | (simp [bn_len]; omega) | fail)) | (apply give_row; (first | rfl | omega | (simp [bn_len] <;> fail) | (simp [bn_len]; omega) | fail)) | (apply give_c; (first | exact cl | exact cll)) | fail); (first | (apply give_rowA; (first | rfl | omega | (simp [bn_len] <;> fail) | (simp [bn_len]; omega) | fail)) | (apply give_row; (first | rfl | omega | (simp [bn_len] <;> fail) | (simp [bn_len]; omega) | fail)) | (apply give_c; (first | exact cl | exact cll)) | fail); (first | (apply give_rowA; (first | rfl | omega | (simp [bn_len] <;> fail) | (simp [bn_len]; omega) | fail)) | (apply give_row; (first | rfl | omega | (simp [bn_len] <;> fail) | (simp [bn_len]; omega) | fail)) | (apply give_c; (first | exact cl | exact cll)) | fail); exact give_n)); (first | exact cl | exact cll); rfl; (first | exact cl | exact cll); (simp [ids_nil, ids_cons, ids_sc, ids_agg, ids_dg, ids_bs, ids_row, ids_ints, ids_sref, ids_ref, ids_sl, cRgr_ids] <;> fail)) | (apply call_pure (sm) cll cl)))))
      exact rloadL_C k m hm r c b p (c - b) hc hc2 hbc hb hcb hheld (.of T) s0 _ hv _ _ (by refine .ren _ _ _ [0, 1, 2, 3] (by decide) (by intro k h; first | exact absurd h (Nat.not_lt_zero k) | (simp at h; done) | (rcases k with _ | _ | _ | k <;> first | rfl | (exfalso; omega) | (simp at h; done))) ?_ ?_ <;> simp [KeepS, KeepH, ArgRel, ArgRelL, argL_cl, arg_cl, row_l_of, row_l_nil, bn_len, blkAt])
    · have hbo : baseO k (vwR m) b p = none := by
        unfold baseO
        rw [if_neg h0]
        exact if_neg hx
      have hR : rloadV b (loadF k (vwR m) r b p (c - b)) = .tup [vnil, vnil, vi .i64 30] := by
        unfold loadF; rw [hbo]; rfl
      rw [hR]
      have hl5 : adI.length = 5 := rfl
      by_cases hf : fits k b adI (m.now.getD p default).b.l
      · have hh : (m.now.getD p default).has = false := by simpa using fun h => hx ⟨h, hf⟩
        have o := ropenI_C k b (by omega) (m.now.getD p default).b hf
        rw [hh] at g
        generalize (m.now.getD p default) = x at *
        generalize textF k b x.b.l = T at *
        refine C_of mixed Tryz.func15 A_clavigerref10_Load_ok A_clavigerref10_Load_res _ A_clavigerref10_Load_nt ?_
        (repeat' (first | simp (maxSteps := 2000000) -implicitDefEqProofs only [A_clavigerref10_Load, hb, hp, c1, hl5, len_lst, cells_lst, rk_ext, fk_ext, lrp, lr_api, lr_keep, lr_register, lr, lr2, oO, oN, oG, oNG, oM, oF, oL, rg, ci, seval, resAll, resL, resV, blkAt, undef, fillV, evParts, footOp, wrOp, chk, disj] | split | ((first | apply ck_call | apply cfk_call); (first | (apply call_pure (k1) cll cl) | (apply call_upd (g) rfl cll cll cll cl) | (apply call_new (rimage_C) cll cll) | (apply call_give (o); (case hg => ((first | (apply give_rowA; (first | rfl | omega | (simp [bn_len] <;> fail) | (simp [bn_len]; omega) | fail)) | (apply give_row; (first | rfl | omega | (simp [bn_len] <;> fail) | (simp [bn_len]; omega) | fail)) | (apply give_c; (first | exact cl | exact cll)) | fail); (first | (apply give_rowA; (first | rfl | omega | (simp [bn_len] <;> fail) | (simp [bn_len]; omega) | fail)) | (apply give_row; (first | rfl | omega | (simp [bn_len] <;> fail) | (simp [bn_len]; omega) | fail)) | (apply give_c; (first | exact cl | exact cll)) | fail); (first | (apply give_rowA; (first | rfl | omega | (simp [bn_len] <;> fail) | (simp [bn_len]; omega) | fail)) | (apply give_row; (first | rfl | omega | (simp [bn_len] <;> fail) | (simp [bn_len]; omega) | fail)) | (apply give_c; (first | exact cl | exact cll)) | fail); (first | (apply give_rowA; (first | rfl | omega | (simp [bn_len] <;> fail) | (simp [bn_len]; omega) | fail)) | (apply give_row; (first | rfl | omega | (simp [bn_len] <;> fail) | (simp [bn_len]; omega) | fail)) | (apply give_c; (first | exact cl | exact cll)) | fail); exact give_n)); (first | exact cl | exact cll); rfl; (first | exact cl | exact cll); (simp [ids_nil, ids_cons, ids_sc, ids_agg, ids_dg, ids_bs, ids_row, ids_ints, ids_sref, ids_ref, ids_sl, cRgr_ids] <;> fail)) | (apply call_pure (sm) cll cl)))))
        exact out_updE rfl rfl rfl cll cl
      · have o := ropenE_C k b (by omega) (.of adI) (m.now.getD p default).b hf
        generalize (m.now.getD p default) = x at *
        cases hh : x.has with
        | true =>
          rw [hh] at g
          refine C_of mixed Tryz.func15 A_clavigerref10_Load_ok A_clavigerref10_Load_res _ A_clavigerref10_Load_nt ?_
          (repeat' (first | simp (maxSteps := 2000000) -implicitDefEqProofs only [A_clavigerref10_Load, hb, hp, c1, hl5, len_lst, cells_lst, rk_ext, fk_ext, lrp, lr_api, lr_keep, lr_register, lr, lr2, oO, oN, oG, oNG, oM, oF, oL, rg, ci, seval, resAll, resL, resV, blkAt, undef, fillV, evParts, footOp, wrOp, chk, disj] | split | ((first | apply ck_call | apply cfk_call); (first | (apply call_pure (k1) cll cl) | (apply call_upd (g) rfl cll cll cll cl) | (apply call_new (rimage_C) cll cll) | (apply call_roA (o); (simp [ids_nil, ids_cons, ids_sc, ids_agg, ids_dg, ids_bs, ids_row, ids_ints, ids_sref, ids_ref, ids_sl, cRgr_ids, blkAt] <;> fail); (repeat' (first | exact args_n | apply args_c | (first | exact arg_closed _ cl | (refine arg_rowA rfl mem ?_; (first | rfl | omega | (simp [bn_len] <;> fail) | (simp [bn_len]; omega))) | (refine arg_row rfl mem ?_; (first | rfl | omega | (simp [bn_len] <;> fail) | (simp [bn_len]; omega))) | (refine arg_fld mem ?_ ?_; (first | rfl | omega | (simp [bn_len] <;> fail) | (simp [bn_len]; omega)); (simp only [len_lst, cells_lst, rk_ext, fk_ext, lrp, lr_api, lr_keep, lr_register, blkAt, List.getD_cons_zero, List.getD_cons_succ, Option.bind_some, rd_sE] <;> fail))))); (first | exact cl | exact cll); (first | exact nr | exact nrl)) | (apply call_pure (sm) cll cl)))))
          exact out_updE rfl rfl rfl cll cl
        | false =>
          rw [hh] at g
          refine C_of mixed Tryz.func15 A_clavigerref10_Load_ok A_clavigerref10_Load_res _ A_clavigerref10_Load_nt ?_
          (repeat' (first | simp (maxSteps := 2000000) -implicitDefEqProofs only [A_clavigerref10_Load, hb, hp, c1, hl5, len_lst, cells_lst, rk_ext, fk_ext, lrp, lr_api, lr_keep, lr_register, lr, lr2, oO, oN, oG, oNG, oM, oF, oL, rg, ci, seval, resAll, resL, resV, blkAt, undef, fillV, evParts, footOp, wrOp, chk, disj] | split | ((first | apply ck_call | apply cfk_call); (first | (apply call_pure (k1) cll cl) | (apply call_upd (g) rfl cll cll cll cl) | (apply call_new (rimage_C) cll cll) | (apply call_roA (o); (simp [ids_nil, ids_cons, ids_sc, ids_agg, ids_dg, ids_bs, ids_row, ids_ints, ids_sref, ids_ref, ids_sl, cRgr_ids, blkAt] <;> fail); (repeat' (first | exact args_n | apply args_c | (first | exact arg_closed _ cl | (refine arg_rowA rfl mem ?_; (first | rfl | omega | (simp [bn_len] <;> fail) | (simp [bn_len]; omega))) | (refine arg_row rfl mem ?_; (first | rfl | omega | (simp [bn_len] <;> fail) | (simp [bn_len]; omega))) | (refine arg_fld mem ?_ ?_; (first | rfl | omega | (simp [bn_len] <;> fail) | (simp [bn_len]; omega)); (simp only [len_lst, cells_lst, rk_ext, fk_ext, lrp, lr_api, lr_keep, lr_register, blkAt, List.getD_cons_zero, List.getD_cons_succ, Option.bind_some, rd_sE] <;> fail))))); (first | exact cl | exact cll); (first | exact nr | exact nrl)) | (apply call_pure (sm) cll cl)))))
          exact out_updE rfl rfl rfl cll cl
end Go.Proofs.YtmmaenfjnkoknaaGreat.VA
