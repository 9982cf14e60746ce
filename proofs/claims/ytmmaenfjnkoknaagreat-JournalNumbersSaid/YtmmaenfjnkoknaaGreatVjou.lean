/- Journals: `write` of a list that is the caller's own (seat .Z). -/
import Derived.Test.YtmmaenfjnkoknaaGreatXjou
import Derived.Test.YtmmaenfjnkoknaaGreatVC
set_option linter.unusedVariables false
set_option linter.unusedSimpArgs false
set_option maxRecDepth 100000
namespace Go.Proofs.YtmmaenfjnkoknaaGreat.VA
open Go
attribute [local irreducible] WK NK XK TK RK FK CK CFK CallRel C
attribute [local irreducible] sealF textF fits sumF rightR frec headF imgR frameF keepR putR RightR
theorem rd_flatO (l : List KR) (i : Nat) (hi : i < l.length) : rd (some 13) (l.flatMap cKR) (i * 13) = some (.agg (cKR (l.getD i default))) := by
  rw [← rd_flat cKR_len l i hi, ← flat_drop cKR_len l i, rd_dropk _ _ _ (by decide)]
theorem out_upd3 {H : Heap} {v r : V} {C D E : List V} (hb : blkAt H 0 = some C) (hb1 : blkAt H 1 = some D) (hb2 : blkAt H 2 = some E) (hC : ClosedL C) (hD : ClosedL D) (hE : ClosedL E) (hv : v = r) (hr : Closed r) : OutOK 3 H v r [some C, some D, some E] := by
  subst hv
  refine ⟨[0, 1, 2], [], by simp, rfl, by simp, fun k hk => ?_, fun id h => (by cases h), arg_closed v hr, fun k c hk => ?_⟩
  · rcases k with _ | _ | _ | k
    · rfl
    · rfl
    · rfl
    · omega
  · rcases k with _ | _ | _ | k
    · simp at hk; subst hk; exact ⟨0, C, rfl, hb, argL_closed C hC⟩
    · simp at hk; subst hk; exact ⟨1, D, rfl, hb1, argL_closed D hD⟩
    · simp at hk; subst hk; exact ⟨2, E, rfl, hb2, argL_closed E hE⟩
    · simp at hk
theorem call_three {P : Program} {f : Nat} {i j n : Nat} {args args' : List V} {r r2 : V} {c1 c2 c3 c1' c2' c3' : List V} (hC : C P f args' [c1, c2, c3] r [some c1', some c2', some c3']) {H : Heap} (hij : i ≠ j) (hin : i ≠ n) (hjn : j ≠ n) (hb1 : blkAt H i = some c1) (hb2 : blkAt H j = some c2) (hb3 : blkAt H n = some c3)
    (h1 : ClosedL c1) (h2 : ClosedL c2) (h3 : ClosedL c3) (h1' : ClosedL c1') (h2' : ClosedL c2') (h3' : ClosedL c3') (hrel : ArgRelL H [i, j, n] [] args args') (hn1 : i ∈ idsInL args) (hn2 : j ∈ idsInL args) (hn3 : n ∈ idsInL args) (hr : renV (ρof [i, j, n] H.length) r = r2) :
    CallRel P f H args r2 (((H.set i (some c1')).set j (some c2')).set n (some c3')) [i, j, n] [i, j, n] := by
  unfold CallRel
  refine ⟨[i, j, n], [], args', [c1, c2, c3], r, [some c1', some c2', some c3'], hC, by simp [hij, hin, hjn], rfl, by simp, fun k x hk => ?_, fun k x hk => ?_, by simp, hrel, by simp, hr.symm, ?_, by simp, rfl⟩
  · match k, hk with
    | 0, hk => simp at hk; subst hk; exact ⟨c1, c1, rfl, hb1, argL_closed c1 h1⟩
    | 1, hk => simp at hk; subst hk; exact ⟨c2, c2, rfl, hb2, argL_closed c2 h2⟩
    | 2, hk => simp at hk; subst hk; exact ⟨c3, c3, rfl, hb3, argL_closed c3 h3⟩
    | k + 3, hk => simp at hk
  · match k, hk with
    | 0, hk => simp at hk; subst hk; exact .inl hn1
    | 1, hk => simp at hk; subst hk; exact .inl hn2
    | 2, hk => simp at hk; subst hk; exact .inl hn3
    | k + 3, hk => simp at hk
  · simp [putBack, renL_closed _ c1' h1', renL_closed _ c2' h2', renL_closed _ c3' h3']
set_option maxHeartbeats 16000000 in
theorem writeO_C (k : Bn 16) (l : List KR) (hl : ∀ x ∈ l, x.fine) (t : Nat) (ht : t ≤ 30) (hll : l.length ≤ 1000) :
    C Tryz.prog 9 [.agg (dg k), .ref 0 0, .ref 1 0, .sref 2 0 l.length 13, vi .i64 t] [cDsk Dsk.zero, cRsk rsk0, l.flatMap cKR]
      (.tup [.agg (cRgr (rgW k l (min l.length t))), vb true]) [some (cDsk (dkW k l (min l.length t))), some (cRsk (rkW k l (min l.length t))), some (l.flatMap cKR)] := by
  refine C_of mixed Tryz.func9 A_clavigerlaw10_write_ok A_clavigerlaw10_write_res _ A_clavigerlaw10_write_nt ?_
  (repeat' (first | simp (maxSteps := 2000000) -implicitDefEqProofs only [A_clavigerlaw10_write, len_lst, cells_lst, rk_ext, fk_ext, lrp, lr_api, lr_keep, lr_register, lr, lr2, oO, oN, oG, oNG, oM, oF, oL, rg, ci, seval, resAll, resL, resV, blkAt, undef, fillV, evParts, footOp, wrOp, chk, disj] | split))
  generalize hN : min l.length t = N
  refine wk_loop (fun m S H => ∃ i : Nat, i ≤ N ∧ m = N - i ∧ S = (.dead :: .ref 0 0 :: .ref 1 0 :: .sref 2 0 l.length 13 :: vi .i64 t :: .ref 3 0 :: .dead :: .dead :: .dead :: .dead :: .ref 4 0 :: .dead :: .ref 5 0 :: vi .i64 i :: .dead :: .dead :: .dead :: .dead :: .dead :: .dead :: .dead :: .dead :: .dead :: .dead :: .dead :: .dead :: .dead :: .dead :: .dead :: .dead :: .dead :: .dead :: .dead :: .dead :: .dead :: .dead :: .dead :: .dead :: .dead :: .dead :: .dead :: .dead :: .dead :: .dead :: .dead :: .dead :: .dead :: .dead :: .dead :: .dead :: .dead :: .dead :: .dead :: .dead :: .dead :: .dead :: .dead :: .dead :: .dead :: .dead :: .dead :: .dead :: .dead :: .dead :: .dead :: .dead :: .dead :: .dead :: .dead :: .dead :: .dead :: .dead :: .dead :: .dead :: .dead :: .dead :: .dead :: .dead :: .dead :: .dead :: .dead :: .dead :: .dead :: .dead :: .dead :: .dead :: .dead :: .dead :: .dead :: .dead :: .dead :: .dead :: .dead :: .dead :: .dead :: .dead :: .dead :: .dead :: .dead :: .dead :: .dead :: .dead :: .dead :: .dead :: .dead :: .dead :: .dead :: .dead :: .dead :: .dead :: .dead :: .dead :: .dead :: .dead :: .dead :: .dead :: .dead :: .dead :: .dead :: .dead :: .dead :: .dead :: .dead :: .dead :: .dead :: .dead :: .dead :: .dead :: .dead :: .dead :: .dead :: .dead :: .dead :: .dead :: .dead :: .dead :: .dead :: .dead :: .dead :: .dead :: .dead :: .dead :: .dead :: .dead :: .dead :: .dead :: .dead :: .dead :: .dead :: .dead :: .dead :: .dead :: .dead :: .dead :: .dead :: .dead :: .dead :: []) ∧
    H = [some (cDsk (dkW k l i)), some (cRsk (rkW k l i)), some (l.flatMap cKR), some (dg k), some (cRgr Rgr.zero), some (cRgr (rgW k l i))]) N ⟨0, Nat.zero_le _, rfl, rfl, rfl⟩ (by refine .ren _ _ _ [0, 1, 2, 3, 4, 5] (by decide) (by intro k h; first | exact absurd h (Nat.not_lt_zero k) | (simp at h; done) | (rcases k with _ | _ | _ | k <;> first | rfl | (exfalso; omega) | (simp at h; done))) ?_ ?_ <;> simp [KeepS, KeepH, ArgRel, ArgRelL, argL_cl, arg_cl, row_l_of, row_l_nil, bn_len, blkAt, dkW, rkW, rgW_0]) ?_
  rintro m S H ⟨i, hi, rfl, rfl, rfl⟩ J hJ
  have d0 : (0 : Int) ≤ i := by omega
  by_cases hin : i < N
  · have d1 : (i : Int) < l.length := by omega
    have d2 : (i : Int) < t := by omega
    have d3 : (i : Int) ≤ 255 := by omega
    have w1 : IntKind.i64.wrap ((i : Int) + 1) = ((i + 1 : Nat) : Int) := by rw [wrap_id _ (by omega) (by omega)]; omega
    have w2 : IntKind.u64.wrap ((i : Int) + 1) = ((i + 1 : Nat) : Int) := by rw [IntWalk.u64_in _ ⟨by omega, by omega⟩]; omega
    have w3 : IntKind.u8.wrap (i : Int) = i := by rw [IntKind.wrap_u8]; omega
    have w4 : IntKind.i64.wrap (2 + ((i % 8 : Nat) : Int)) = ((2 + i % 8 : Nat) : Int) := by rw [wrap_id _ (by omega) (by omega)]; omega
    have w5 : IntKind.i64.wrap (1 - ((i / 8 % 2 : Nat) : Int)) = ((1 - i / 8 % 2 : Nat) : Int) := by rw [wrap_id _ (by omega) (by omega)]; omega
    have hf : (l.getD i default).fine := by
      rw [List.getD_eq_getElem?_getD, List.getElem?_eq_getElem (by omega)]
      exact hl _ (List.getElem_mem _)
    have g1 := rd_flatO l i (by omega)
    have fl0 := flat_len cKR_len l
    have fl1 : i * 13 + 13 ≤ l.length * 13 := by omega
    have fl2 : i * 13 + 13 ≤ (l.flatMap cKR).length := by omega
    have kx := keepR_C (l.getD i default) hf
    have kr := keepR_right (l.getD i default) hf
    have hfr : frW k l i = frameF k (i + 1) (hdW k l i) (keepR (l.getD i default)) := rfl
    have ks := fseal_C k (i + 1) (hdW k l i) (keepR (l.getD i default)) kr.1 kr.2.1
    have krf := rframe_C k (i + 1) (by omega) (hdW k l i) (keepR (l.getD i default)) kr.1 kr.2.1 kr.2.2.1
    have fl := frame_len (k := k) (n := i + 1) (prev := hdW k l i) kr.1
    have fp := putR_le kr.1
    rw [← hfr] at ks krf fl
    have ld : (frW k l i).length ≤ 8192 := by omega
    have kp := put_C (dkW k l i) (dkW_ok k l i) (2 + i % 8) (by omega) (.of (frW k l i)) ld
    have kq := rput_C (rkW k l i) (rkW_ok k l i) (2 + i % 8) (by omega) (.of (frW k l i)) ld
    have kh := fhead_C (hdW k l i) (.of (frW k l i)) (by rw [row_l_of]; omega)
    rw [row_l_of] at kh
    obtain ⟨r1, hn, hc1, hh, hpl, hcase⟩ := stepW k l i (by omega)
    have kn := next_C (rgW k l i) (headF (hdW k l i) (frW k l i))
    rw [hn] at kn
    have kpl := place_C (rgW k l i)
    rw [hpl] at kpl
    have khe := rheld_C (rgW k l i)
    rw [hh] at khe
    have kh1 := held_C r1
    have hcnt : (rgW k l i).count = (i : Int) := rfl
    have hhd : (rgW k l i).head = hdW k l i := rfl
    have hpt : (rgW k l i).point = ((i / 8 % 2 : Nat) : Int) := rfl
    have od := putD_ok (dkW_ok k l i) (2 + i % 8) (.of (frW k l i))
    have ok := putK_ok (rkW_ok k l i) (2 + i % 8) (.of (frW k l i))
    have eD : dkW k l (i + 1) = if (i + 1) % 8 = 0 then putD (putD (dkW k l i) (2 + i % 8) (.of (frW k l i))) (1 - i / 8 % 2) (.of (imW k i)) else putD (dkW k l i) (2 + i % 8) (.of (frW k l i)) := rfl
    have eK : rkW k l (i + 1) = if (i + 1) % 8 = 0 then putK (putK (rkW k l i) (2 + i % 8) (.of (frW k l i))) (1 - i / 8 % 2) (.of (imW k i)) else putK (rkW k l i) (2 + i % 8) (.of (frW k l i)) := rfl
    have hpf : ¬ placeR r1 = -1 → True := fun _ => trivial
    generalize hR2 : rgW k l (i + 1) = r2 at *
    generalize hD2 : dkW k l (i + 1) = D2 at *
    generalize hK2 : rkW k l (i + 1) = K2 at *
    generalize rgW k l i = r0 at *
    generalize putD (dkW k l i) (2 + i % 8) (.of (frW k l i)) = D1 at *
    generalize putK (rkW k l i) (2 + i % 8) (.of (frW k l i)) = K1 at *
    generalize dkW k l i = D0 at *
    generalize rkW k l i = K0 at *
    generalize headF (hdW k l i) (frW k l i) = h1 at *
    generalize hdW k l i = h0 at *
    generalize frW k l i = fr at *
    generalize keepR (l.getD i default) = x at *
    generalize l.getD i default = y at *
    rcases hcase with ⟨hm, h8, rfl⟩ | ⟨hm, h8, hp1, hpt1, hfo⟩
    · rw [if_neg hm] at eD eK
      subst eD eK
      (repeat' (first | simp (maxSteps := 2000000) -implicitDefEqProofs only [A_clavigerlaw10_write_L0, d0, d1, d2, w1, w2, w4, hcnt, hhd, h8, g1, fl0, fl1, fl2, len_lst, cells_lst, rk_ext, fk_ext, lrp, lr_api, lr_keep, lr_register, lr, lr2, oO, oN, oG, oNG, oM, oF, oL, rg, ci, seval, resAll, resL, resV, blkAt, undef, fillV, evParts, footOp, wrOp, chk, disj] | split | ((first | apply ck_call | apply cfk_call); (first | (apply call_pure (kx) cll cl) | (apply call_pure (ks) cll cl) | (apply call_pure (kpl) cll cl) | (apply call_pure (khe) cll cl) | (apply call_upd (kp) rfl cll cll cll cl) | (apply call_pure (krf) cll cl) | (apply call_upd (kq) rfl cll cll cll cl) | (apply call_pure (kh) cll cl) | (apply call_pure (kn) cll cl) | (apply call_pure (kh1) cll cl)))))
      exact hJ _ _ _ _ _ (by omega) ⟨i + 1, by omega, rfl, rfl, rfl⟩ (by refine .ren _ _ _ [0, 1, 2, 3, 4, 5] (by decide) (by intro k h; first | exact absurd h (Nat.not_lt_zero k) | (simp at h; done) | (rcases k with _ | _ | _ | k <;> first | rfl | (exfalso; omega) | (simp at h; done))) ?_ ?_ <;> simp [KeepS, KeepH, ArgRel, ArgRelL, argL_cl, arg_cl, row_l_of, row_l_nil, bn_len, blkAt, hR2, hD2, hK2])
    · rw [if_pos hm] at eD eK
      have s1 := jsealO_C k r1 (i + 1) hc1 (.of (imB i)) (by rw [row_l_of]; show 2 ≤ 8184; decide)
      have s2 := rImageO_C k r1 (i + 1) hc1 (by omega) (.of (imB i)) (by rw [row_l_of]; show 2 ≤ 8184; decide)
      rw [row_l_of, show sealF k (i + 1) adI (imB i) = imW k i from rfl] at s1 s2
      have kp1 := place_C r1
      rw [hp1] at kp1
      have kro := room_C r1
      rw [hpt1, w5] at kro
      have im8 := im_len k i
      have hib : imB i = [by8 (i : Int), by8 7] := rfl
      have P2 := put2_C D1 od (1 - i / 8 % 2) (by omega) (imW k i) im8
      have Q2 := rput2_C K1 ok (1 - i / 8 % 2) (by omega) (imW k i) im8
      have kfi := first_C (.of (imW k i)) im8
      have kfo := fold_C r1 (sumF (imW k i))
      rw [row_l_of] at kfi
      rw [hfo] at kfo
      rw [← eD] at P2
      rw [← eK] at Q2
      rw [hib] at s1 s2
      generalize imW k i = im at *
      generalize sumF im = hs at *
      (repeat' (first | simp (maxSteps := 2000000) -implicitDefEqProofs only [A_clavigerlaw10_write_L0, d0, d1, d2, d3, w1, w2, w3, w4, w5, hcnt, hhd, h8, g1, hpt1, fl0, fl1, fl2, len_lst, cells_lst, rk_ext, fk_ext, lrp, lr_api, lr_keep, lr_register, lr, lr2, oO, oN, oG, oNG, oM, oF, oL, rg, ci, seval, resAll, resL, resV, blkAt, undef, fillV, evParts, footOp, wrOp, chk, disj] | split | ((first | apply ck_call | apply cfk_call); (first | (apply call_pure (kx) cll cl) | (apply call_pure (ks) cll cl) | (apply call_pure (kpl) cll cl) | (apply call_pure (khe) cll cl) | (apply call_upd (kp) rfl cll cll cll cl) | (apply call_pure (krf) cll cl) | (apply call_upd (kq) rfl cll cll cll cl) | (apply call_pure (kh) cll cl) | (apply call_pure (kn) cll cl) | (apply call_pure (kh1) cll cl) | (apply call_inT (s1); (simp [ids_nil, ids_cons, ids_sc, ids_agg, ids_dg, ids_bs, ids_row, ids_ints, ids_sref, ids_ref, ids_sl, cRgr_ids, blkAt] <;> fail); (repeat' (first | exact args_n | apply args_c | (first | exact arg_closed _ cl | (refine arg_rowA rfl mem ?_; (first | rfl | omega | (simp [bn_len] <;> fail) | (simp [bn_len]; omega))) | (refine arg_row rfl mem ?_; (first | rfl | omega | (simp [bn_len] <;> fail) | (simp [bn_len]; omega))) | (refine arg_fld mem ?_ ?_; (first | rfl | omega | (simp [bn_len] <;> fail) | (simp [bn_len]; omega)); (simp only [len_lst, cells_lst, rk_ext, fk_ext, lrp, lr_api, lr_keep, lr_register, blkAt, List.getD_cons_zero, List.getD_cons_succ, Option.bind_some, rd_sE] <;> fail))))); (first | exact cl | exact cll); (first | exact nr | exact nrl); (first | exact cl | exact cll); (first | exact nr | exact nrl)) | (apply call_pure (kp1) cll cl) | (apply call_roA_new (s2); (simp [ids_nil, ids_cons, ids_sc, ids_agg, ids_dg, ids_bs, ids_row, ids_ints, ids_sref, ids_ref, ids_sl, cRgr_ids, blkAt] <;> fail); (repeat' (first | exact args_n | apply args_c | (first | exact arg_closed _ cl | (refine arg_rowA rfl mem ?_; (first | rfl | omega | (simp [bn_len] <;> fail) | (simp [bn_len]; omega))) | (refine arg_row rfl mem ?_; (first | rfl | omega | (simp [bn_len] <;> fail) | (simp [bn_len]; omega))) | (refine arg_fld mem ?_ ?_; (first | rfl | omega | (simp [bn_len] <;> fail) | (simp [bn_len]; omega)); (simp only [len_lst, cells_lst, rk_ext, fk_ext, lrp, lr_api, lr_keep, lr_register, blkAt, List.getD_cons_zero, List.getD_cons_succ, Option.bind_some, rd_sE] <;> fail))))); (first | exact cl | exact cll); (first | exact nr | exact nrl)) | (apply call_pure (kro) cll cl)))))
      refine cfk_call _ _ (call_two (i := 0) (j := 9) (r2 := vb true) P2 (by decide) rfl rfl cll cll cll cll (argL_cons (arg_refK 0 0 rfl) (argL_cons (arg_closed _ cl) (argL_cons (arg_srefK 1 0 _ 1 rfl) argL_nil))) mem mem rfl) ?_
      (repeat' (first | simp (maxSteps := 2000000) -implicitDefEqProofs only [w1, w5, hpt1, cRgr_ids, len_lst, cells_lst, rk_ext, fk_ext, lrp, lr_api, lr_keep, lr_register, lr, lr2, oO, oN, oG, oNG, oM, oF, oL, rg, ci, seval, resAll, resL, resV, blkAt, undef, fillV, evParts, footOp, wrOp, chk, disj] | split))
      refine cfk_call _ _ (call_two (i := 1) (j := 9) (r2 := vb true) Q2 (by decide) rfl rfl cll cll cll cll (argL_cons (arg_refK 0 0 rfl) (argL_cons (arg_closed _ cl) (argL_cons (arg_srefK 1 0 _ 1 rfl) argL_nil))) mem mem rfl) ?_
      (repeat' (first | simp (maxSteps := 2000000) -implicitDefEqProofs only [w1, w5, hpt1, cRgr_ids, len_lst, cells_lst, rk_ext, fk_ext, lrp, lr_api, lr_keep, lr_register, lr, lr2, oO, oN, oG, oNG, oM, oF, oL, rg, ci, seval, resAll, resL, resV, blkAt, undef, fillV, evParts, footOp, wrOp, chk, disj] | split | ((first | apply ck_call | apply cfk_call); (first | (apply call_roA (kfi); (simp [ids_nil, ids_cons, ids_sc, ids_agg, ids_dg, ids_bs, ids_row, ids_ints, ids_sref, ids_ref, ids_sl, cRgr_ids, blkAt] <;> fail); (repeat' (first | exact args_n | apply args_c | (first | exact arg_closed _ cl | (refine arg_rowA rfl mem ?_; (first | rfl | omega | (simp [bn_len] <;> fail) | (simp [bn_len]; omega))) | (refine arg_row rfl mem ?_; (first | rfl | omega | (simp [bn_len] <;> fail) | (simp [bn_len]; omega))) | (refine arg_fld mem ?_ ?_; (first | rfl | omega | (simp [bn_len] <;> fail) | (simp [bn_len]; omega)); (simp only [len_lst, cells_lst, rk_ext, fk_ext, lrp, lr_api, lr_keep, lr_register, blkAt, List.getD_cons_zero, List.getD_cons_succ, Option.bind_some, rd_sE] <;> fail))))); (first | exact cl | exact cll); (first | exact nr | exact nrl)) | (apply call_pure (kfo) cll cl)))))
      exact hJ _ _ _ _ _ (by omega) ⟨i + 1, by omega, rfl, rfl, rfl⟩ (by refine .ren _ _ _ [0, 1, 2, 3, 4, 5] (by decide) (by intro k h; first | exact absurd h (Nat.not_lt_zero k) | (simp at h; done) | (rcases k with _ | _ | _ | k <;> first | rfl | (exfalso; omega) | (simp at h; done))) ?_ ?_ <;> simp [KeepS, KeepH, ArgRel, ArgRelL, argL_cl, arg_cl, row_l_of, row_l_nil, bn_len, blkAt, hR2, hD2, hK2])
  · obtain rfl : i = N := by omega
    by_cases d1 : (i : Int) < l.length
    · have d2 : ¬ (i : Int) < t := by omega
      (repeat' (first | simp (maxSteps := 2000000) -implicitDefEqProofs only [A_clavigerlaw10_write_L0, K_clavigerlaw10_write_L0, d0, d1, d2, len_lst, cells_lst, rk_ext, fk_ext, lrp, lr_api, lr_keep, lr_register, lr, lr2, oO, oN, oG, oNG, oM, oF, oL, rg, ci, seval, resAll, resL, resV, blkAt, undef, fillV, evParts, footOp, wrOp, chk, disj] | split))
      exact out_upd3 rfl rfl rfl cll cll cll rfl cl
    · (repeat' (first | simp (maxSteps := 2000000) -implicitDefEqProofs only [A_clavigerlaw10_write_L0, K_clavigerlaw10_write_L0, d0, d1, len_lst, cells_lst, rk_ext, fk_ext, lrp, lr_api, lr_keep, lr_register, lr, lr2, oO, oN, oG, oNG, oM, oF, oL, rg, ci, seval, resAll, resL, resV, blkAt, undef, fillV, evParts, footOp, wrOp, chk, disj] | split))
      exact out_upd3 rfl rfl rfl cll cll cll rfl cl
end Go.Proofs.YtmmaenfjnkoknaaGreat.VA
