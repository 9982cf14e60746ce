/- JournalPast (seat .Z). -/
import Derived.Test.YtmmaenfjnkoknaaGreatUjou
import Derived.Test.YtmmaenfjnkoknaaGreatHjou
import Derived.Test.YtmmaenfjnkoknaaGreatVC
set_option linter.unusedVariables false
set_option linter.unusedSimpArgs false
set_option maxRecDepth 100000
namespace Go.Proofs.YtmmaenfjnkoknaaGreat.VA
open Go
attribute [local irreducible] WK NK XK TK RK FK CK CFK CallRel C
attribute [local irreducible] sealF textF fits sumF heldR rightR frec headF imgR loadF dkW rkW rgW cutF rcW
theorem ldN_agree (k : Bn 16) {d e : Dsk} (b : Nat) (h0 : Bn 16) : ∀ n, (∀ j, j < n → d.now.getD (2 + j) default = e.now.getD (2 + j) default) → ldN k d b h0 n = ldN k e b h0 n
  | 0, _ => rfl
  | n + 1, h => by
    unfold ldN
    rw [ldN_agree k b h0 n (fun j hj => h j (by omega)), h n (by omega)]
theorem baseO_agree (k : Bn 16) {d e : Dsk} (b p : Nat) (h : 0 < b → d.now.getD p default = e.now.getD p default) : baseO k d b p = baseO k e b p := by
  by_cases hb : b = 0
  · subst hb; unfold baseO; rw [if_pos rfl, if_pos rfl]
  · unfold baseO; rw [h (by omega)]
attribute [local irreducible] ldN baseO
theorem loadF_agree (k : Bn 16) {d e : Dsk} (r : Rgr) (b p n : Nat) (h : 0 < b → d.now.getD p default = e.now.getD p default) (h2 : ∀ j, j < n → d.now.getD (2 + j) default = e.now.getD (2 + j) default) : loadF k d r b p n = loadF k e r b p n := by
  unfold loadF
  rw [baseO_agree k b p h]
  split
  · rfl
  · rw [ldN_agree k b _ n h2]
set_option maxHeartbeats 16000000 in
theorem journalPast_C (k : Bn 16) (l : Lst KR) (hl : ∀ x ∈ l.l, x.fine) (bb : Row) : C Tryz.prog 3 [.agg (dg k), lstV cKR l, rowV bb] [] (vb true) [] := by
  have hfine : ∀ i, i < l.l.length → (l.l.getD i default).fine := fun i h => by
    rw [List.getD_eq_getElem?_getD, List.getElem?_eq_getElem h]
    exact hl _ (List.getElem_mem _)
  have kw := write_C k l hl 30 (by decide)
  generalize hN : min l.l.length 30 = N at *
  have hNl : N ≤ l.l.length := by omega
  have hN30 : N ≤ 30 := by omega
  have hD := dkW_fine k l.l hfine N hNl
  have hK := rkW_ok k l.l N
  have hM := mirr_W k l.l N
  obtain ⟨f1, f2, f3⟩ := rgW_f k l.l N
  have hright := inv_right (by omega) (rgW_inv k l.l N)
  have w5 : IntKind.i64.wrap (1 - ((N / 8 % 2 : Nat) : Int)) = ((1 - N / 8 % 2 : Nat) : Int) := by rw [wrap_id _ (by omega) (by omega)]; omega
  have w0 : IntKind.i64.wrap (2 + ((N % 8 : Nat) : Int)) = ((2 + N % 8 : Nat) : Int) := by rw [wrap_id _ (by omega) (by omega)]; omega
  have kh := held_C (rgW k l.l N)
  rw [rgW_held k l.l N (by omega)] at kh
  have kro := room_C (rgW k l.l N)
  rw [f3, w5] at kro
  obtain ⟨img, hld, hil⟩ := load_back k l.l N hNl hfine
  have kr := rload_C k (rkW k l.l N) (mirr_fine hM hD hK) (rgW k l.l N) hright N (8 * (N / 8)) (N / 8 % 2) f1 f2 f3 (by omega)
  rw [← loadF_congr k (e := vwR (rkW k l.l N)) hM.same, hld] at kr
  have hv := loadF_vs hld
  have hlen := loadF_len hld
  have hz : 8 * (N / 8) = 0 → img = .nil := fun e => by rw [e] at hld; exact loadF_0 hld
  have kd : ∀ D' : Dsk, D'.fine → (∀ i, (2 ≤ i ∧ i < 2 + N % 8) ∨ (0 < N / 8 ∧ i = N / 8 % 2) → D'.now.getD i default = (dkW k l.l N).now.getD i default) →
      C Tryz.prog 14 [.agg (dg k), .ref 0 0, .agg (cRgr (rgW k l.l N))] [cDsk D'] (.tup [rowV img, lstV cRec (lsOf (rcW k l.l (8 * (N / 8)) (N % 8))), vi .i64 0]) [some (cDsk D')] := fun D' hf hag => by
    have := load_C k D' hf (rgW k l.l N) hright N (8 * (N / 8)) (N / 8 % 2) f1 f2 f3 (by omega)
    rw [loadF_agree k _ _ _ _ (fun h => hag _ (.inr ⟨by omega, rfl⟩)) (fun j hj => hag _ (.inl ⟨by omega, by omega⟩)), hld] at this
    exact this
  change C _ _ _ _ (.tup [rowV (if 8 * (N / 8) = 0 then .nil else .of img.l), lstV cRec (lsOf (rcW k l.l (8 * (N / 8)) (N % 8))), vi .i64 0]) _ at kr
  have hil : (if 8 * (N / 8) = 0 then Row.nil else .of img.l).l = img.l := by
    split
    · rename_i e; rw [hz e]
    · exact row_l_of _
  clear hld hM hK hfine hl hz
  generalize rcW k l.l (8 * (N / 8)) (N % 8) = X at *
  generalize (if 8 * (N / 8) = 0 then Row.nil else .of img.l) = J1 at *
  generalize dkW k l.l N = D at *
  generalize rkW k l.l N = K at *
  generalize rgW k l.l N = R at *
  have hsr : ∀ j, j < X.length → C Tryz.prog 16 [.agg (cRec (X.getD j default)), .agg (cRec (X.getD j default))] [] (vb true) [] := fun j hj =>
    rrecords_C _ _ (sameR_self _) (by
      have : X.getD j default ∈ X := by rw [List.getD_eq_getElem?_getD, List.getElem?_eq_getElem hj]; exact List.getElem_mem _
      have := hv _ this; omega)
  have hll : (lsOf X).l = X := lsOf_l X
  have hcl : (cutF bb 40).l.length ≤ 40 := by rw [cutF_l, List.length_take]; omega
  have kc := cut_C bb 40
  generalize cutF bb 40 = cb at *
  clear hright hv
  refine C_of mixed Tryz.func3 A_clavigerlaw10_JournalPast_ok A_clavigerlaw10_JournalPast_res _ A_clavigerlaw10_JournalPast_nt ?_
  (repeat' (first | simp (maxSteps := 2000000) -implicitDefEqProofs only [A_clavigerlaw10_JournalPast, len_lst, cells_lst, rk_ext, fk_ext, lrp, lr_api, lr_keep, lr_register, lr, lr2, oO, oN, oG, oNG, oM, oF, oL, rg, ci, seval, resAll, resL, resV, blkAt, undef, fillV, evParts, footOp, wrOp, chk, disj] | split | ((first | apply ck_call | apply cfk_call); (first | (apply call_newP (newD_C) cll cll) | (apply call_newP (newR_C) cll cll)))))
  refine ck_call _ _ (call_two (i := 1) (j := 2) kw (by decide) rfl rfl cll cll cll cll (argL_cons (arg_closed _ cl) (argL_cons (arg_refK 0 0 rfl) (argL_cons (arg_refK 1 0 rfl) (argL_cons (arg_closed _ cl) (argL_cons (arg_closed _ cl) argL_nil))))) mem mem (renV_closed _ _ cl)) ?_
  (repeat' (first | simp (maxSteps := 2000000) -implicitDefEqProofs only [w0, len_lst, cells_lst, rk_ext, fk_ext, lrp, lr_api, lr_keep, lr_register, lr, lr2, oO, oN, oG, oNG, oM, oF, oL, rg, ci, seval, resAll, resL, resV, blkAt, undef, fillV, evParts, footOp, wrOp, chk, disj] | split | ((first | apply ck_call | apply cfk_call); (first | (apply call_pure (kh) cll cl)))))
  refine wk_loop (fun mm S H => ∃ (j : Nat) (D' : Dsk), 2 + N % 8 ≤ j ∧ j ≤ 10 ∧ D'.fine ∧ (∀ i, (2 ≤ i ∧ i < 2 + N % 8) ∨ (0 < N / 8 ∧ i = N / 8 % 2) → D'.now.getD i default = D.now.getD i default) ∧ mm = 10 - j ∧
    S = (.dead :: .dead :: rowV bb :: .ref 0 0 :: .dead :: .dead :: .dead :: .ref 1 0 :: .ref 2 0 :: .ref 3 0 :: .dead :: vi .i64 j :: .dead :: .dead :: .dead :: .dead :: .dead :: .dead :: .dead :: .dead :: .dead :: .dead :: .dead :: .dead :: .dead :: .dead :: .dead :: .dead :: .dead :: .dead :: .dead :: .dead :: .dead :: .dead :: .dead :: .dead :: .dead :: .dead :: .dead :: .dead :: .dead :: .dead :: .dead :: .dead :: .dead :: .dead :: .dead :: .dead :: .dead :: .dead :: .dead :: .dead :: .dead :: .dead :: .dead :: .dead :: .dead :: .dead :: .dead :: .dead :: .dead :: .dead :: .dead :: .dead :: .dead :: .dead :: .dead :: .dead :: .dead :: .dead :: .dead :: .dead :: .dead :: .dead :: .dead :: .dead :: .dead :: .dead :: .dead :: .dead :: .dead :: .dead :: .dead :: .dead :: .dead :: .dead :: .dead :: .dead :: .dead :: .dead :: .dead :: .dead :: .dead :: .dead :: .dead :: .dead :: .dead :: .dead :: .dead :: .dead :: .dead :: .dead :: .dead :: .dead :: .dead :: .dead :: .dead :: .dead :: .dead :: .dead :: .dead :: []) ∧ H = [some (dg k), some (cDsk D'), some (cRsk K), some (cRgr R)]) (10 - (2 + N % 8)) ⟨2 + N % 8, D, Nat.le_refl _, by omega, hD, fun _ _ => rfl, rfl, rfl, rfl⟩ (by refine .ren _ _ _ [0, 1, 2, 3] (by decide) (by intro k h; first | exact absurd h (Nat.not_lt_zero k) | (simp at h; done) | (rcases k with _ | _ | _ | k <;> first | rfl | (exfalso; omega) | (simp at h; done))) ?_ ?_ <;> simp [KeepS, KeepH, ArgRel, ArgRelL, argL_cl, arg_cl, row_l_of, row_l_nil, bn_len, blkAt]) ?_
  rintro mm S H ⟨j, D', hj2, hj, hf, hag, rfl, rfl, rfl⟩ J hJ
  by_cases hin : j < 10
  · have d1 : (j : Int) < 10 := by omega
    have w1 : IntKind.i64.wrap ((j : Int) + 1) = ((j + 1 : Nat) : Int) := by rw [wrap_id _ (by omega) (by omega)]; omega
    have kp := put_C D' hf.1 j hin cb (by omega)
    have hf2 := put_fine hf j cb (by omega)
    have hag2 : ∀ i, (2 ≤ i ∧ i < 2 + N % 8) ∨ (0 < N / 8 ∧ i = N / 8 % 2) → (putD D' j cb).now.getD i default = D.now.getD i default := fun i h => by
      rw [put_ne D' (by omega) cb]; exact hag i h
    generalize putD D' j cb = D2 at *
    (repeat' (first | simp (maxSteps := 2000000) -implicitDefEqProofs only [A_clavigerlaw10_JournalPast_L0, d1, w1, len_lst, cells_lst, rk_ext, fk_ext, lrp, lr_api, lr_keep, lr_register, lr, lr2, oO, oN, oG, oNG, oM, oF, oL, rg, ci, seval, resAll, resL, resV, blkAt, undef, fillV, evParts, footOp, wrOp, chk, disj] | split | ((first | apply ck_call | apply cfk_call); (first | (apply call_pure (kc) cll cl) | (apply call_upd (kp) rfl cll cll cll cl)))))
    exact hJ _ _ _ _ _ (by omega) ⟨j + 1, D2, by omega, by omega, hf2, hag2, rfl, rfl, rfl⟩ (by refine .ren _ _ _ [0, 1, 2, 3] (by decide) (by intro k h; first | exact absurd h (Nat.not_lt_zero k) | (simp at h; done) | (rcases k with _ | _ | _ | k <;> first | rfl | (exfalso; omega) | (simp at h; done))) ?_ ?_ <;> simp [KeepS, KeepH, ArgRel, ArgRelL, argL_cl, arg_cl, row_l_of, row_l_nil, bn_len, blkAt])
  · obtain rfl : j = 10 := by omega
    have d1 : ¬ ((10 : Nat) : Int) < 10 := by omega
    have fin : ∀ (D2 : Dsk) (J : List V → Heap → Prop), True := fun _ _ => trivial
    by_cases hb : 0 < N / 8
    · have c1 : ((8 * (N / 8) : Nat) : Int) > 0 := by omega
      have kp := put_C D' hf.1 (1 - N / 8 % 2) (by omega) cb (by omega)
      have k1 := kd _ (put_fine hf (1 - N / 8 % 2) cb (by omega)) (fun i h => by
        rw [put_ne D' (by omega) cb]; exact hag i h)
      generalize putD D' (1 - N / 8 % 2) cb = D2 at *
      (repeat' (first | simp (maxSteps := 2000000) -implicitDefEqProofs only [A_clavigerlaw10_JournalPast_L0, K_clavigerlaw10_JournalPast_L0, d1, f2, c1, hil, cRgr_ids, len_lst, cells_lst, rk_ext, fk_ext, lrp, lr_api, lr_keep, lr_register, lr, lr2, oO, oN, oG, oNG, oM, oF, oL, rg, ci, seval, resAll, resL, resV, blkAt, undef, fillV, evParts, footOp, wrOp, chk, disj] | split | ((first | apply ck_call | apply cfk_call); (first | (apply call_pure (kc) cll cl) | (apply call_pure (kro) cll cl) | (apply call_upd (kp) rfl cll cll cll cl) | (apply call_oneP (id := 1) (k1) rfl cll cll cl; (repeat' (first | exact args_n | apply args_c | exact arg_ref0 _ _ | exact arg_closed _ cl)); exact mem) | (apply call_oneP (id := 2) (kr) rfl cll cll cl; (repeat' (first | exact args_n | apply args_c | exact arg_ref0 _ _ | exact arg_closed _ cl)); exact mem)))))
      refine wk_loop (fun mm S H => ∃ j : Nat, j ≤ X.length ∧ mm = X.length - j ∧ S = (.dead :: .dead :: .dead :: .dead :: .dead :: .dead :: .dead :: .dead :: .dead :: .dead :: .dead :: .dead :: .dead :: lstV cRec (lsOf X) :: .dead :: .dead :: lstV cRec (lsOf X) :: .dead :: vi .i64 j :: .dead :: .dead :: .dead :: .dead :: .dead :: .dead :: .dead :: .dead :: .dead :: .dead :: .dead :: .dead :: .dead :: .dead :: .dead :: .dead :: .dead :: .dead :: .dead :: .dead :: .dead :: .dead :: .dead :: .dead :: .dead :: .dead :: .dead :: .dead :: .dead :: .dead :: .dead :: .dead :: .dead :: .dead :: .dead :: .dead :: .dead :: .dead :: .dead :: .dead :: .dead :: .dead :: .dead :: .dead :: .dead :: .dead :: .dead :: .dead :: .dead :: .dead :: .dead :: .dead :: .dead :: .dead :: .dead :: .dead :: .dead :: .dead :: .dead :: .dead :: .dead :: .dead :: .dead :: .dead :: .dead :: .dead :: .dead :: .dead :: .dead :: .dead :: .dead :: .dead :: .dead :: .dead :: .dead :: .dead :: .dead :: .dead :: .dead :: .dead :: .dead :: .dead :: .dead :: .dead :: .dead :: .dead :: .dead :: .dead :: .dead :: .dead :: .dead :: .dead :: []) ∧ H = []) X.length ⟨0, Nat.zero_le _, rfl, rfl, rfl⟩ (by refine .ren _ _ _ [] (by decide) (by intro k h; first | exact absurd h (Nat.not_lt_zero k) | (simp at h; done) | (rcases k with _ | _ | _ | k <;> first | rfl | (exfalso; omega) | (simp at h; done))) ?_ ?_ <;> simp [KeepS, KeepH, ArgRel, ArgRelL, argL_cl, arg_cl, row_l_of, row_l_nil, bn_len, blkAt]) ?_
      rintro mm S H ⟨j, hj, rfl, rfl, rfl⟩ J' hJ
      have d0 : (0 : Int) ≤ j := by omega
      by_cases hin : j < X.length
      · have d1 : (j : Int) < X.length := by omega
        have w1 : IntKind.i64.wrap ((j : Int) + 1) = ((j + 1 : Nat) : Int) := by rw [wrap_id _ (by omega) (by omega)]; omega
        have g1 := rd_flat cRec_len X j hin
        have kr := hsr j hin
        generalize X.getD j default = x at *
        (repeat' (first | simp (maxSteps := 2000000) -implicitDefEqProofs only [A_clavigerlaw10_JournalPast_L1, d0, d1, w1, g1, hll, idx_lst cRec_len, len_lst, cells_lst, rk_ext, fk_ext, lrp, lr_api, lr_keep, lr_register, lr, lr2, oO, oN, oG, oNG, oM, oF, oL, rg, ci, seval, resAll, resL, resV, blkAt, undef, fillV, evParts, footOp, wrOp, chk, disj] | split | ((first | apply ck_call | apply cfk_call); (first | (apply call_pure (kr) cll cl)))))
        exact hJ _ _ _ _ _ (by omega) ⟨j + 1, by omega, rfl, rfl, rfl⟩ (by refine .ren _ _ _ [] (by decide) (by intro k h; first | exact absurd h (Nat.not_lt_zero k) | (simp at h; done) | (rcases k with _ | _ | _ | k <;> first | rfl | (exfalso; omega) | (simp at h; done))) ?_ ?_ <;> simp [KeepS, KeepH, ArgRel, ArgRelL, argL_cl, arg_cl, row_l_of, row_l_nil, bn_len, blkAt])
      · obtain rfl : j = X.length := by omega
        have d1 : ¬ (X.length : Int) < X.length := by omega
        (repeat' (first | simp (maxSteps := 2000000) -implicitDefEqProofs only [A_clavigerlaw10_JournalPast_L1, K_clavigerlaw10_JournalPast_L1, d0, d1, hll, len_lst, cells_lst, rk_ext, fk_ext, lrp, lr_api, lr_keep, lr_register, lr, lr2, oO, oN, oG, oNG, oM, oF, oL, rg, ci, seval, resAll, resL, resV, blkAt, undef, fillV, evParts, footOp, wrOp, chk, disj] | split | ((first | apply ck_call | apply cfk_call); (first | (apply call_pure (known10_C) cll cl)))))
        exact out_eq rfl cl
    · have c1 : ¬ ((8 * (N / 8) : Nat) : Int) > 0 := by omega
      have k1 := kd _ hf hag
      (repeat' (first | simp (maxSteps := 2000000) -implicitDefEqProofs only [A_clavigerlaw10_JournalPast_L0, K_clavigerlaw10_JournalPast_L0, d1, f2, c1, hil, cRgr_ids, len_lst, cells_lst, rk_ext, fk_ext, lrp, lr_api, lr_keep, lr_register, lr, lr2, oO, oN, oG, oNG, oM, oF, oL, rg, ci, seval, resAll, resL, resV, blkAt, undef, fillV, evParts, footOp, wrOp, chk, disj] | split | ((first | apply ck_call | apply cfk_call); (first | (apply call_oneP (id := 1) (k1) rfl cll cll cl; (repeat' (first | exact args_n | apply args_c | exact arg_ref0 _ _ | exact arg_closed _ cl)); exact mem) | (apply call_oneP (id := 2) (kr) rfl cll cll cl; (repeat' (first | exact args_n | apply args_c | exact arg_ref0 _ _ | exact arg_closed _ cl)); exact mem)))))
      refine wk_loop (fun mm S H => ∃ j : Nat, j ≤ X.length ∧ mm = X.length - j ∧ S = (.dead :: .dead :: .dead :: .dead :: .dead :: .dead :: .dead :: .dead :: .dead :: .dead :: .dead :: .dead :: .dead :: lstV cRec (lsOf X) :: .dead :: .dead :: lstV cRec (lsOf X) :: .dead :: vi .i64 j :: .dead :: .dead :: .dead :: .dead :: .dead :: .dead :: .dead :: .dead :: .dead :: .dead :: .dead :: .dead :: .dead :: .dead :: .dead :: .dead :: .dead :: .dead :: .dead :: .dead :: .dead :: .dead :: .dead :: .dead :: .dead :: .dead :: .dead :: .dead :: .dead :: .dead :: .dead :: .dead :: .dead :: .dead :: .dead :: .dead :: .dead :: .dead :: .dead :: .dead :: .dead :: .dead :: .dead :: .dead :: .dead :: .dead :: .dead :: .dead :: .dead :: .dead :: .dead :: .dead :: .dead :: .dead :: .dead :: .dead :: .dead :: .dead :: .dead :: .dead :: .dead :: .dead :: .dead :: .dead :: .dead :: .dead :: .dead :: .dead :: .dead :: .dead :: .dead :: .dead :: .dead :: .dead :: .dead :: .dead :: .dead :: .dead :: .dead :: .dead :: .dead :: .dead :: .dead :: .dead :: .dead :: .dead :: .dead :: .dead :: .dead :: .dead :: .dead :: .dead :: []) ∧ H = []) X.length ⟨0, Nat.zero_le _, rfl, rfl, rfl⟩ (by refine .ren _ _ _ [] (by decide) (by intro k h; first | exact absurd h (Nat.not_lt_zero k) | (simp at h; done) | (rcases k with _ | _ | _ | k <;> first | rfl | (exfalso; omega) | (simp at h; done))) ?_ ?_ <;> simp [KeepS, KeepH, ArgRel, ArgRelL, argL_cl, arg_cl, row_l_of, row_l_nil, bn_len, blkAt]) ?_
      rintro mm S H ⟨j, hj, rfl, rfl, rfl⟩ J' hJ
      have d0 : (0 : Int) ≤ j := by omega
      by_cases hin : j < X.length
      · have d1 : (j : Int) < X.length := by omega
        have w1 : IntKind.i64.wrap ((j : Int) + 1) = ((j + 1 : Nat) : Int) := by rw [wrap_id _ (by omega) (by omega)]; omega
        have g1 := rd_flat cRec_len X j hin
        have kr := hsr j hin
        generalize X.getD j default = x at *
        (repeat' (first | simp (maxSteps := 2000000) -implicitDefEqProofs only [A_clavigerlaw10_JournalPast_L1, d0, d1, w1, g1, hll, idx_lst cRec_len, len_lst, cells_lst, rk_ext, fk_ext, lrp, lr_api, lr_keep, lr_register, lr, lr2, oO, oN, oG, oNG, oM, oF, oL, rg, ci, seval, resAll, resL, resV, blkAt, undef, fillV, evParts, footOp, wrOp, chk, disj] | split | ((first | apply ck_call | apply cfk_call); (first | (apply call_pure (kr) cll cl)))))
        exact hJ _ _ _ _ _ (by omega) ⟨j + 1, by omega, rfl, rfl, rfl⟩ (by refine .ren _ _ _ [] (by decide) (by intro k h; first | exact absurd h (Nat.not_lt_zero k) | (simp at h; done) | (rcases k with _ | _ | _ | k <;> first | rfl | (exfalso; omega) | (simp at h; done))) ?_ ?_ <;> simp [KeepS, KeepH, ArgRel, ArgRelL, argL_cl, arg_cl, row_l_of, row_l_nil, bn_len, blkAt])
      · obtain rfl : j = X.length := by omega
        have d1 : ¬ (X.length : Int) < X.length := by omega
        (repeat' (first | simp (maxSteps := 2000000) -implicitDefEqProofs only [A_clavigerlaw10_JournalPast_L1, K_clavigerlaw10_JournalPast_L1, d0, d1, hll, len_lst, cells_lst, rk_ext, fk_ext, lrp, lr_api, lr_keep, lr_register, lr, lr2, oO, oN, oG, oNG, oM, oF, oL, rg, ci, seval, resAll, resL, resV, blkAt, undef, fillV, evParts, footOp, wrOp, chk, disj] | split | ((first | apply ck_call | apply cfk_call); (first | (apply call_pure (known10_C) cll cl)))))
        exact out_eq rfl cl
end Go.Proofs.YtmmaenfjnkoknaaGreat.VA
