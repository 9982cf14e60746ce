/- Journals: the chapter's own runs, JournalBack. -/
import Derived.Test.YtmmaenfjnkoknaaPjou
import Derived.Test.YtmmaenfjnkoknaaVC
set_option linter.unusedVariables false
set_option linter.unusedSimpArgs false
set_option maxRecDepth 100000
namespace Go.Proofs.Ytmmaenfjnkoknaa.VA
open Go
attribute [local irreducible] WK NK XK TK RK FK CK CFK CallRel C
attribute [local irreducible] sealF textF fits sumF rightR frec headF imgR frameF keepR putR RightR heldR placeR dkW rkW rgW loadF
theorem loadNil_C (k : Bn 16) (r : Rgr) : C Try.prog 68 [.agg (dg k), .sc (.pointer none), .agg (cRgr r)] [] (.tup [vnil, vnil, vi .i64 1]) [] := by
  refine C_of mixed Try.func68 A_journal_Load_ok A_journal_Load_res _ A_journal_Load_nt ?_
  (repeat' (first | simp (maxSteps := 2000000) -implicitDefEqProofs only [A_journal_Load, Int.reduceBNe, Int.reduceBEq, len_lst, cells_lst, rk_ext, fk_ext, lrp, lr_api, lr_keep, zRgr_sc, cRgr_len, rd_Rgr_boot, rd_Rgr_count, rd_Rgr_base, rd_Rgr_head, rd_Rgr_point, rd_Rgr, sp_Rgr_boot, sp_Rgr_count, sp_Rgr_base, sp_Rgr_head, sp_Rgr_point, sp_Rgr, eq_Rgr, lr, lr2, oO, oN, oG, oNG, oM, oF, oL, rg, ci, Nat.reduceEqDiff, Nat.reduceAdd, Nat.reduceSub, Int.reduceTDiv, Int.reduceTMod, ge_iff_le, Int.reduceGE, Nat.reducePow, Int.reduceEq, Int.reduceNeg, Int.reduceLE, Int.reducePow, Int.reduceLT, Int.reduceSub, Int.reduceAdd, Int.reduceMul, Int.reduceToNat, Option.map_some, ↓reduceIte, ite_not, beq_iff_eq, bne_iff_ne, ne_eq, beq_self_eq_true, beq_eq_false_iff_ne, bne_eq_false_iff_eq, resAll, resL, resV, reduceCtorEq, Option.some.injEq, exists_eq_left', blkAt, Nat.reduceLeDiff, Nat.reduceMul, eq_self, Nat.reduceLT, undef, fillV, evParts, footOp, wrOp, chk, disj, Nat.reduceBEq] | split))
  exact out_eq rfl cl
theorem right_z : rightR Rgr.zero = true := by with_unfolding_all decide
theorem right_1 : rightR { Rgr.zero with count := 1 } = true := by with_unfolding_all decide
theorem load_z (k : Bn 16) : loadF k Dsk.zero Rgr.zero 0 0 (0 - 0) = some (.nil, []) := by
  unfold loadF baseO
  rw [if_pos rfl]
  simp only [ldN]
  exact if_pos rfl
theorem load_1 (k : Bn 16) : loadF k Dsk.zero { Rgr.zero with count := 1 } 0 0 (1 - 0) = none := by
  unfold loadF baseO
  rw [if_pos rfl]
  have h : ldN k Dsk.zero 0 (Bn.zero 16) (1 - 0) = none := ldN_F (i := 0) rfl (fun h => by cases h.1)
  simp only [h]
theorem place_z : placeR Rgr.zero = 2 := by with_unfolding_all decide
set_option maxHeartbeats 8000000 in
theorem known10_C : C Try.prog 70 [] [] (vb true) [] := by
  have e1 := load_C ((Bn.zero 16).set 0 (by8 1)) Dsk.zero zero_fine Rgr.zero right_z 0 0 0 rfl rfl rfl (by decide)
  rw [load_z] at e1
  have e2 := load_C ((Bn.zero 16).set 0 (by8 1)) Dsk.zero zero_fine { Rgr.zero with count := 1 } right_1 1 0 0 rfl rfl rfl (by decide)
  rw [load_1] at e2
  change C _ _ _ _ (.tup [vnil, vnil, vi .i64 0]) _ at e1
  change C _ _ _ _ (.tup [vnil, vnil, vi .i64 30]) _ at e2
  have e3 := loadNil_C ((Bn.zero 16).set 0 (by8 1)) Rgr.zero
  have e4 := place_C Rgr.zero
  rw [place_z] at e4
  have e5 := room_C Rgr.zero
  refine C_of mixed Try.func70 A_clavigerlaw10_known_ok A_clavigerlaw10_known_res _ A_clavigerlaw10_known_nt ?_
  (repeat' (first | simp (maxSteps := 2000000) -implicitDefEqProofs only [A_clavigerlaw10_known, Int.reduceBNe, Int.reduceBEq, len_lst, cells_lst, rk_ext, fk_ext, lrp, lr_api, lr_keep, zRgr_sc, cRgr_len, rd_Rgr_boot, rd_Rgr_count, rd_Rgr_base, rd_Rgr_head, rd_Rgr_point, rd_Rgr, sp_Rgr_boot, sp_Rgr_count, sp_Rgr_base, sp_Rgr_head, sp_Rgr_point, sp_Rgr, eq_Rgr, lr, lr2, oO, oN, oG, oNG, oM, oF, oL, rg, ci, Nat.reduceEqDiff, Nat.reduceAdd, Nat.reduceSub, Int.reduceTDiv, Int.reduceTMod, ge_iff_le, Int.reduceGE, Nat.reducePow, Int.reduceEq, Int.reduceNeg, Int.reduceLE, Int.reducePow, Int.reduceLT, Int.reduceSub, Int.reduceAdd, Int.reduceMul, Int.reduceToNat, Option.map_some, ↓reduceIte, ite_not, beq_iff_eq, bne_iff_ne, ne_eq, beq_self_eq_true, beq_eq_false_iff_ne, bne_eq_false_iff_eq, resAll, resL, resV, reduceCtorEq, Option.some.injEq, exists_eq_left', blkAt, Nat.reduceLeDiff, Nat.reduceMul, eq_self, Nat.reduceLT, undef, fillV, evParts, footOp, wrOp, chk, disj, Nat.reduceBEq] | split | ((first | apply ck_call | apply cfk_call); (first | (apply call_newP (newD_C) cll cll) | (apply call_oneP (id := 0) (e1) rfl cll cll cl; (repeat' (first | exact args_n | apply args_c | exact arg_ref0 _ _ | exact arg_closed _ cl)); exact mem) | (apply call_oneP (id := 0) (e2) rfl cll cll cl; (repeat' (first | exact args_n | apply args_c | exact arg_ref0 _ _ | exact arg_closed _ cl)); exact mem) | (apply call_pure (e3) cll cl) | (apply call_pure (e4) cll cl) | (apply call_pure (e5) cll cl)))))
  refine out_eq ?_ cl
  have : IntKind.i64.wrap (1 - Rgr.zero.point) = 1 := by with_unfolding_all decide
  rw [this]; rfl
set_option maxHeartbeats 16000000 in
theorem journalBack_C (k : Bn 16) (l : Lst KR) (hl : ∀ x ∈ l.l, x.fine) : C Try.prog 15 [.agg (dg k), lstV cKR l] [] (vb true) [] := by
  have hfine : ∀ i, i < l.l.length → (l.l.getD i default).fine := fun i h => by
    rw [List.getD_eq_getElem?_getD, List.getElem?_eq_getElem h]
    exact hl _ (List.getElem_mem _)
  have kw := write_C k l hl
  generalize hN : min l.l.length 30 = N at *
  have hNl : N ≤ l.l.length := by omega
  have kd := load_C k (dkW k l.l N) (dkW_fine k l.l hfine N hNl) (rgW k l.l N) (inv_right (by omega) (rgW_inv k l.l N)) N (8 * (N / 8)) (N / 8 % 2) (rgW_f k l.l N).1 (rgW_f k l.l N).2.1 (rgW_f k l.l N).2.2 (by omega)
  obtain ⟨img, hld, hil⟩ := load_back k l.l N hNl hfine
  rw [hld] at kd
  change C _ _ _ _ (.tup [rowV img, lstV cRec (lsOf (rcW k l.l (8 * (N / 8)) (N % 8))), vi .i64 0]) _ at kd
  have hrl : (lsOf (rcW k l.l (8 * (N / 8)) (N % 8))).l.length = N % 8 := by rw [lsOf_l, rcW_len]
  have hat : ∀ i, i < N % 8 → sameR ((lsOf (rcW k l.l (8 * (N / 8)) (N % 8))).l.getD i default) (keepR (l.l.getD (8 * (N / 8) + i) default)) ∧ ((lsOf (rcW k l.l (8 * (N / 8)) (N % 8))).l.getD i default).vaults.l.length ≤ 5 := fun i hi => by
    rw [lsOf_l, rcW_at _ _ _ _ _ hi]
    have kr := keepR_right (l.l.getD (8 * (N / 8) + i) default) (hfine _ (by omega))
    obtain ⟨_, hs⟩ := frame_back k (8 * (N / 8) + i + 1) (hdW k l.l (8 * (N / 8) + i)) (keepR (l.l.getD (8 * (N / 8) + i) default)) kr.1 kr.2.1
    exact ⟨hs, frec_le _ _ _⟩
  clear hld
  generalize lsOf (rcW k l.l (8 * (N / 8)) (N % 8)) = L at *
  have hmin : min (l.l.length : Int) 30 = (N : Int) := by omega
  have hrem : evBin .rem (.sc (.int .i64 (N : Int))) (.sc (.int .i64 8)) = some (.sc (.int .i64 ((N % 8 : Nat) : Int))) := by
    rw [bin_rem _ _ _ (by decide), Int.tmod_eq_emod_of_nonneg (by omega)]; congr 4
  generalize dkW k l.l N = D at *
  generalize rkW k l.l N = K at *
  generalize rgW k l.l N = R at *
  refine C_of mixed Try.func15 A_clavigerlaw10_JournalBack_ok A_clavigerlaw10_JournalBack_res _ A_clavigerlaw10_JournalBack_nt ?_
  (repeat' (first | simp (maxSteps := 2000000) -implicitDefEqProofs only [A_clavigerlaw10_JournalBack, Int.reduceBNe, Int.reduceBEq, len_lst, cells_lst, rk_ext, fk_ext, lrp, lr_api, lr_keep, zRgr_sc, cRgr_len, rd_Rgr_boot, rd_Rgr_count, rd_Rgr_base, rd_Rgr_head, rd_Rgr_point, rd_Rgr, sp_Rgr_boot, sp_Rgr_count, sp_Rgr_base, sp_Rgr_head, sp_Rgr_point, sp_Rgr, eq_Rgr, lr, lr2, oO, oN, oG, oNG, oM, oF, oL, rg, ci, Nat.reduceEqDiff, Nat.reduceAdd, Nat.reduceSub, Int.reduceTDiv, Int.reduceTMod, ge_iff_le, Int.reduceGE, Nat.reducePow, Int.reduceEq, Int.reduceNeg, Int.reduceLE, Int.reducePow, Int.reduceLT, Int.reduceSub, Int.reduceAdd, Int.reduceMul, Int.reduceToNat, Option.map_some, ↓reduceIte, ite_not, beq_iff_eq, bne_iff_ne, ne_eq, beq_self_eq_true, beq_eq_false_iff_ne, bne_eq_false_iff_eq, resAll, resL, resV, reduceCtorEq, Option.some.injEq, exists_eq_left', blkAt, Nat.reduceLeDiff, Nat.reduceMul, eq_self, Nat.reduceLT, undef, fillV, evParts, footOp, wrOp, chk, disj, Nat.reduceBEq] | split | ((first | apply ck_call | apply cfk_call); (first | (apply call_newP (newD_C) cll cll) | (apply call_newP (newR_C) cll cll)))))
  refine ck_call _ _ (call_two (i := 1) (j := 2) kw (by decide) rfl rfl cll cll cll cll (argL_cons (arg_closed _ cl) (argL_cons (arg_refK 0 0 rfl) (argL_cons (arg_refK 1 0 rfl) (argL_cons (arg_closed _ cl) (argL_cons (arg_closed _ cl) argL_nil))))) mem mem (renV_closed _ _ cl)) ?_
  suffices hrest : ∀ (S0 : List V) (H0 : Heap), Weak 0 ⟨S0, H0⟩ ⟨(.dead :: lstV cKR l :: .dead :: .dead :: .dead :: .dead :: .dead :: .dead :: .dead :: .dead :: lstV cRec L :: .dead :: vi .i64 N :: vi .i64 0 :: .dead :: .dead :: .dead :: .dead :: .dead :: .dead :: .dead :: .dead :: .dead :: .dead :: .dead :: .dead :: .dead :: .dead :: .dead :: .dead :: .dead :: .dead :: .dead :: .dead :: .dead :: .dead :: .dead :: .dead :: .dead :: .dead :: .dead :: .dead :: .dead :: .dead :: .dead :: .dead :: .dead :: .dead :: .dead :: .dead :: .dead :: .dead :: .dead :: .dead :: .dead :: .dead :: .dead :: .dead :: .dead :: .dead :: .dead :: .dead :: .dead :: .dead :: .dead :: .dead :: .dead :: .dead :: .dead :: .dead :: .dead :: .dead :: .dead :: .dead :: .dead :: .dead :: .dead :: .dead :: .dead :: .dead :: .dead :: []), []⟩ →
      WK Try.prog 0 (Post [.tmp 4] 0 (vb true) []) (.loop A_clavigerlaw10_JournalBack_L0) K_clavigerlaw10_JournalBack_L0 S0 H0 by
    by_cases h8 : 8 ≤ N
    · have c1 : (N : Int) ≥ 8 := by omega
      have c2 : (8 : Int) ≤ N := by omega
      have c5 : (2 : Int) > 0 := by decide
      rw [if_pos h8] at hil
      (repeat' (first | simp (maxSteps := 2000000) -implicitDefEqProofs only [hmin, hrem, hrl, hil, c1, c2, c5, Int.reduceBNe, Int.reduceBEq, len_lst, cells_lst, rk_ext, fk_ext, lrp, lr_api, lr_keep, zRgr_sc, cRgr_len, rd_Rgr_boot, rd_Rgr_count, rd_Rgr_base, rd_Rgr_head, rd_Rgr_point, rd_Rgr, sp_Rgr_boot, sp_Rgr_count, sp_Rgr_base, sp_Rgr_head, sp_Rgr_point, sp_Rgr, eq_Rgr, lr, lr2, oO, oN, oG, oNG, oM, oF, oL, rg, ci, Nat.reduceEqDiff, Nat.reduceAdd, Nat.reduceSub, Int.reduceTDiv, Int.reduceTMod, ge_iff_le, Int.reduceGE, Nat.reducePow, Int.reduceEq, Int.reduceNeg, Int.reduceLE, Int.reducePow, Int.reduceLT, Int.reduceSub, Int.reduceAdd, Int.reduceMul, Int.reduceToNat, Option.map_some, ↓reduceIte, ite_not, beq_iff_eq, bne_iff_ne, ne_eq, beq_self_eq_true, beq_eq_false_iff_ne, bne_eq_false_iff_eq, resAll, resL, resV, reduceCtorEq, Option.some.injEq, exists_eq_left', blkAt, Nat.reduceLeDiff, Nat.reduceMul, eq_self, Nat.reduceLT, undef, fillV, evParts, footOp, wrOp, chk, disj, Nat.reduceBEq] | split | ((first | apply ck_call | apply cfk_call); (first | (apply call_oneP (id := 1) (kd) rfl cll cll cl; (repeat' (first | exact args_n | apply args_c | exact arg_ref0 _ _ | exact arg_closed _ cl)); exact mem)))))
      exact hrest _ _ (by refine .ren _ _ _ [] (by decide) (by intro k h; first | exact absurd h (Nat.not_lt_zero k) | (simp at h; done) | (rcases k with _ | _ | _ | k <;> first | rfl | (exfalso; omega) | (simp at h; done))) ?_ ?_ <;> simp [KeepS, KeepH, ArgRel, ArgRelL, argL_cl, arg_cl, row_l_of, row_l_nil, bn_len, blkAt])
    · have c1 : ¬ (N : Int) ≥ 8 := by omega
      have c2 : ¬ (8 : Int) ≤ N := by omega
      have c5 : ¬ (0 : Int) > 0 := by decide
      rw [if_neg h8] at hil
      (repeat' (first | simp (maxSteps := 2000000) -implicitDefEqProofs only [hmin, hrem, hrl, hil, c1, c2, c5, Int.reduceBNe, Int.reduceBEq, len_lst, cells_lst, rk_ext, fk_ext, lrp, lr_api, lr_keep, zRgr_sc, cRgr_len, rd_Rgr_boot, rd_Rgr_count, rd_Rgr_base, rd_Rgr_head, rd_Rgr_point, rd_Rgr, sp_Rgr_boot, sp_Rgr_count, sp_Rgr_base, sp_Rgr_head, sp_Rgr_point, sp_Rgr, eq_Rgr, lr, lr2, oO, oN, oG, oNG, oM, oF, oL, rg, ci, Nat.reduceEqDiff, Nat.reduceAdd, Nat.reduceSub, Int.reduceTDiv, Int.reduceTMod, ge_iff_le, Int.reduceGE, Nat.reducePow, Int.reduceEq, Int.reduceNeg, Int.reduceLE, Int.reducePow, Int.reduceLT, Int.reduceSub, Int.reduceAdd, Int.reduceMul, Int.reduceToNat, Option.map_some, ↓reduceIte, ite_not, beq_iff_eq, bne_iff_ne, ne_eq, beq_self_eq_true, beq_eq_false_iff_ne, bne_eq_false_iff_eq, resAll, resL, resV, reduceCtorEq, Option.some.injEq, exists_eq_left', blkAt, Nat.reduceLeDiff, Nat.reduceMul, eq_self, Nat.reduceLT, undef, fillV, evParts, footOp, wrOp, chk, disj, Nat.reduceBEq] | split | ((first | apply ck_call | apply cfk_call); (first | (apply call_oneP (id := 1) (kd) rfl cll cll cl; (repeat' (first | exact args_n | apply args_c | exact arg_ref0 _ _ | exact arg_closed _ cl)); exact mem)))))
      exact hrest _ _ (by refine .ren _ _ _ [] (by decide) (by intro k h; first | exact absurd h (Nat.not_lt_zero k) | (simp at h; done) | (rcases k with _ | _ | _ | k <;> first | rfl | (exfalso; omega) | (simp at h; done))) ?_ ?_ <;> simp [KeepS, KeepH, ArgRel, ArgRelL, argL_cl, arg_cl, row_l_of, row_l_nil, bn_len, blkAt])
  intro S0 H0 hw
  refine wk_loop (fun m S H => ∃ i : Nat, i ≤ N % 8 ∧ m = N % 8 - i ∧ S = (.dead :: lstV cKR l :: .dead :: .dead :: .dead :: .dead :: .dead :: .dead :: .dead :: .dead :: lstV cRec L :: .dead :: vi .i64 N :: vi .i64 i :: .dead :: .dead :: .dead :: .dead :: .dead :: .dead :: .dead :: .dead :: .dead :: .dead :: .dead :: .dead :: .dead :: .dead :: .dead :: .dead :: .dead :: .dead :: .dead :: .dead :: .dead :: .dead :: .dead :: .dead :: .dead :: .dead :: .dead :: .dead :: .dead :: .dead :: .dead :: .dead :: .dead :: .dead :: .dead :: .dead :: .dead :: .dead :: .dead :: .dead :: .dead :: .dead :: .dead :: .dead :: .dead :: .dead :: .dead :: .dead :: .dead :: .dead :: .dead :: .dead :: .dead :: .dead :: .dead :: .dead :: .dead :: .dead :: .dead :: .dead :: .dead :: .dead :: .dead :: .dead :: .dead :: .dead :: .dead :: []) ∧ H = []) (N % 8) ⟨0, Nat.zero_le _, rfl, rfl, rfl⟩ hw ?_
  rintro m S H ⟨i, hi, rfl, rfl, rfl⟩ J hJ
  have d0 : (0 : Int) ≤ i := by omega
  by_cases hin : i < N % 8
  · have d1 : (i : Int) < ((N % 8 : Nat) : Int) := by omega
    have w1 : IntKind.i64.wrap ((i : Int) + 1) = ((i + 1 : Nat) : Int) := by rw [wrap_id _ (by omega) (by omega)]; omega
    have w2 : IntKind.i64.wrap ((N : Int) - ((N % 8 : Nat) : Int)) = ((8 * (N / 8) : Nat) : Int) := by rw [wrap_id _ (by omega) (by omega)]; omega
    have w3 : IntKind.i64.wrap (((8 * (N / 8) : Nat) : Int) + i) = ((8 * (N / 8) + i : Nat) : Int) := by rw [wrap_id _ (by omega) (by omega)]; omega
    have d2 : (0 : Int) ≤ ((8 * (N / 8) + i : Nat) : Int) := by omega
    have d3 : ((8 * (N / 8) + i : Nat) : Int) < l.l.length := by omega
    have g1 := rd_flat cRec_len L.l i (by omega)
    have g2 := rd_flat cKR_len l.l (8 * (N / 8) + i) (by omega)
    obtain ⟨hs, hv⟩ := hat i hin
    have kx := keepR_C (l.l.getD (8 * (N / 8) + i) default) (hfine _ (by omega))
    have kc := rrecords_C _ _ hs (by omega)
    generalize L.l.getD i default = y at *
    generalize keepR (l.l.getD (8 * (N / 8) + i) default) = x at *
    generalize l.l.getD (8 * (N / 8) + i) default = z at *
    (repeat' (first | simp (maxSteps := 2000000) -implicitDefEqProofs only [A_clavigerlaw10_JournalBack_L0, d0, d1, d2, d3, w1, w2, w3, g1, g2, hrl, idx_lst cRec_len, idx_lst cKR_len, Int.reduceBNe, Int.reduceBEq, len_lst, cells_lst, rk_ext, fk_ext, lrp, lr_api, lr_keep, zRgr_sc, cRgr_len, rd_Rgr_boot, rd_Rgr_count, rd_Rgr_base, rd_Rgr_head, rd_Rgr_point, rd_Rgr, sp_Rgr_boot, sp_Rgr_count, sp_Rgr_base, sp_Rgr_head, sp_Rgr_point, sp_Rgr, eq_Rgr, lr, lr2, oO, oN, oG, oNG, oM, oF, oL, rg, ci, Nat.reduceEqDiff, Nat.reduceAdd, Nat.reduceSub, Int.reduceTDiv, Int.reduceTMod, ge_iff_le, Int.reduceGE, Nat.reducePow, Int.reduceEq, Int.reduceNeg, Int.reduceLE, Int.reducePow, Int.reduceLT, Int.reduceSub, Int.reduceAdd, Int.reduceMul, Int.reduceToNat, Option.map_some, ↓reduceIte, ite_not, beq_iff_eq, bne_iff_ne, ne_eq, beq_self_eq_true, beq_eq_false_iff_ne, bne_eq_false_iff_eq, resAll, resL, resV, reduceCtorEq, Option.some.injEq, exists_eq_left', blkAt, Nat.reduceLeDiff, Nat.reduceMul, eq_self, Nat.reduceLT, undef, fillV, evParts, footOp, wrOp, chk, disj, Nat.reduceBEq] | split | ((first | apply ck_call | apply cfk_call); (first | (apply call_pure (kx) cll cl) | (apply call_pure (kc) cll cl)))))
    exact hJ _ _ _ _ _ (by omega) ⟨i + 1, by omega, rfl, rfl, rfl⟩ (by refine .ren _ _ _ [] (by decide) (by intro k h; first | exact absurd h (Nat.not_lt_zero k) | (simp at h; done) | (rcases k with _ | _ | _ | k <;> first | rfl | (exfalso; omega) | (simp at h; done))) ?_ ?_ <;> simp [KeepS, KeepH, ArgRel, ArgRelL, argL_cl, arg_cl, row_l_of, row_l_nil, bn_len, blkAt])
  · obtain rfl : i = N % 8 := by omega
    have d1 : ¬ ((N % 8 : Nat) : Int) < ((N % 8 : Nat) : Int) := by omega
    (repeat' (first | simp (maxSteps := 2000000) -implicitDefEqProofs only [A_clavigerlaw10_JournalBack_L0, K_clavigerlaw10_JournalBack_L0, d0, d1, hrl, Int.reduceBNe, Int.reduceBEq, len_lst, cells_lst, rk_ext, fk_ext, lrp, lr_api, lr_keep, zRgr_sc, cRgr_len, rd_Rgr_boot, rd_Rgr_count, rd_Rgr_base, rd_Rgr_head, rd_Rgr_point, rd_Rgr, sp_Rgr_boot, sp_Rgr_count, sp_Rgr_base, sp_Rgr_head, sp_Rgr_point, sp_Rgr, eq_Rgr, lr, lr2, oO, oN, oG, oNG, oM, oF, oL, rg, ci, Nat.reduceEqDiff, Nat.reduceAdd, Nat.reduceSub, Int.reduceTDiv, Int.reduceTMod, ge_iff_le, Int.reduceGE, Nat.reducePow, Int.reduceEq, Int.reduceNeg, Int.reduceLE, Int.reducePow, Int.reduceLT, Int.reduceSub, Int.reduceAdd, Int.reduceMul, Int.reduceToNat, Option.map_some, ↓reduceIte, ite_not, beq_iff_eq, bne_iff_ne, ne_eq, beq_self_eq_true, beq_eq_false_iff_ne, bne_eq_false_iff_eq, resAll, resL, resV, reduceCtorEq, Option.some.injEq, exists_eq_left', blkAt, Nat.reduceLeDiff, Nat.reduceMul, eq_self, Nat.reduceLT, undef, fillV, evParts, footOp, wrOp, chk, disj, Nat.reduceBEq] | split | ((first | apply ck_call | apply cfk_call); (first | (apply call_pure (known10_C) cll cl)))))
    exact out_eq rfl cl
end Go.Proofs.Ytmmaenfjnkoknaa.VA
