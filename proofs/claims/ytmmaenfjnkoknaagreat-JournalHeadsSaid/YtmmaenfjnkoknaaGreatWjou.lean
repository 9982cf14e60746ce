/- JournalHeads (seat .Z). -/
import Derived.Test.YtmmaenfjnkoknaaGreatUjou
import Derived.Test.YtmmaenfjnkoknaaGreatHjou
import Derived.Test.YtmmaenfjnkoknaaGreatVC
set_option linter.unusedVariables false
set_option linter.unusedSimpArgs false
set_option maxRecDepth 100000
namespace Go.Proofs.YtmmaenfjnkoknaaGreat.VA
open Go
attribute [local irreducible] WK NK XK TK RK FK CK CFK CallRel C
attribute [local irreducible] sealF textF fits sumF heldR rightR frec headF imgR loadF ldN baseO dkW rkW rgW
set_option maxHeartbeats 8000000 in
theorem journalHeads_C (k o : Bn 16) (l : Lst KR) (hl : ∀ x ∈ l.l, x.fine) : C Tryz.prog 4 [.agg (dg k), .agg (dg o), lstV cKR l] [] (vb true) [] := by
  have hfine : ∀ i, i < l.l.length → (l.l.getD i default).fine := fun i h => by
    rw [List.getD_eq_getElem?_getD, List.getElem?_eq_getElem h]
    exact hl _ (List.getElem_mem _)
  have kw := write_C k l hl 30 (by decide)
  generalize hN : min l.l.length 30 = N at *
  have hNl : N ≤ l.l.length := by omega
  have kd := load_C k (dkW k l.l N) (dkW_fine k l.l hfine N hNl) (rgW k l.l N) (inv_right (by omega) (rgW_inv k l.l N)) N (8 * (N / 8)) (N / 8 % 2) (rgW_f k l.l N).1 (rgW_f k l.l N).2.1 (rgW_f k l.l N).2.2 (by omega)
  obtain ⟨img, hld, hil⟩ := load_back k l.l N hNl hfine
  rw [hld] at kd
  change C _ _ _ _ (.tup [rowV img, lstV cRec (lsOf (rcW k l.l (8 * (N / 8)) (N % 8))), vi .i64 0]) _ at kd
  have hL := fun (q : Bn 16) (r : Rgr) (c b : Nat) => load10_C q (dkW k l.l N) (rkW k l.l N) (dkW_fine k l.l hfine N hNl) (rkW_ok k l.l N) (mirr_W k l.l N) r c b
  have L1 := hL o (rgW k l.l N) N (8 * (N / 8)) (rgW_f k l.l N).1 (rgW_f k l.l N).2.1
  have L2 := hL k { rgW k l.l N with head := o } N (8 * (N / 8)) (rgW_f k l.l N).1 (rgW_f k l.l N).2.1
  have wc : IntKind.u64.wrap ((rgW k l.l N).count + 1) = ((N + 1 : Nat) : Int) := by rw [(rgW_f k l.l N).1, IntWalk.u64_in _ ⟨by omega, by omega⟩]; omega
  have L3 := hL k { rgW k l.l N with count := IntKind.u64.wrap ((rgW k l.l N).count + 1) } (N + 1) (8 * (N / 8)) wc (rgW_f k l.l N).2.1
  clear wc hL hld
  generalize dkW k l.l N = D at *
  generalize rkW k l.l N = K at *
  generalize rgW k l.l N = R at *
  refine C_of mixed Tryz.func4 A_clavigerlaw10_JournalHeads_ok A_clavigerlaw10_JournalHeads_res _ A_clavigerlaw10_JournalHeads_nt ?_
  (repeat' (first | simp (maxSteps := 2000000) -implicitDefEqProofs only [A_clavigerlaw10_JournalHeads, len_lst, cells_lst, rk_ext, fk_ext, lrp, lr_api, lr_keep, lr_register, lr, lr2, oO, oN, oG, oNG, oM, oF, oL, rg, ci, seval, resAll, resL, resV, blkAt, undef, fillV, evParts, footOp, wrOp, chk, disj] | split | ((first | apply ck_call | apply cfk_call); (first | (apply call_newP (newD_C) cll cll) | (apply call_newP (newR_C) cll cll)))))
  refine ck_call _ _ (call_two (i := 2) (j := 3) kw (by decide) rfl rfl cll cll cll cll (argL_cons (arg_closed _ cl) (argL_cons (arg_refK 0 0 rfl) (argL_cons (arg_refK 1 0 rfl) (argL_cons (arg_closed _ cl) (argL_cons (arg_closed _ cl) argL_nil))))) mem mem (renV_closed _ _ cl)) ?_
  (repeat' (first | simp (maxSteps := 2000000) -implicitDefEqProofs only [known10_C, len_lst, cells_lst, rk_ext, fk_ext, lrp, lr_api, lr_keep, lr_register, lr, lr2, oO, oN, oG, oNG, oM, oF, oL, rg, ci, seval, resAll, resL, resV, blkAt, undef, fillV, evParts, footOp, wrOp, chk, disj] | split))
  refine ck_call _ _ (call_two (i := 2) (j := 3) (r2 := vb true) L1 (by decide) rfl rfl cll cll cll cll (argL_cons (arg_closed _ cl) (argL_cons (arg_refK 0 0 rfl) (argL_cons (arg_refK 1 0 rfl) (argL_cons (arg_closed _ cl) argL_nil)))) mem mem rfl) ?_
  (repeat' (first | simp (maxSteps := 2000000) -implicitDefEqProofs only [cRgr_ids, len_lst, cells_lst, rk_ext, fk_ext, lrp, lr_api, lr_keep, lr_register, lr, lr2, oO, oN, oG, oNG, oM, oF, oL, rg, ci, seval, resAll, resL, resV, blkAt, undef, fillV, evParts, footOp, wrOp, chk, disj] | split | ((first | apply ck_call | apply cfk_call); (first | (apply call_oneP (id := 2) (kd) rfl cll cll cl; (repeat' (first | exact args_n | apply args_c | exact arg_ref0 _ _ | exact arg_closed _ cl)); exact mem)))))
  refine ck_call _ _ (call_two (i := 2) (j := 3) (r2 := vb true) L2 (by decide) rfl rfl cll cll cll cll (argL_cons (arg_closed _ cl) (argL_cons (arg_refK 0 0 rfl) (argL_cons (arg_refK 1 0 rfl) (argL_cons (arg_closed _ cl) argL_nil)))) mem mem rfl) ?_
  (repeat' (first | simp (maxSteps := 2000000) -implicitDefEqProofs only [cRgr_ids, len_lst, cells_lst, rk_ext, fk_ext, lrp, lr_api, lr_keep, lr_register, lr, lr2, oO, oN, oG, oNG, oM, oF, oL, rg, ci, seval, resAll, resL, resV, blkAt, undef, fillV, evParts, footOp, wrOp, chk, disj] | split))
  refine ck_call _ _ (call_two (i := 2) (j := 3) (r2 := vb true) L3 (by decide) rfl rfl cll cll cll cll (argL_cons (arg_closed _ cl) (argL_cons (arg_refK 0 0 rfl) (argL_cons (arg_refK 1 0 rfl) (argL_cons (arg_closed _ cl) argL_nil)))) mem mem rfl) ?_
  (repeat' (first | simp (maxSteps := 2000000) -implicitDefEqProofs only [cRgr_ids, len_lst, cells_lst, rk_ext, fk_ext, lrp, lr_api, lr_keep, lr_register, lr, lr2, oO, oN, oG, oNG, oM, oF, oL, rg, ci, seval, resAll, resL, resV, blkAt, undef, fillV, evParts, footOp, wrOp, chk, disj] | split | ((first | apply ck_call | apply cfk_call); (first | (apply call_pure (known10_C) cll cl)))))
  exact out_eq rfl cl
end Go.Proofs.YtmmaenfjnkoknaaGreat.VA
