/- Journals: the chapter's own runs, JournalBack. -/
import Derived.Test.YtmmaenfjnkoknaaGreatPjou
import Derived.Test.YtmmaenfjnkoknaaGreatVC
set_option linter.unusedVariables false
set_option linter.unusedSimpArgs false
set_option maxRecDepth 100000
namespace Go.Proofs.YtmmaenfjnkoknaaGreat.VA
open Go
attribute [local irreducible] WK NK XK TK RK FK CK CFK CallRel C
attribute [local irreducible] sealF textF fits sumF rightR frec headF imgR frameF keepR putR RightR heldR placeR dkW rkW rgW loadF
theorem loadNil_C (k : Bn 16) (r : Rgr) : C Tryz.prog 14 [.agg (dg k), .sc (.pointer none), .agg (cRgr r)] [] (.tup [vnil, vnil, vi .i64 1]) [] := by
  refine C_of mixed Tryz.func14 A_journal_Load_ok A_journal_Load_res _ A_journal_Load_nt ?_
  (repeat' (first | simp (maxSteps := 2000000) -implicitDefEqProofs only [A_journal_Load, len_lst, cells_lst, rk_ext, fk_ext, lrp, lr_api, lr_keep, lr_register, lr, lr2, oO, oN, oG, oNG, oM, oF, oL, rg, ci, seval, resAll, resL, resV, blkAt, undef, fillV, evParts, footOp, wrOp, chk, disj] | split))
  exact out_eq rfl cl
theorem right_z : rightR Rgr.zero = true := by with_unfolding_all decide
theorem right_1 : rightR { Rgr.zero with count := 1 } = true := by with_unfolding_all decide
theorem load_z (k : Bn 16) : loadF k Dsk.zero Rgr.zero 0 0 (0 - 0) = some (.nil, []) := by
  unfold loadF baseO
  rw [if_pos rfl]
  simp only [ldN]
  exact if_pos rfl
theorem load_1 (k : Bn 16) : loadF k Dsk.zero { Rgr.zero with count := 1 } 0 0 (1 - 0) = none := by
  unfold loadF baseO
  rw [if_pos rfl]
  have h : ldN k Dsk.zero 0 (Bn.zero 16) (1 - 0) = none := ldN_F (i := 0) rfl (fun h => by cases h.1)
  simp only [h]
theorem place_z : placeR Rgr.zero = 2 := by with_unfolding_all decide
set_option maxHeartbeats 8000000 in
theorem known10_C : C Tryz.prog 17 [] [] (vb true) [] := by
  have e1 := load_C ((Bn.zero 16).set 0 (by8 1)) Dsk.zero zero_fine Rgr.zero right_z 0 0 0 rfl rfl rfl (by decide)
  rw [load_z] at e1
  have e2 := load_C ((Bn.zero 16).set 0 (by8 1)) Dsk.zero zero_fine { Rgr.zero with count := 1 } right_1 1 0 0 rfl rfl rfl (by decide)
  rw [load_1] at e2
  change C _ _ _ _ (.tup [vnil, vnil, vi .i64 0]) _ at e1
  change C _ _ _ _ (.tup [vnil, vnil, vi .i64 30]) _ at e2
  have e3 := loadNil_C ((Bn.zero 16).set 0 (by8 1)) Rgr.zero
  have e4 := place_C Rgr.zero
  rw [place_z] at e4
  have e5 := room_C Rgr.zero
  refine C_of mixed Tryz.func17 A_clavigerlaw10_known_ok A_clavigerlaw10_known_res _ A_clavigerlaw10_known_nt ?_
  (repeat' (first | simp (maxSteps := 2000000) -implicitDefEqProofs only [A_clavigerlaw10_known, len_lst, cells_lst, rk_ext, fk_ext, lrp, lr_api, lr_keep, lr_register, lr, lr2, oO, oN, oG, oNG, oM, oF, oL, rg, ci, seval, resAll, resL, resV, blkAt, undef, fillV, evParts, footOp, wrOp, chk, disj] | split | ((first | apply ck_call | apply cfk_call); (first | (apply call_newP (newD_C) cll cll) | (apply call_oneP (id := 0) (e1) rfl cll cll cl; (repeat' (first | exact args_n | apply args_c | exact arg_ref0 _ _ | exact arg_closed _ cl)); exact mem) | (apply call_oneP (id := 0) (e2) rfl cll cll cl; (repeat' (first | exact args_n | apply args_c | exact arg_ref0 _ _ | exact arg_closed _ cl)); exact mem) | (apply call_pure (e3) cll cl) | (apply call_pure (e4) cll cl) | (apply call_pure (e5) cll cl)))))
  refine out_eq ?_ cl
  have : IntKind.i64.wrap (1 - Rgr.zero.point) = 1 := by with_unfolding_all decide
  rw [this]; rfl
end Go.Proofs.YtmmaenfjnkoknaaGreat.VA
