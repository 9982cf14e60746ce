/- What the registers' functions do. -/
import Derived.Test.YtmmaenfjnkoknaaGreatLregister
import Derived.Test.YtmmaenfjnkoknaaGreatCshard
import Derived.Test.YtmmaenfjnkoknaaGreatVC
set_option linter.unusedVariables false
set_option linter.unusedSimpArgs false
set_option maxRecDepth 100000
namespace Go.Proofs.YtmmaenfjnkoknaaGreat.VA
open Go
attribute [local irreducible] WK NK XK TK RK FK CK CFK CallRel C
def rightR (r : Rgr) : Bool := decide (r.boot ≤ 1099511627776 ∧ r.count ≤ 1099511627776 ∧ r.base ≤ r.count ∧ IntKind.u64.wrap (r.count - r.base) ≤ 8 ∧ (r.point = 0 ∨ r.point = 1) ∧ (r.count > 0 ∨ r.head = Bn.zero 16))
theorem right_C (r : Rgr) : C Tryz.prog 34 [.agg (cRgr r)] [] (vb (rightR r)) [] := by
  refine C_of mixed Tryz.func34 A_register_Right_ok A_register_Right_res _ A_register_Right_nt ?_
  (repeat' (first | simp (maxSteps := 2000000) -implicitDefEqProofs only [A_register_Right, lr_register, lr, lr2, oO, oN, oG, oNG, oM, oF, oL, rg, ci, seval, resAll, resL, resV, blkAt, undef, fillV, evParts, footOp, wrOp, chk, disj] | split))
  all_goals (refine out_eq ?_ (cl); first | rfl | (simp_all [rightR]; done) | (simp_all [rightR]; intros; omega) | (simp [rightR]; (repeat' split) <;> first | rfl | omega | (simp_all; done) | (simp_all; intros; omega)))
theorem rright_C (r : Rgr) : C Tryz.prog 41 [.agg (cRgr r)] [] (vb (rightR r)) [] := by
  refine C_of mixed Tryz.func41 A_clavigerref10_Right_ok A_clavigerref10_Right_res _ A_clavigerref10_Right_nt ?_
  (repeat' (first | simp (maxSteps := 2000000) -implicitDefEqProofs only [A_clavigerref10_Right, lr_register, lr, lr2, oO, oN, oG, oNG, oM, oF, oL, rg, ci, seval, resAll, resL, resV, blkAt, undef, fillV, evParts, footOp, wrOp, chk, disj] | split))
  all_goals (refine out_eq ?_ (cl); first | rfl | (simp_all [rightR]; done) | (simp_all [rightR]; intros; omega) | (simp [rightR]; (repeat' split) <;> first | rfl | omega | (simp_all; done) | (simp_all; intros; omega)))
abbrev tR (p : Rgr × Bool) : V := .tup [.agg (cRgr p.1), vb p.2]
def soR (was r : Rgr) : Rgr × Bool := if rightR was = true ∧ rightR r = true then (r, true) else (Rgr.zero, false)
theorem so_C (was r : Rgr) : C Tryz.prog 57 [.agg (cRgr was), .agg (cRgr r)] [] (tR (soR was r)) [] := by
  refine C_of mixed Tryz.func57 A_register_so_ok A_register_so_res _ A_register_so_nt ?_
  (repeat' (first | simp (maxSteps := 2000000) -implicitDefEqProofs only [A_register_so, lr_register, lr, lr2, oO, oN, oG, oNG, oM, oF, oL, rg, ci, seval, resAll, resL, resV, blkAt, undef, fillV, evParts, footOp, wrOp, chk, disj] | split | ((first | apply ck_call | apply cfk_call); (first | (apply call_pure (right_C _) cll cl)))))
  all_goals (refine out_eq ?_ (cl); first | rfl | (simp_all [soR]; done) | (simp_all [soR]; intros; omega) | (simp [soR]; (repeat' split) <;> first | rfl | omega | (simp_all; done) | (simp_all; intros; omega)))
def nextR (r : Rgr) (h : Bn 16) : Rgr × Bool := soR r { r with count := IntKind.u64.wrap (r.count + 1), head := h }
def bootR (r : Rgr) : Rgr × Bool := soR r { r with boot := IntKind.u64.wrap (r.boot + 1) }
def foldR (r : Rgr) (h : Bn 16) : Rgr × Bool := if r.count ≤ r.base then (Rgr.zero, false) else soR r { r with base := r.count, point := IntKind.i64.wrap (1 - r.point), head := h }
def heldR (r : Rgr) : Int := if rightR r = true then IntKind.i64.wrap (IntKind.u64.wrap (r.count - r.base)) else 0
theorem next_C (r : Rgr) (h : Bn 16) : C Tryz.prog 29 [.agg (cRgr r), .agg (dg h)] [] (tR (nextR r h)) [] := by
  refine C_of mixed Tryz.func29 A_register_Next_ok A_register_Next_res _ A_register_Next_nt ?_
  (repeat' (first | simp (maxSteps := 2000000) -implicitDefEqProofs only [A_register_Next, lr_register, lr, lr2, oO, oN, oG, oNG, oM, oF, oL, rg, ci, seval, resAll, resL, resV, blkAt, undef, fillV, evParts, footOp, wrOp, chk, disj] | split | ((first | apply ck_call | apply cfk_call); (first | (apply call_pure (so_C _ _) cll cl)))))
  all_goals (refine out_eq ?_ (cl); first | rfl | (simp_all [nextR, bootR, foldR, heldR]; done) | (simp_all [nextR, bootR, foldR, heldR]; intros; omega) | (simp [nextR, bootR, foldR, heldR]; (repeat' split) <;> first | rfl | omega | (simp_all; done) | (simp_all; intros; omega)))
theorem held_C (r : Rgr) : C Tryz.prog 10 [.agg (cRgr r)] [] (vi .i64 (heldR r)) [] := by
  refine C_of mixed Tryz.func10 A_register_Held_ok A_register_Held_res _ A_register_Held_nt ?_
  (repeat' (first | simp (maxSteps := 2000000) -implicitDefEqProofs only [A_register_Held, lr_register, lr, lr2, oO, oN, oG, oNG, oM, oF, oL, rg, ci, seval, resAll, resL, resV, blkAt, undef, fillV, evParts, footOp, wrOp, chk, disj] | split | ((first | apply ck_call | apply cfk_call); (first | (apply call_pure (right_C _) cll cl)))))
  all_goals (refine out_eq ?_ (cl); first | rfl | (simp_all [nextR, bootR, foldR, heldR]; done) | (simp_all [nextR, bootR, foldR, heldR]; intros; omega) | (simp [nextR, bootR, foldR, heldR]; (repeat' split) <;> first | rfl | omega | (simp_all; done) | (simp_all; intros; omega)))
theorem rheld_C (r : Rgr) : C Tryz.prog 27 [.agg (cRgr r)] [] (vi .i64 (heldR r)) [] := by
  refine C_of mixed Tryz.func27 A_clavigerref10_Held_ok A_clavigerref10_Held_res _ A_clavigerref10_Held_nt ?_
  (repeat' (first | simp (maxSteps := 2000000) -implicitDefEqProofs only [A_clavigerref10_Held, lr_register, lr, lr2, oO, oN, oG, oNG, oM, oF, oL, rg, ci, seval, resAll, resL, resV, blkAt, undef, fillV, evParts, footOp, wrOp, chk, disj] | split | ((first | apply ck_call | apply cfk_call); (first | (apply call_pure (rright_C _) cll cl)))))
  all_goals (refine out_eq ?_ (cl); first | rfl | (simp_all [nextR, bootR, foldR, heldR]; done) | (simp_all [nextR, bootR, foldR, heldR]; intros; omega) | (simp [nextR, bootR, foldR, heldR]; (repeat' split) <;> first | rfl | omega | (simp_all; done) | (simp_all; intros; omega)))
theorem fold_C (r : Rgr) (h : Bn 16) : C Tryz.prog 32 [.agg (cRgr r), .agg (dg h)] [] (tR (foldR r h)) [] := by
  refine C_of mixed Tryz.func32 A_register_Fold_ok A_register_Fold_res _ A_register_Fold_nt ?_
  (repeat' (first | simp (maxSteps := 2000000) -implicitDefEqProofs only [A_register_Fold, lr_register, lr, lr2, oO, oN, oG, oNG, oM, oF, oL, rg, ci, seval, resAll, resL, resV, blkAt, undef, fillV, evParts, footOp, wrOp, chk, disj] | split | ((first | apply ck_call | apply cfk_call); (first | (apply call_pure (so_C _ _) cll cl)))))
  all_goals (refine out_eq ?_ (cl); first | rfl | (simp_all [nextR, bootR, foldR, heldR]; done) | (simp_all [nextR, bootR, foldR, heldR]; intros; omega) | (simp [nextR, bootR, foldR, heldR]; (repeat' split) <;> first | rfl | omega | (simp_all; done) | (simp_all; intros; omega)))
end Go.Proofs.YtmmaenfjnkoknaaGreat.VA
