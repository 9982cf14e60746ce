/- Rosters: what follows; the chapter's own runs. -/
import Derived.Test.YtmmaenfjnkoknaaP2ros
import Derived.Test.YtmmaenfjnkoknaaIros
import Derived.Test.YtmmaenfjnkoknaaVC
set_option linter.unusedVariables false
set_option linter.unusedSimpArgs false
set_option maxRecDepth 100000
namespace Go.Proofs.Ytmmaenfjnkoknaa.VA
open Go
attribute [local irreducible] WK NK XK TK RK FK CK CFK CallRel C
attribute [local irreducible] RosP majL setV bitX bitsU anX orX shl1 hasL folL
theorem xorX_e (a b : Int) : evBin .xor (.sc (.int .i64 a)) (.sc (.int .i64 b)) = some (.sc (.int .i64 (xorX a b))) := bin_xor _ _ _
theorem andX_e (a b : Int) : evBin .and (.sc (.int .i64 a)) (.sc (.int .i64 b)) = some (.sc (.int .i64 (andX a b))) := bin_and _ _ _
set_option maxHeartbeats 4000000 in
theorem after14_C (a b : Ros) (h1 : a.members.l.length ≤ 9223372036854775807) (h2 : b.members.l.length ≤ 9223372036854775807) : C Try.prog 82 [.agg (cRos a), .agg (cRos b)] [] (vb (decide (folL a b))) [] := by
  have ka := right14_C a
  have kb := right14_C b
  by_cases ha : RosP a
  rotate_left
  · rw [decide_eq_false (fun h : folL a b => ha (by unfold folL at h; exact h.1))]
    refine C_of mixed Try.func82 A_clavigerlaw14_after_ok A_clavigerlaw14_after_res _ A_clavigerlaw14_after_nt ?_
    (repeat' (first | simp (maxSteps := 2000000) -implicitDefEqProofs only [A_clavigerlaw14_after, ha, Int.reduceBNe, Int.reduceBEq, rk_ext, fk_ext, len_ints, idx_ints, cells_ints, len_lst, cells_lst, sm_c, sm_a, src_ints, zros_v, zros_m, ints_nil_l, lr_ros, lr, lr2, oO, oN, oG, oNG, oM, oF, oL, rg, ci, Nat.reduceEqDiff, Nat.reduceAdd, Nat.reduceSub, Int.reduceTDiv, Int.reduceTMod, ge_iff_le, Int.reduceGE, Nat.reducePow, Int.reduceEq, Int.reduceNeg, Int.reduceLE, Int.reducePow, Int.reduceLT, Int.reduceSub, Int.reduceAdd, Int.reduceMul, Int.reduceToNat, Option.map_some, ↓reduceIte, ite_not, beq_iff_eq, bne_iff_ne, ne_eq, beq_self_eq_true, beq_eq_false_iff_ne, bne_eq_false_iff_eq, resAll, resL, resV, reduceCtorEq, Option.some.injEq, exists_eq_left', blkAt, Nat.reduceLeDiff, Nat.reduceMul, eq_self, Nat.reduceLT, undef, fillV, evParts, footOp, wrOp, chk, disj, Nat.reduceBEq] | split | ((first | apply ck_call | apply cfk_call); (first | (apply call_pure (ka) cll cl)))))
    exact out_eq rfl cl
  by_cases hb : RosP b
  rotate_left
  · rw [decide_eq_false (fun h : folL a b => hb (by unfold folL at h; exact h.2.1))]
    refine C_of mixed Try.func82 A_clavigerlaw14_after_ok A_clavigerlaw14_after_res _ A_clavigerlaw14_after_nt ?_
    (repeat' (first | simp (maxSteps := 2000000) -implicitDefEqProofs only [A_clavigerlaw14_after, ha, hb, Int.reduceBNe, Int.reduceBEq, rk_ext, fk_ext, len_ints, idx_ints, cells_ints, len_lst, cells_lst, sm_c, sm_a, src_ints, zros_v, zros_m, ints_nil_l, lr_ros, lr, lr2, oO, oN, oG, oNG, oM, oF, oL, rg, ci, Nat.reduceEqDiff, Nat.reduceAdd, Nat.reduceSub, Int.reduceTDiv, Int.reduceTMod, ge_iff_le, Int.reduceGE, Nat.reducePow, Int.reduceEq, Int.reduceNeg, Int.reduceLE, Int.reducePow, Int.reduceLT, Int.reduceSub, Int.reduceAdd, Int.reduceMul, Int.reduceToNat, Option.map_some, ↓reduceIte, ite_not, beq_iff_eq, bne_iff_ne, ne_eq, beq_self_eq_true, beq_eq_false_iff_ne, bne_eq_false_iff_eq, resAll, resL, resV, reduceCtorEq, Option.some.injEq, exists_eq_left', blkAt, Nat.reduceLeDiff, Nat.reduceMul, eq_self, Nat.reduceLT, undef, fillV, evParts, footOp, wrOp, chk, disj, Nat.reduceBEq] | split | ((first | apply ck_call | apply cfk_call); (first | (apply call_pure (ka) cll cl) | (apply call_pure (kb) cll cl)))))
    exact out_eq rfl cl
  obtain ⟨b1, b2, b3⟩ := (rosP_iff a).1 ha
  have wv : IntKind.u64.wrap (a.version + 1) = a.version + 1 := IntWalk.u64_in _ ⟨by omega, by omega⟩
  by_cases hv : b.version = a.version + 1
  rotate_left
  · rw [decide_eq_false (fun h : folL a b => hv (by unfold folL at h; exact h.2.2.1))]
    refine C_of mixed Try.func82 A_clavigerlaw14_after_ok A_clavigerlaw14_after_res _ A_clavigerlaw14_after_nt ?_
    (repeat' (first | simp (maxSteps := 2000000) -implicitDefEqProofs only [A_clavigerlaw14_after, ha, hb, wv, hv, Int.reduceBNe, Int.reduceBEq, rk_ext, fk_ext, len_ints, idx_ints, cells_ints, len_lst, cells_lst, sm_c, sm_a, src_ints, zros_v, zros_m, ints_nil_l, lr_ros, lr, lr2, oO, oN, oG, oNG, oM, oF, oL, rg, ci, Nat.reduceEqDiff, Nat.reduceAdd, Nat.reduceSub, Int.reduceTDiv, Int.reduceTMod, ge_iff_le, Int.reduceGE, Nat.reducePow, Int.reduceEq, Int.reduceNeg, Int.reduceLE, Int.reducePow, Int.reduceLT, Int.reduceSub, Int.reduceAdd, Int.reduceMul, Int.reduceToNat, Option.map_some, ↓reduceIte, ite_not, beq_iff_eq, bne_iff_ne, ne_eq, beq_self_eq_true, beq_eq_false_iff_ne, bne_eq_false_iff_eq, resAll, resL, resV, reduceCtorEq, Option.some.injEq, exists_eq_left', blkAt, Nat.reduceLeDiff, Nat.reduceMul, eq_self, Nat.reduceLT, undef, fillV, evParts, footOp, wrOp, chk, disj, Nat.reduceBEq] | split | ((first | apply ck_call | apply cfk_call); (first | (apply call_pure (ka) cll cl) | (apply call_pure (kb) cll cl)))))
    exact out_eq rfl cl
  obtain ⟨d, hd, e1, e2⟩ := fol_bits a b ha hb hv
  rw [e2]
  have x1 := xorX_e (setV a.members.l) (setV b.members.l)
  rw [e1] at x1
  have s1 := set14_C a h1
  have s2 := set14_C b h2
  have x2 := andX_e d (IntKind.i64.wrap ((d : Int) - 1))
  by_cases d0 : d = 0
  · subst d0
    refine C_of mixed Try.func82 A_clavigerlaw14_after_ok A_clavigerlaw14_after_res _ A_clavigerlaw14_after_nt ?_
    (repeat' (first | simp (maxSteps := 2000000) -implicitDefEqProofs only [A_clavigerlaw14_after, ha, hb, wv, hv, x1, Int.reduceBNe, Int.reduceBEq, rk_ext, fk_ext, len_ints, idx_ints, cells_ints, len_lst, cells_lst, sm_c, sm_a, src_ints, zros_v, zros_m, ints_nil_l, lr_ros, lr, lr2, oO, oN, oG, oNG, oM, oF, oL, rg, ci, Nat.reduceEqDiff, Nat.reduceAdd, Nat.reduceSub, Int.reduceTDiv, Int.reduceTMod, ge_iff_le, Int.reduceGE, Nat.reducePow, Int.reduceEq, Int.reduceNeg, Int.reduceLE, Int.reducePow, Int.reduceLT, Int.reduceSub, Int.reduceAdd, Int.reduceMul, Int.reduceToNat, Option.map_some, ↓reduceIte, ite_not, beq_iff_eq, bne_iff_ne, ne_eq, beq_self_eq_true, beq_eq_false_iff_ne, bne_eq_false_iff_eq, resAll, resL, resV, reduceCtorEq, Option.some.injEq, exists_eq_left', blkAt, Nat.reduceLeDiff, Nat.reduceMul, eq_self, Nat.reduceLT, undef, fillV, evParts, footOp, wrOp, chk, disj, Nat.reduceBEq] | split | ((first | apply ck_call | apply cfk_call); (first | (apply call_pure (ka) cll cl) | (apply call_pure (kb) cll cl) | (apply call_pure (s1) cll cl) | (apply call_pure (s2) cll cl)))))
    exact out_eq rfl cl
  · have d1 : ¬ (d : Int) = 0 := by omega
    have d2 : decide (¬ d = 0) = true := decide_eq_true d0
    rw [d2, Bool.true_and]
    generalize andX d (IntKind.i64.wrap ((d : Int) - 1)) = p at *
    refine C_of mixed Try.func82 A_clavigerlaw14_after_ok A_clavigerlaw14_after_res _ A_clavigerlaw14_after_nt ?_
    (repeat' (first | simp (maxSteps := 2000000) -implicitDefEqProofs only [A_clavigerlaw14_after, ha, hb, wv, hv, x1, d1, x2, Int.reduceBNe, Int.reduceBEq, rk_ext, fk_ext, len_ints, idx_ints, cells_ints, len_lst, cells_lst, sm_c, sm_a, src_ints, zros_v, zros_m, ints_nil_l, lr_ros, lr, lr2, oO, oN, oG, oNG, oM, oF, oL, rg, ci, Nat.reduceEqDiff, Nat.reduceAdd, Nat.reduceSub, Int.reduceTDiv, Int.reduceTMod, ge_iff_le, Int.reduceGE, Nat.reducePow, Int.reduceEq, Int.reduceNeg, Int.reduceLE, Int.reducePow, Int.reduceLT, Int.reduceSub, Int.reduceAdd, Int.reduceMul, Int.reduceToNat, Option.map_some, ↓reduceIte, ite_not, beq_iff_eq, bne_iff_ne, ne_eq, beq_self_eq_true, beq_eq_false_iff_ne, bne_eq_false_iff_eq, resAll, resL, resV, reduceCtorEq, Option.some.injEq, exists_eq_left', blkAt, Nat.reduceLeDiff, Nat.reduceMul, eq_self, Nat.reduceLT, undef, fillV, evParts, footOp, wrOp, chk, disj, Nat.reduceBEq] | split | ((first | apply ck_call | apply cfk_call); (first | (apply call_pure (ka) cll cl) | (apply call_pure (kb) cll cl) | (apply call_pure (s1) cll cl) | (apply call_pure (s2) cll cl)))))
    all_goals (refine out_vb ?_; by_cases hp : p = 0 <;> simp [hp])
end Go.Proofs.Ytmmaenfjnkoknaa.VA
