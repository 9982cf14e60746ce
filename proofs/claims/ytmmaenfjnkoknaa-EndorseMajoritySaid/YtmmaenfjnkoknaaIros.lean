/- Rosters: one law's look at a list. -/
import Derived.Test.YtmmaenfjnkoknaaPros
import Derived.Test.YtmmaenfjnkoknaaVC
set_option linter.unusedVariables false
set_option linter.unusedSimpArgs false
set_option maxRecDepth 100000
namespace Go.Proofs.Ytmmaenfjnkoknaa.VA
open Go
attribute [local irreducible] WK NK XK TK RK FK CK CFK CallRel C
attribute [local irreducible] RosP majL setV bitX bitsU anX orX shl1 hasL
theorem sameL_refl (l : Ros) : decide (sameL l l) = true := decide_eq_true ⟨rfl, rfl⟩
theorem majL_bad (l : Ros) (h : ¬ RosP l) : majL l = 0 := by unfold majL; rw [if_neg h]
theorem majL_ok (l : Ros) (h : RosP l) : majL l = (l.members.l.length : Int) / 2 + 1 := by unfold majL; rw [if_pos h]
theorem and7_k (k : Nat) (h : k < 8) : evBin .and (.sc (.int .i64 (k : Int))) (.sc (.int .i64 7)) = some (.sc (.int .i64 (k : Int))) := by
  rcases (by omega : k = 0 ∨ k = 1 ∨ k = 2 ∨ k = 3 ∨ k = 4 ∨ k = 5 ∨ k = 6 ∨ k = 7) with rfl | rfl | rfl | rfl | rfl | rfl | rfl | rfl <;> rfl
theorem shl1_k (k : Nat) : evBin .shl (.sc (.int .i64 1)) (.sc (.int .u64 (k : Int))) = some (.sc (.int .i64 (shl1 k))) := by
  rw [bin_shl .i64 .u64 1 (k : Int) (Int.natCast_nonneg k)]; unfold shl1; rfl
theorem nextR_v (l : Ros) (ms : List Int) : (nextR l ms).version = l.version + 1 := rfl
theorem nextR_m (l : Ros) (ms : List Int) : (nextR l ms).members = .of ms := rfl
theorem lsF_v (v x : Int) : (listF v x).version = v := rfl
theorem lsF_m (v x : Int) : (listF v x).members = isOf (bitsU 8 x) := rfl
theorem bookSame_of (ms : List Int) (h : ms.length ≤ 8) : C Try.prog 78 [intsV .i64 (.of ms), intsV .i64 (isOf ms)] [] (vb true) [] := by
  have := bookSame_C (.of ms) (isOf ms) (by show ms.length ≤ _; omega) (by rw [isOf_l]; omega)
  rwa [isOf_l, show decide ((Ints.of ms).l = ms) = true from decide_eq_true rfl] at this
theorem bookSame_nil : C Try.prog 78 [intsV .i64 .nil, intsV .i64 .nil] [] (vb true) [] := bookSame_C .nil .nil (by decide) (by decide)
set_option maxHeartbeats 8000000 in
theorem same14_C (l : Ros) (k : Int) (h : l.members.l.length ≤ 9223372036854775807) (hv : 0 ≤ l.version) (hv2 : l.version ≤ 18446744073709551615) : C Try.prog 81 [.agg (cRos l), vi .i64 k] [] (vb true) [] := by
  have kw := with_C l k h
  have ko := without_C l k h
  have kh := hasL_C l k h
  have kr := rightL_C l
  have kd := right14_C l
  have km := majL_C l
  have ks := sameL_C l l h
  have g0 : decide ((0 : Int) > 0) = false := rfl
  rw [sameL_refl] at ks
  by_cases hr : RosP l
  rotate_left
  · obtain ⟨e1, e2, e3⟩ := with_bad l hr k
    rw [e1] at kw; rw [e2] at ko; rw [decide_eq_false e3] at kh; rw [decide_eq_false hr] at kr kd; rw [majL_bad l hr] at km
    refine C_of mixed Try.func81 A_clavigerlaw14_same_ok A_clavigerlaw14_same_res _ A_clavigerlaw14_same_nt ?_
    (repeat' (first | simp (maxSteps := 2000000) -implicitDefEqProofs only [A_clavigerlaw14_same, g0, Int.reduceBNe, Int.reduceBEq, rk_ext, fk_ext, len_ints, idx_ints, cells_ints, len_lst, cells_lst, sm_c, sm_a, src_ints, zros_v, zros_m, ints_nil_l, lr_ros, lr, lr2, oO, oN, oG, oNG, oM, oF, oL, rg, ci, Nat.reduceEqDiff, Nat.reduceAdd, Nat.reduceSub, Int.reduceTDiv, Int.reduceTMod, ge_iff_le, Int.reduceGE, Nat.reducePow, Int.reduceEq, Int.reduceNeg, Int.reduceLE, Int.reducePow, Int.reduceLT, Int.reduceSub, Int.reduceAdd, Int.reduceMul, Int.reduceToNat, Option.map_some, ↓reduceIte, ite_not, beq_iff_eq, bne_iff_ne, ne_eq, beq_self_eq_true, beq_eq_false_iff_ne, bne_eq_false_iff_eq, resAll, resL, resV, reduceCtorEq, Option.some.injEq, exists_eq_left', blkAt, Nat.reduceLeDiff, Nat.reduceMul, eq_self, Nat.reduceLT, undef, fillV, evParts, footOp, wrOp, chk, disj, Nat.reduceBEq] | split | ((first | apply ck_call | apply cfk_call); (first | (apply call_pure (kd) cll cl) | (apply call_pure (kr) cll cl) | (apply call_pure (kw) cll cl) | (apply call_pure (ko) cll cl) | (apply call_pure (bookSame_nil) cll cl) | (apply call_pure (kh) cll cl) | (apply call_pure (km) cll cl) | (apply call_pure (ks) cll cl)))))
    exact out_eq rfl cl
  obtain ⟨b1, b2, b3⟩ := (rosP_iff l).1 hr
  have b4 := b3.2.1
  rw [decide_eq_true hr] at kr kd; rw [majL_ok l hr] at km
  have q2 : evBin .quo (.sc (.int .i64 (l.members.l.length : Int))) (.sc (.int .i64 2)) = some (.sc (.int .i64 ((l.members.l.length : Int) / 2))) := by
    rw [bin_quo _ _ _ (by decide), Int.tdiv_eq_ediv_of_nonneg (by omega), wrap_id _ (by omega) (by omega)]
  have w2 : IntKind.i64.wrap ((l.members.l.length : Int) / 2 + 1) = (l.members.l.length : Int) / 2 + 1 := wrap_id _ (by omega) (by omega)
  by_cases hfar : k < 0 ∨ 8 ≤ k
  · obtain ⟨e1, e2, e3⟩ := with_far l hr k hfar
    rw [e1] at kw; rw [e2] at ko; rw [decide_eq_false e3] at kh
    refine C_of mixed Try.func81 A_clavigerlaw14_same_ok A_clavigerlaw14_same_res _ A_clavigerlaw14_same_nt ?_
    rcases hfar with hk | hk
    · have c1 : ¬ k ≥ 0 := by omega
      have c1' : ¬ 0 ≤ k := by omega
      (repeat' (first | simp (maxSteps := 2000000) -implicitDefEqProofs only [A_clavigerlaw14_same, g0, c1, c1', q2, w2, Int.reduceBNe, Int.reduceBEq, rk_ext, fk_ext, len_ints, idx_ints, cells_ints, len_lst, cells_lst, sm_c, sm_a, src_ints, zros_v, zros_m, ints_nil_l, lr_ros, lr, lr2, oO, oN, oG, oNG, oM, oF, oL, rg, ci, Nat.reduceEqDiff, Nat.reduceAdd, Nat.reduceSub, Int.reduceTDiv, Int.reduceTMod, ge_iff_le, Int.reduceGE, Nat.reducePow, Int.reduceEq, Int.reduceNeg, Int.reduceLE, Int.reducePow, Int.reduceLT, Int.reduceSub, Int.reduceAdd, Int.reduceMul, Int.reduceToNat, Option.map_some, ↓reduceIte, ite_not, beq_iff_eq, bne_iff_ne, ne_eq, beq_self_eq_true, beq_eq_false_iff_ne, bne_eq_false_iff_eq, resAll, resL, resV, reduceCtorEq, Option.some.injEq, exists_eq_left', blkAt, Nat.reduceLeDiff, Nat.reduceMul, eq_self, Nat.reduceLT, undef, fillV, evParts, footOp, wrOp, chk, disj, Nat.reduceBEq] | split | ((first | apply ck_call | apply cfk_call); (first | (apply call_pure (kd) cll cl) | (apply call_pure (kr) cll cl) | (apply call_pure (kw) cll cl) | (apply call_pure (ko) cll cl) | (apply call_pure (bookSame_nil) cll cl) | (apply call_pure (kh) cll cl) | (apply call_pure (km) cll cl) | (apply call_pure (ks) cll cl)))))
      exact out_eq rfl cl
    · have c1 : k ≥ 0 := by omega
      have c1' : 0 ≤ k := by omega
      have c2 : ¬ k < 8 := by omega
      (repeat' (first | simp (maxSteps := 2000000) -implicitDefEqProofs only [A_clavigerlaw14_same, g0, c1, c1', c2, q2, w2, Int.reduceBNe, Int.reduceBEq, rk_ext, fk_ext, len_ints, idx_ints, cells_ints, len_lst, cells_lst, sm_c, sm_a, src_ints, zros_v, zros_m, ints_nil_l, lr_ros, lr, lr2, oO, oN, oG, oNG, oM, oF, oL, rg, ci, Nat.reduceEqDiff, Nat.reduceAdd, Nat.reduceSub, Int.reduceTDiv, Int.reduceTMod, ge_iff_le, Int.reduceGE, Nat.reducePow, Int.reduceEq, Int.reduceNeg, Int.reduceLE, Int.reducePow, Int.reduceLT, Int.reduceSub, Int.reduceAdd, Int.reduceMul, Int.reduceToNat, Option.map_some, ↓reduceIte, ite_not, beq_iff_eq, bne_iff_ne, ne_eq, beq_self_eq_true, beq_eq_false_iff_ne, bne_eq_false_iff_eq, resAll, resL, resV, reduceCtorEq, Option.some.injEq, exists_eq_left', blkAt, Nat.reduceLeDiff, Nat.reduceMul, eq_self, Nat.reduceLT, undef, fillV, evParts, footOp, wrOp, chk, disj, Nat.reduceBEq] | split | ((first | apply ck_call | apply cfk_call); (first | (apply call_pure (kd) cll cl) | (apply call_pure (kr) cll cl) | (apply call_pure (kw) cll cl) | (apply call_pure (ko) cll cl) | (apply call_pure (bookSame_nil) cll cl) | (apply call_pure (kh) cll cl) | (apply call_pure (km) cll cl) | (apply call_pure (ks) cll cl)))))
      exact out_eq rfl cl
  obtain ⟨j, rfl⟩ : ∃ j : Nat, k = j := ⟨k.toNat, by omega⟩
  have hj : j < 8 := by omega
  have c1 : (j : Int) ≥ 0 := by omega
  have c1' : 0 ≤ (j : Int) := by omega
  have c2 : (j : Int) < 8 := by omega
  have e7 := and7_k j hj
  have wj : IntKind.u64.wrap (j : Int) = j := IntWalk.u64_in _ ⟨by omega, by omega⟩
  have hset := set14_C l h
  have s1 := bit_shr (setV l.members.l) j
  have s2 := bit_and (setV l.members.l) j
  have s3 := shl1_k j
  have wv : IntKind.u64.wrap (l.version + 1) = l.version + 1 := IntWalk.u64_in _ ⟨by omega, by omega⟩
  have g1 : decide (l.version + 1 > 0) = true := decide_eq_true (by omega)
  have g1' : l.version + 1 > 0 := by omega
  have g1'' : 0 < l.version + 1 := by omega
  by_cases hm : (j : Int) ∈ l.members.l
  · obtain ⟨e1, e2, e3, e4⟩ := without_near l hr j hj hm
    rw [e1] at ko; rw [e2] at kw; rw [decide_eq_true e3] at kh; rw [e4] at s2
    have s4 := anX_e (setV l.members.l) (shl1 j)
    generalize anX (setV l.members.l) (shl1 j) = X at *
    by_cases hc : 1 < l.members.l.length ∧ l.version < 1099511627776
    · rw [if_pos hc] at ko
      obtain ⟨h1, h2⟩ := hc
      have n1 : (l.members.l.length : Int) > 1 := by omega
      have n1' : 1 < (l.members.l.length : Int) := by omega
      refine C_of mixed Try.func81 A_clavigerlaw14_same_ok A_clavigerlaw14_same_res _ A_clavigerlaw14_same_nt ?_
      (repeat' (first | simp (maxSteps := 2000000) -implicitDefEqProofs only [A_clavigerlaw14_same, g0, g1, g1', g1'', c1, c1', c2, e7, wj, s1, s2, s3, s4, wv, h2, n1, n1', q2, w2, nextR_v, nextR_m, lsF_v, lsF_m, Int.reduceBNe, Int.reduceBEq, rk_ext, fk_ext, len_ints, idx_ints, cells_ints, len_lst, cells_lst, sm_c, sm_a, src_ints, zros_v, zros_m, ints_nil_l, lr_ros, lr, lr2, oO, oN, oG, oNG, oM, oF, oL, rg, ci, Nat.reduceEqDiff, Nat.reduceAdd, Nat.reduceSub, Int.reduceTDiv, Int.reduceTMod, ge_iff_le, Int.reduceGE, Nat.reducePow, Int.reduceEq, Int.reduceNeg, Int.reduceLE, Int.reducePow, Int.reduceLT, Int.reduceSub, Int.reduceAdd, Int.reduceMul, Int.reduceToNat, Option.map_some, ↓reduceIte, ite_not, beq_iff_eq, bne_iff_ne, ne_eq, beq_self_eq_true, beq_eq_false_iff_ne, bne_eq_false_iff_eq, resAll, resL, resV, reduceCtorEq, Option.some.injEq, exists_eq_left', blkAt, Nat.reduceLeDiff, Nat.reduceMul, eq_self, Nat.reduceLT, undef, fillV, evParts, footOp, wrOp, chk, disj, Nat.reduceBEq] | split | ((first | apply ck_call | apply cfk_call); (first | (apply call_pure (kd) cll cl) | (apply call_pure (kr) cll cl) | (apply call_pure (hset) cll cl) | (apply call_pure (kw) cll cl) | (apply call_pure (ko) cll cl) | (apply call_pure (list14_C (l.version + 1) X) cll cl) | (apply call_pure (bookSame_nil) cll cl) | (apply call_pure (bookSame_of (bitsU 8 X) (bitsU_le 8 X)) cll cl) | (apply call_pure (kh) cll cl) | (apply call_pure (km) cll cl) | (apply call_pure (ks) cll cl)))))
      exact out_eq rfl cl
    · rw [if_neg hc] at ko
      refine C_of mixed Try.func81 A_clavigerlaw14_same_ok A_clavigerlaw14_same_res _ A_clavigerlaw14_same_nt ?_
      by_cases h1 : 1 < l.members.l.length
      · have h2 : ¬ l.version < 1099511627776 := fun h => hc ⟨h1, h⟩
        have n1 : (l.members.l.length : Int) > 1 := by omega
        have n1' : 1 < (l.members.l.length : Int) := by omega
        (repeat' (first | simp (maxSteps := 2000000) -implicitDefEqProofs only [A_clavigerlaw14_same, g0, c1, c1', c2, e7, wj, s1, s2, h2, n1, n1', q2, w2, Int.reduceBNe, Int.reduceBEq, rk_ext, fk_ext, len_ints, idx_ints, cells_ints, len_lst, cells_lst, sm_c, sm_a, src_ints, zros_v, zros_m, ints_nil_l, lr_ros, lr, lr2, oO, oN, oG, oNG, oM, oF, oL, rg, ci, Nat.reduceEqDiff, Nat.reduceAdd, Nat.reduceSub, Int.reduceTDiv, Int.reduceTMod, ge_iff_le, Int.reduceGE, Nat.reducePow, Int.reduceEq, Int.reduceNeg, Int.reduceLE, Int.reducePow, Int.reduceLT, Int.reduceSub, Int.reduceAdd, Int.reduceMul, Int.reduceToNat, Option.map_some, ↓reduceIte, ite_not, beq_iff_eq, bne_iff_ne, ne_eq, beq_self_eq_true, beq_eq_false_iff_ne, bne_eq_false_iff_eq, resAll, resL, resV, reduceCtorEq, Option.some.injEq, exists_eq_left', blkAt, Nat.reduceLeDiff, Nat.reduceMul, eq_self, Nat.reduceLT, undef, fillV, evParts, footOp, wrOp, chk, disj, Nat.reduceBEq] | split | ((first | apply ck_call | apply cfk_call); (first | (apply call_pure (kd) cll cl) | (apply call_pure (kr) cll cl) | (apply call_pure (hset) cll cl) | (apply call_pure (kw) cll cl) | (apply call_pure (ko) cll cl) | (apply call_pure (bookSame_nil) cll cl) | (apply call_pure (kh) cll cl) | (apply call_pure (km) cll cl) | (apply call_pure (ks) cll cl)))))
        exact out_eq rfl cl
      · have n1 : ¬ (l.members.l.length : Int) > 1 := by omega
        have n1' : ¬ 1 < (l.members.l.length : Int) := by omega
        (repeat' (first | simp (maxSteps := 2000000) -implicitDefEqProofs only [A_clavigerlaw14_same, g0, c1, c1', c2, e7, wj, s1, s2, n1, n1', q2, w2, Int.reduceBNe, Int.reduceBEq, rk_ext, fk_ext, len_ints, idx_ints, cells_ints, len_lst, cells_lst, sm_c, sm_a, src_ints, zros_v, zros_m, ints_nil_l, lr_ros, lr, lr2, oO, oN, oG, oNG, oM, oF, oL, rg, ci, Nat.reduceEqDiff, Nat.reduceAdd, Nat.reduceSub, Int.reduceTDiv, Int.reduceTMod, ge_iff_le, Int.reduceGE, Nat.reducePow, Int.reduceEq, Int.reduceNeg, Int.reduceLE, Int.reducePow, Int.reduceLT, Int.reduceSub, Int.reduceAdd, Int.reduceMul, Int.reduceToNat, Option.map_some, ↓reduceIte, ite_not, beq_iff_eq, bne_iff_ne, ne_eq, beq_self_eq_true, beq_eq_false_iff_ne, bne_eq_false_iff_eq, resAll, resL, resV, reduceCtorEq, Option.some.injEq, exists_eq_left', blkAt, Nat.reduceLeDiff, Nat.reduceMul, eq_self, Nat.reduceLT, undef, fillV, evParts, footOp, wrOp, chk, disj, Nat.reduceBEq] | split | ((first | apply ck_call | apply cfk_call); (first | (apply call_pure (kd) cll cl) | (apply call_pure (kr) cll cl) | (apply call_pure (hset) cll cl) | (apply call_pure (kw) cll cl) | (apply call_pure (ko) cll cl) | (apply call_pure (bookSame_nil) cll cl) | (apply call_pure (kh) cll cl) | (apply call_pure (km) cll cl) | (apply call_pure (ks) cll cl)))))
        exact out_eq rfl cl
  · obtain ⟨e1, e2, e3, e4⟩ := with_near l hr j hj hm
    rw [e1] at kw; rw [e2] at ko; rw [decide_eq_false e3] at kh; rw [e4] at s2
    have s4 := orX_e (setV l.members.l) (shl1 j)
    generalize orX (setV l.members.l) (shl1 j) = X at *
    by_cases hc : l.version < 1099511627776
    · rw [if_pos hc] at kw
      refine C_of mixed Try.func81 A_clavigerlaw14_same_ok A_clavigerlaw14_same_res _ A_clavigerlaw14_same_nt ?_
      (repeat' (first | simp (maxSteps := 2000000) -implicitDefEqProofs only [A_clavigerlaw14_same, g0, g1, g1', g1'', c1, c1', c2, e7, wj, s1, s2, s3, s4, wv, hc, q2, w2, nextR_v, nextR_m, lsF_v, lsF_m, Int.reduceBNe, Int.reduceBEq, rk_ext, fk_ext, len_ints, idx_ints, cells_ints, len_lst, cells_lst, sm_c, sm_a, src_ints, zros_v, zros_m, ints_nil_l, lr_ros, lr, lr2, oO, oN, oG, oNG, oM, oF, oL, rg, ci, Nat.reduceEqDiff, Nat.reduceAdd, Nat.reduceSub, Int.reduceTDiv, Int.reduceTMod, ge_iff_le, Int.reduceGE, Nat.reducePow, Int.reduceEq, Int.reduceNeg, Int.reduceLE, Int.reducePow, Int.reduceLT, Int.reduceSub, Int.reduceAdd, Int.reduceMul, Int.reduceToNat, Option.map_some, ↓reduceIte, ite_not, beq_iff_eq, bne_iff_ne, ne_eq, beq_self_eq_true, beq_eq_false_iff_ne, bne_eq_false_iff_eq, resAll, resL, resV, reduceCtorEq, Option.some.injEq, exists_eq_left', blkAt, Nat.reduceLeDiff, Nat.reduceMul, eq_self, Nat.reduceLT, undef, fillV, evParts, footOp, wrOp, chk, disj, Nat.reduceBEq] | split | ((first | apply ck_call | apply cfk_call); (first | (apply call_pure (kd) cll cl) | (apply call_pure (kr) cll cl) | (apply call_pure (hset) cll cl) | (apply call_pure (kw) cll cl) | (apply call_pure (ko) cll cl) | (apply call_pure (list14_C (l.version + 1) X) cll cl) | (apply call_pure (bookSame_nil) cll cl) | (apply call_pure (bookSame_of (bitsU 8 X) (bitsU_le 8 X)) cll cl) | (apply call_pure (kh) cll cl) | (apply call_pure (km) cll cl) | (apply call_pure (ks) cll cl)))))
      exact out_eq rfl cl
    · rw [if_neg hc] at kw
      refine C_of mixed Try.func81 A_clavigerlaw14_same_ok A_clavigerlaw14_same_res _ A_clavigerlaw14_same_nt ?_
      (repeat' (first | simp (maxSteps := 2000000) -implicitDefEqProofs only [A_clavigerlaw14_same, g0, c1, c1', c2, e7, wj, s1, s2, hc, q2, w2, Int.reduceBNe, Int.reduceBEq, rk_ext, fk_ext, len_ints, idx_ints, cells_ints, len_lst, cells_lst, sm_c, sm_a, src_ints, zros_v, zros_m, ints_nil_l, lr_ros, lr, lr2, oO, oN, oG, oNG, oM, oF, oL, rg, ci, Nat.reduceEqDiff, Nat.reduceAdd, Nat.reduceSub, Int.reduceTDiv, Int.reduceTMod, ge_iff_le, Int.reduceGE, Nat.reducePow, Int.reduceEq, Int.reduceNeg, Int.reduceLE, Int.reducePow, Int.reduceLT, Int.reduceSub, Int.reduceAdd, Int.reduceMul, Int.reduceToNat, Option.map_some, ↓reduceIte, ite_not, beq_iff_eq, bne_iff_ne, ne_eq, beq_self_eq_true, beq_eq_false_iff_ne, bne_eq_false_iff_eq, resAll, resL, resV, reduceCtorEq, Option.some.injEq, exists_eq_left', blkAt, Nat.reduceLeDiff, Nat.reduceMul, eq_self, Nat.reduceLT, undef, fillV, evParts, footOp, wrOp, chk, disj, Nat.reduceBEq] | split | ((first | apply ck_call | apply cfk_call); (first | (apply call_pure (kd) cll cl) | (apply call_pure (kr) cll cl) | (apply call_pure (hset) cll cl) | (apply call_pure (kw) cll cl) | (apply call_pure (ko) cll cl) | (apply call_pure (bookSame_nil) cll cl) | (apply call_pure (kh) cll cl) | (apply call_pure (km) cll cl) | (apply call_pure (ks) cll cl)))))
      exact out_eq rfl cl
end Go.Proofs.Ytmmaenfjnkoknaa.VA
