/- Rosters: the laws. -/
import Derived.Test.YtmmaenfjnkoknaaMros
import Derived.Test.YtmmaenfjnkoknaaVC
set_option linter.unusedVariables false
set_option linter.unusedSimpArgs false
set_option maxRecDepth 100000
namespace Go.Proofs.Ytmmaenfjnkoknaa.VA
open Go
attribute [local irreducible] WK NK XK TK RK FK CK CFK CallRel C
attribute [local irreducible] RosP majL setV bitX bitsU anX orX shl1 hasL folL listF andX xorX sameL
theorem u64_le (x : Int) : IntKind.u64.wrap x ≤ 18446744073709551615 := by rw [IntKind.wrap_u64]; omega
theorem lsF_le (v x : Int) : (listF v x).members.l.length ≤ 9223372036854775807 := by have := listF_le v x; omega
theorem sameL_dec (a b : Ros) : decide (sameL a b) = (decide (a.version = b.version) && decide (a.members.l = b.members.l)) := by
  rw [Bool.eq_iff_iff]
  simp only [decide_eq_true_eq, Bool.and_eq_true]
  unfold sameL
  exact Iff.rfl
theorem list14v_C (v x : Int) : ∃ r : Ros, C Try.prog 71 [vi .u64 v, vi .i64 x] [] (.agg (cRos r)) [] ∧ r.version = v ∧ r.members.l.length ≤ 8 :=
  ⟨listF v x, list14_C v x, lsF_v v x, listF_le v x⟩
set_option maxHeartbeats 8000000 in
theorem rosterTells_C (l m : Ros) (a b k v : Int) (hl : l.members.l.length ≤ 9223372036854775807) (hm : m.members.l.length ≤ 9223372036854775807) (hlv : 0 ≤ l.version ∧ l.version ≤ 18446744073709551615) (hv : 0 ≤ v ∧ v ≤ 18446744073709551615) :
    C Try.prog 19 [.agg (cRos l), .agg (cRos m), vi .i64 a, vi .i64 b, vi .i64 k, vi .u64 v] [] (vb true) [] := by
  have r5 : evBin .rem (.sc (.int .u64 v)) (.sc (.int .u64 5)) = some (.sc (.int .u64 (v % 5))) := by
    rw [bin_rem _ _ _ (by decide), Int.tmod_eq_emod_of_nonneg hv.1]
  have r7 : evBin .rem (.sc (.int .u64 v)) (.sc (.int .u64 7)) = some (.sc (.int .u64 (v % 7))) := by
    rw [bin_rem _ _ _ (by decide), Int.tmod_eq_emod_of_nonneg hv.1]
  have w5 : IntKind.u64.wrap (1 + v % 5) = 1 + v % 5 := IntWalk.u64_in _ ⟨by omega, by omega⟩
  have h5 : 0 ≤ 1 + v % 5 ∧ 1 + v % 5 ≤ 18446744073709551615 := by omega
  have h7 : 0 ≤ v % 7 ∧ v % 7 ≤ 18446744073709551615 := by omega
  have a1 := andX_e a 255
  have a2 := andX_e b 1
  have a3 := andX_e k 7
  have a4 := andX_e b 255
  have s1 := shl1_e (andX k 7)
  have x1 := xorX_e (andX a 255) (shl1 (IntKind.u64.wrap (andX k 7)))
  have u1 := u64_ge (1 + v % 5 + IntKind.u64.wrap (andX b 1))
  have u2 := u64_le (1 + v % 5 + IntKind.u64.wrap (andX b 1))
  generalize xorX (andX a 255) (shl1 (IntKind.u64.wrap (andX k 7))) = X2 at *
  generalize andX a 255 = X1 at *
  generalize andX b 255 = X3 at *
  generalize shl1 (IntKind.u64.wrap (andX k 7)) = S1 at *
  generalize andX k 7 = K7 at *
  generalize andX b 1 = B1 at *
  generalize hV2 : IntKind.u64.wrap (1 + v % 5 + IntKind.u64.wrap B1) = V2 at *
  generalize v % 5 = V1 at *
  generalize v % 7 = V3 at *
  obtain ⟨x, cx, vx, lx⟩ := list14v_C (1 + V1) X1
  obtain ⟨y, cy, vy, ly⟩ := list14v_C V2 X2
  obtain ⟨z, cz, vz, lz⟩ := list14v_C V3 X3
  have lx' : x.members.l.length ≤ 9223372036854775807 := by omega
  have ly' : y.members.l.length ≤ 9223372036854775807 := by omega
  have lz' : z.members.l.length ≤ 9223372036854775807 := by omega
  have ks := sameL_C x z lx'
  rw [sameL_dec] at ks
  have kb := bookSame_C x.members z.members lx' lz'
  generalize decide (x.members.l = z.members.l) = q at *
  refine C_of mixed Try.func19 A_clavigerlaw14_RosterTells_ok A_clavigerlaw14_RosterTells_res _ A_clavigerlaw14_RosterTells_nt ?_
  by_cases hver : x.version = z.version
  · rw [decide_eq_true hver, Bool.true_and] at ks
    cases q
    · (repeat' (first | simp (maxSteps := 2000000) -implicitDefEqProofs only [A_clavigerlaw14_RosterTells, r5, r7, w5, a1, a2, a3, a4, s1, x1, hV2, hver, Int.reduceBNe, Int.reduceBEq, rk_ext, fk_ext, len_ints, idx_ints, cells_ints, len_lst, cells_lst, sm_c, sm_a, src_ints, zros_v, zros_m, ints_nil_l, lr_ros, lr, lr2, oO, oN, oG, oNG, oM, oF, oL, rg, ci, Nat.reduceEqDiff, Nat.reduceAdd, Nat.reduceSub, Int.reduceTDiv, Int.reduceTMod, ge_iff_le, Int.reduceGE, Nat.reducePow, Int.reduceEq, Int.reduceNeg, Int.reduceLE, Int.reducePow, Int.reduceLT, Int.reduceSub, Int.reduceAdd, Int.reduceMul, Int.reduceToNat, Option.map_some, ↓reduceIte, ite_not, beq_iff_eq, bne_iff_ne, ne_eq, beq_self_eq_true, beq_eq_false_iff_ne, bne_eq_false_iff_eq, resAll, resL, resV, reduceCtorEq, Option.some.injEq, exists_eq_left', blkAt, Nat.reduceLeDiff, Nat.reduceMul, eq_self, Nat.reduceLT, undef, fillV, evParts, footOp, wrOp, chk, disj, Nat.reduceBEq] | split | ((first | apply ck_call | apply cfk_call); (first | (apply call_pure (cx) cll cl) | (apply call_pure (cy) cll cl) | (apply call_pure (cz) cll cl) | (apply call_pure (after14_C x y lx' ly') cll cl) | (apply call_pure (same14_C l k hl hlv.1 hlv.2) cll cl) | (apply call_pure (same14_C x k lx' (by omega) (by omega)) cll cl) | (apply call_pure (same14_C z K7 lz' (by omega) (by omega)) cll cl) | (apply call_pure (folL_C x y lx' ly') cll cl) | (apply call_pure (folL_C l m hl hm) cll cl) | (apply call_pure (after14_C l m hl hm) cll cl) | (apply call_pure (folL_C x z lx' lz') cll cl) | (apply call_pure (after14_C x z lx' lz') cll cl) | (apply call_pure (ks) cll cl) | (apply call_pure (kb) cll cl) | (apply call_pure (known14_C) cll cl)))))
      exact out_eq rfl cl
    · (repeat' (first | simp (maxSteps := 2000000) -implicitDefEqProofs only [A_clavigerlaw14_RosterTells, r5, r7, w5, a1, a2, a3, a4, s1, x1, hV2, hver, Int.reduceBNe, Int.reduceBEq, rk_ext, fk_ext, len_ints, idx_ints, cells_ints, len_lst, cells_lst, sm_c, sm_a, src_ints, zros_v, zros_m, ints_nil_l, lr_ros, lr, lr2, oO, oN, oG, oNG, oM, oF, oL, rg, ci, Nat.reduceEqDiff, Nat.reduceAdd, Nat.reduceSub, Int.reduceTDiv, Int.reduceTMod, ge_iff_le, Int.reduceGE, Nat.reducePow, Int.reduceEq, Int.reduceNeg, Int.reduceLE, Int.reducePow, Int.reduceLT, Int.reduceSub, Int.reduceAdd, Int.reduceMul, Int.reduceToNat, Option.map_some, ↓reduceIte, ite_not, beq_iff_eq, bne_iff_ne, ne_eq, beq_self_eq_true, beq_eq_false_iff_ne, bne_eq_false_iff_eq, resAll, resL, resV, reduceCtorEq, Option.some.injEq, exists_eq_left', blkAt, Nat.reduceLeDiff, Nat.reduceMul, eq_self, Nat.reduceLT, undef, fillV, evParts, footOp, wrOp, chk, disj, Nat.reduceBEq] | split | ((first | apply ck_call | apply cfk_call); (first | (apply call_pure (cx) cll cl) | (apply call_pure (cy) cll cl) | (apply call_pure (cz) cll cl) | (apply call_pure (after14_C x y lx' ly') cll cl) | (apply call_pure (same14_C l k hl hlv.1 hlv.2) cll cl) | (apply call_pure (same14_C x k lx' (by omega) (by omega)) cll cl) | (apply call_pure (same14_C z K7 lz' (by omega) (by omega)) cll cl) | (apply call_pure (folL_C x y lx' ly') cll cl) | (apply call_pure (folL_C l m hl hm) cll cl) | (apply call_pure (after14_C l m hl hm) cll cl) | (apply call_pure (folL_C x z lx' lz') cll cl) | (apply call_pure (after14_C x z lx' lz') cll cl) | (apply call_pure (ks) cll cl) | (apply call_pure (kb) cll cl) | (apply call_pure (known14_C) cll cl)))))
      exact out_eq rfl cl
  · rw [decide_eq_false hver, Bool.false_and] at ks
    (repeat' (first | simp (maxSteps := 2000000) -implicitDefEqProofs only [A_clavigerlaw14_RosterTells, r5, r7, w5, a1, a2, a3, a4, s1, x1, hV2, hver, Int.reduceBNe, Int.reduceBEq, rk_ext, fk_ext, len_ints, idx_ints, cells_ints, len_lst, cells_lst, sm_c, sm_a, src_ints, zros_v, zros_m, ints_nil_l, lr_ros, lr, lr2, oO, oN, oG, oNG, oM, oF, oL, rg, ci, Nat.reduceEqDiff, Nat.reduceAdd, Nat.reduceSub, Int.reduceTDiv, Int.reduceTMod, ge_iff_le, Int.reduceGE, Nat.reducePow, Int.reduceEq, Int.reduceNeg, Int.reduceLE, Int.reducePow, Int.reduceLT, Int.reduceSub, Int.reduceAdd, Int.reduceMul, Int.reduceToNat, Option.map_some, ↓reduceIte, ite_not, beq_iff_eq, bne_iff_ne, ne_eq, beq_self_eq_true, beq_eq_false_iff_ne, bne_eq_false_iff_eq, resAll, resL, resV, reduceCtorEq, Option.some.injEq, exists_eq_left', blkAt, Nat.reduceLeDiff, Nat.reduceMul, eq_self, Nat.reduceLT, undef, fillV, evParts, footOp, wrOp, chk, disj, Nat.reduceBEq] | split | ((first | apply ck_call | apply cfk_call); (first | (apply call_pure (cx) cll cl) | (apply call_pure (cy) cll cl) | (apply call_pure (cz) cll cl) | (apply call_pure (after14_C x y lx' ly') cll cl) | (apply call_pure (same14_C l k hl hlv.1 hlv.2) cll cl) | (apply call_pure (same14_C x k lx' (by omega) (by omega)) cll cl) | (apply call_pure (same14_C z K7 lz' (by omega) (by omega)) cll cl) | (apply call_pure (folL_C x y lx' ly') cll cl) | (apply call_pure (folL_C l m hl hm) cll cl) | (apply call_pure (after14_C l m hl hm) cll cl) | (apply call_pure (folL_C x z lx' lz') cll cl) | (apply call_pure (after14_C x z lx' lz') cll cl) | (apply call_pure (ks) cll cl) | (apply call_pure (kb) cll cl) | (apply call_pure (known14_C) cll cl)))))
    exact out_eq rfl cl
end Go.Proofs.Ytmmaenfjnkoknaa.VA
