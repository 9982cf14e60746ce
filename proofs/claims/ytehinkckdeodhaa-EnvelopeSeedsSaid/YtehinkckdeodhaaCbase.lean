/- What Within does. -/
import Derived.Test.YtehinkckdeodhaaLbase
import Derived.Test.YtehinkckdeodhaaVC
set_option linter.unusedVariables false
set_option linter.unusedSimpArgs false
set_option maxRecDepth 100000
namespace Go.Proofs.Ytehinkckdeodhaa.VA
open Go
attribute [local irreducible] WK NK XK TK RK FK CK CFK CallRel C

def within (n lo hi : Int) : Int := if lo ≤ n ∧ n ≤ hi then n else lo + (if n.tmod (hi - lo + 1) < 0 then n.tmod (hi - lo + 1) + hi - lo + 1 else n.tmod (hi - lo + 1))

theorem mixed : Try.prog.follows .mixedOrders = true := by kernel_rfl

theorem within_C (n lo hi : Int) (h0 : 0 ≤ lo) (h1 : lo ≤ hi) (h2 : hi ≤ 2147483647) : C Try.prog 30 [vi .i64 n, vi .i64 lo, vi .i64 hi] [] (vi .i64 (within n lo hi)) [] := by
  refine C_of mixed Try.func30 A_clavigerbook_Within_ok A_clavigerbook_Within_res _ A_clavigerbook_Within_nt ?_
  have e1 : IntKind.i64.wrap (hi - lo) = hi - lo := wrap_id _ (by omega) (by omega)
  have e2 : IntKind.i64.wrap (hi - lo + 1) = hi - lo + 1 := wrap_id _ (by omega) (by omega)
  have hne : hi - lo + 1 ≠ 0 := by omega
  by_cases ha : n ≥ lo ∧ n ≤ hi
  · have hw : within n lo hi = n := by unfold within; rw [if_pos ha]
    obtain ⟨ha, hb⟩ := ha
    rw [hw]
    simp -implicitDefEqProofs only [A_clavigerbook_Within, ha, hb, lr, Nat.reduceEqDiff, List.length_cons, List.length_nil, Nat.reduceAdd, Nat.reduceSub, List.replicate_zero, List.cons_append, List.nil_append, List.getD_cons_zero, List.getD_cons_succ, List.set_cons_zero, List.set_cons_succ, Int.reduceTDiv, Int.reduceTMod, ge_iff_le, Int.reduceGE, List.drop_zero, List.length_set, List.length_replicate, Nat.reducePow, Int.reduceEq, Int.reduceNeg, Int.reduceLE, Int.reducePow, Int.reduceLT, Int.reduceSub, Int.reduceAdd, Int.reduceMul, Int.reduceToNat, Option.map_some, ↓reduceIte, ite_not, beq_iff_eq, bne_iff_ne, ne_eq, beq_self_eq_true, beq_eq_false_iff_ne, bne_eq_false_iff_eq, resAll, resL, resV, List.map_nil, reduceCtorEq, Option.some.injEq, exists_eq_left', blkAt, Nat.reduceLeDiff, Nat.reduceMul, List.getElem?_cons_zero, List.getElem?_cons_succ, eq_self, Nat.reduceLT, List.map_cons, undef, fillV, evParts, footOp, wrOp, chk, disj, List.all_cons, List.all_nil, List.contains_cons, List.contains_nil, Nat.reduceBEq, List.append_nil]
    exact out_val (by trivial)
  · have hr := Int.tmod_lt_of_pos n (show 0 < hi - lo + 1 by omega)
    have hr2 := Int.lt_tmod_of_pos n (show 0 < hi - lo + 1 by omega)
    have hw : within n lo hi = lo + (if n.tmod (hi - lo + 1) < 0 then n.tmod (hi - lo + 1) + hi - lo + 1 else n.tmod (hi - lo + 1)) := by unfold within; rw [if_neg ha]
    rw [hw]
    have hrem := bin_rem .i64 n (hi - lo + 1) hne
    have key : ∀ b : Bool, (if n ≥ lo then decide (n ≤ hi) else false) = false := by
      intro b; split
      · simp; omega
      · rfl
    generalize n.tmod (hi - lo + 1) = r at *
    by_cases hneg : r < 0
    · have e3 : IntKind.i64.wrap (r + hi) = r + hi := wrap_id _ (by omega) (by omega)
      have e4 : IntKind.i64.wrap (r + hi - lo) = r + hi - lo := wrap_id _ (by omega) (by omega)
      have e5 : IntKind.i64.wrap (r + hi - lo + 1) = r + hi - lo + 1 := wrap_id _ (by omega) (by omega)
      have e6 : IntKind.i64.wrap (lo + (r + hi - lo + 1)) = lo + (r + hi - lo + 1) := wrap_id _ (by omega) (by omega)
      by_cases ha1 : n ≥ lo
      · have hb : ¬ n ≤ hi := fun h => ha ⟨ha1, h⟩
        simp -implicitDefEqProofs only [A_clavigerbook_Within, ha1, hb, hneg, hrem, e1, e2, e3, e4, e5, e6, lr, Nat.reduceEqDiff, List.length_cons, List.length_nil, Nat.reduceAdd, Nat.reduceSub, List.replicate_zero, List.cons_append, List.nil_append, List.getD_cons_zero, List.getD_cons_succ, List.set_cons_zero, List.set_cons_succ, Int.reduceTDiv, Int.reduceTMod, ge_iff_le, Int.reduceGE, List.drop_zero, List.length_set, List.length_replicate, Nat.reducePow, Int.reduceEq, Int.reduceNeg, Int.reduceLE, Int.reducePow, Int.reduceLT, Int.reduceSub, Int.reduceAdd, Int.reduceMul, Int.reduceToNat, Option.map_some, ↓reduceIte, ite_not, beq_iff_eq, bne_iff_ne, ne_eq, beq_self_eq_true, beq_eq_false_iff_ne, bne_eq_false_iff_eq, resAll, resL, resV, List.map_nil, reduceCtorEq, Option.some.injEq, exists_eq_left', blkAt, Nat.reduceLeDiff, Nat.reduceMul, List.getElem?_cons_zero, List.getElem?_cons_succ, eq_self, Nat.reduceLT, List.map_cons, undef, fillV, evParts, footOp, wrOp, chk, disj, List.all_cons, List.all_nil, List.contains_cons, List.contains_nil, Nat.reduceBEq, List.append_nil]
        exact out_val (by trivial)
      · simp -implicitDefEqProofs only [A_clavigerbook_Within, ha1, hneg, hrem, e1, e2, e3, e4, e5, e6, lr, Nat.reduceEqDiff, List.length_cons, List.length_nil, Nat.reduceAdd, Nat.reduceSub, List.replicate_zero, List.cons_append, List.nil_append, List.getD_cons_zero, List.getD_cons_succ, List.set_cons_zero, List.set_cons_succ, Int.reduceTDiv, Int.reduceTMod, ge_iff_le, Int.reduceGE, List.drop_zero, List.length_set, List.length_replicate, Nat.reducePow, Int.reduceEq, Int.reduceNeg, Int.reduceLE, Int.reducePow, Int.reduceLT, Int.reduceSub, Int.reduceAdd, Int.reduceMul, Int.reduceToNat, Option.map_some, ↓reduceIte, ite_not, beq_iff_eq, bne_iff_ne, ne_eq, beq_self_eq_true, beq_eq_false_iff_ne, bne_eq_false_iff_eq, resAll, resL, resV, List.map_nil, reduceCtorEq, Option.some.injEq, exists_eq_left', blkAt, Nat.reduceLeDiff, Nat.reduceMul, List.getElem?_cons_zero, List.getElem?_cons_succ, eq_self, Nat.reduceLT, List.map_cons, undef, fillV, evParts, footOp, wrOp, chk, disj, List.all_cons, List.all_nil, List.contains_cons, List.contains_nil, Nat.reduceBEq, List.append_nil]
        exact out_val (by trivial)
    · have e6 : IntKind.i64.wrap (lo + r) = lo + r := wrap_id _ (by omega) (by omega)
      by_cases ha1 : n ≥ lo
      · have hb : ¬ n ≤ hi := fun h => ha ⟨ha1, h⟩
        simp -implicitDefEqProofs only [A_clavigerbook_Within, ha1, hb, hneg, hrem, e1, e2, e6, lr, Nat.reduceEqDiff, List.length_cons, List.length_nil, Nat.reduceAdd, Nat.reduceSub, List.replicate_zero, List.cons_append, List.nil_append, List.getD_cons_zero, List.getD_cons_succ, List.set_cons_zero, List.set_cons_succ, Int.reduceTDiv, Int.reduceTMod, ge_iff_le, Int.reduceGE, List.drop_zero, List.length_set, List.length_replicate, Nat.reducePow, Int.reduceEq, Int.reduceNeg, Int.reduceLE, Int.reducePow, Int.reduceLT, Int.reduceSub, Int.reduceAdd, Int.reduceMul, Int.reduceToNat, Option.map_some, ↓reduceIte, ite_not, beq_iff_eq, bne_iff_ne, ne_eq, beq_self_eq_true, beq_eq_false_iff_ne, bne_eq_false_iff_eq, resAll, resL, resV, List.map_nil, reduceCtorEq, Option.some.injEq, exists_eq_left', blkAt, Nat.reduceLeDiff, Nat.reduceMul, List.getElem?_cons_zero, List.getElem?_cons_succ, eq_self, Nat.reduceLT, List.map_cons, undef, fillV, evParts, footOp, wrOp, chk, disj, List.all_cons, List.all_nil, List.contains_cons, List.contains_nil, Nat.reduceBEq, List.append_nil]
        exact out_val (by trivial)
      · simp -implicitDefEqProofs only [A_clavigerbook_Within, ha1, hneg, hrem, e1, e2, e6, lr, Nat.reduceEqDiff, List.length_cons, List.length_nil, Nat.reduceAdd, Nat.reduceSub, List.replicate_zero, List.cons_append, List.nil_append, List.getD_cons_zero, List.getD_cons_succ, List.set_cons_zero, List.set_cons_succ, Int.reduceTDiv, Int.reduceTMod, ge_iff_le, Int.reduceGE, List.drop_zero, List.length_set, List.length_replicate, Nat.reducePow, Int.reduceEq, Int.reduceNeg, Int.reduceLE, Int.reducePow, Int.reduceLT, Int.reduceSub, Int.reduceAdd, Int.reduceMul, Int.reduceToNat, Option.map_some, ↓reduceIte, ite_not, beq_iff_eq, bne_iff_ne, ne_eq, beq_self_eq_true, beq_eq_false_iff_ne, bne_eq_false_iff_eq, resAll, resL, resV, List.map_nil, reduceCtorEq, Option.some.injEq, exists_eq_left', blkAt, Nat.reduceLeDiff, Nat.reduceMul, List.getElem?_cons_zero, List.getElem?_cons_succ, eq_self, Nat.reduceLT, List.map_cons, undef, fillV, evParts, footOp, wrOp, chk, disj, List.all_cons, List.all_nil, List.contains_cons, List.contains_nil, Nat.reduceBEq, List.append_nil]
        exact out_val (by trivial)

theorem within_range (n lo hi : Int) (h : lo ≤ hi) : lo ≤ within n lo hi ∧ within n lo hi ≤ hi := by
  unfold within
  have h1 := Int.tmod_lt_of_pos n (show 0 < hi - lo + 1 by omega)
  have h2 := Int.lt_tmod_of_pos n (show 0 < hi - lo + 1 by omega)
  generalize n.tmod (hi - lo + 1) = r at *
  split
  · assumption
  · split <;> omega

end Go.Proofs.Ytehinkckdeodhaa.VA
