/- What the shards' functions do. -/
import Derived.Test.YtlahigboaeadmaaLshard
set_option linter.unusedVariables false
set_option linter.unusedSimpArgs false
set_option maxRecDepth 100000
namespace Go.Proofs.Ytlahigboaeadmaa.VA
open Go

def within (n lo hi : Int) : Int := if lo ≤ n ∧ n ≤ hi then n else lo + (if n.tmod (hi - lo + 1) < 0 then n.tmod (hi - lo + 1) + hi - lo + 1 else n.tmod (hi - lo + 1))

theorem mixed : Try.prog.follows .mixedOrders = true := by kernel_rfl

theorem within_C (n lo hi : Int) (h0 : 0 ≤ lo) (h1 : lo ≤ hi) (h2 : hi ≤ 2147483647) : C Try.prog 16 [vi .i64 n, vi .i64 lo, vi .i64 hi] [] (vi .i64 (within n lo hi)) [] := by
  refine C_of mixed Try.func16 A_clavigerbook_Within_ok A_clavigerbook_Within_res _ A_clavigerbook_Within_nt ?_
  have e1 : IntKind.i64.wrap (hi - lo) = hi - lo := wrap_id _ (by omega) (by omega)
  have e2 : IntKind.i64.wrap (hi - lo + 1) = hi - lo + 1 := wrap_id _ (by omega) (by omega)
  have hne : hi - lo + 1 ≠ 0 := by omega
  by_cases ha : n ≥ lo ∧ n ≤ hi
  · have hw : within n lo hi = n := by unfold within; rw [if_pos ha]
    obtain ⟨ha, hb⟩ := ha
    rw [hw]
    simp -implicitDefEqProofs only [A_clavigerbook_Within, ha, hb, wk_skip, wk_region, wk_seq, wk_cond, wk_block, wk_exit, wk_ret, nk_fin, nk_seq, nk_blk, nk_lp, xk_fin, xk_seq, xk_blk, xk_lp, tk_fin, tk_seq, tk_blk, tk_lp, rk_nil, rk_guard, rk_mov, rk_bin, rk_pick, rk_eqB, rk_un, rk_conv, rk_lenC, rk_lenSl, rk_field, evOp, ev_t, ev_ci, ev_cb, List.length_cons, List.length_nil, Nat.reduceAdd, Nat.reduceSub, List.replicate_succ, List.replicate_zero, List.cons_append, List.nil_append, List.getD_cons_zero, List.getD_cons_succ, putS_some, putS_none, List.set_cons_zero, List.set_cons_succ, bin_geq, bin_leq, bin_lss, bin_gtr, bin_eql, bin_neq, bin_sub, bin_add, Option.map_some, decide_true, decide_false, ↓reduceIte, Bool.false_eq_true, Bool.true_eq_false, post_ret, post_normal, res_one, List.map_nil, reduceCtorEq, Option.some.injEq, exists_eq_left']
    exact out_val (by trivial)
  · have hr := Int.tmod_lt_of_pos n (show 0 < hi - lo + 1 by omega)
    have hr2 := Int.lt_tmod_of_pos n (show 0 < hi - lo + 1 by omega)
    have hw : within n lo hi = lo + (if n.tmod (hi - lo + 1) < 0 then n.tmod (hi - lo + 1) + hi - lo + 1 else n.tmod (hi - lo + 1)) := by unfold within; rw [if_neg ha]
    rw [hw]
    have hrem := bin_rem .i64 n (hi - lo + 1) hne
    have key : ∀ b : Bool, (if n ≥ lo then decide (n ≤ hi) else false) = false := by
      intro b; split
      · simp; omega
      · rfl
    generalize n.tmod (hi - lo + 1) = r at *
    by_cases hneg : r < 0
    · have e3 : IntKind.i64.wrap (r + hi) = r + hi := wrap_id _ (by omega) (by omega)
      have e4 : IntKind.i64.wrap (r + hi - lo) = r + hi - lo := wrap_id _ (by omega) (by omega)
      have e5 : IntKind.i64.wrap (r + hi - lo + 1) = r + hi - lo + 1 := wrap_id _ (by omega) (by omega)
      have e6 : IntKind.i64.wrap (lo + (r + hi - lo + 1)) = lo + (r + hi - lo + 1) := wrap_id _ (by omega) (by omega)
      by_cases ha1 : n ≥ lo
      · have hb : ¬ n ≤ hi := fun h => ha ⟨ha1, h⟩
        simp -implicitDefEqProofs only [A_clavigerbook_Within, ha1, hb, hneg, hrem, e1, e2, e3, e4, e5, e6, wk_skip, wk_region, wk_seq, wk_cond, wk_block, wk_exit, wk_ret, nk_fin, nk_seq, nk_blk, nk_lp, xk_fin, xk_seq, xk_blk, xk_lp, tk_fin, tk_seq, tk_blk, tk_lp, rk_nil, rk_guard, rk_mov, rk_bin, rk_pick, rk_eqB, rk_un, rk_conv, rk_lenC, rk_lenSl, rk_field, evOp, ev_t, ev_ci, ev_cb, List.length_cons, List.length_nil, Nat.reduceAdd, Nat.reduceSub, List.replicate_succ, List.replicate_zero, List.cons_append, List.nil_append, List.getD_cons_zero, List.getD_cons_succ, putS_some, putS_none, List.set_cons_zero, List.set_cons_succ, bin_geq, bin_leq, bin_lss, bin_gtr, bin_eql, bin_neq, bin_sub, bin_add, Option.map_some, decide_true, decide_false, ↓reduceIte, Bool.false_eq_true, Bool.true_eq_false, post_ret, post_normal, res_one, List.map_nil, reduceCtorEq, Option.some.injEq, exists_eq_left']
        exact out_val (by trivial)
      · simp -implicitDefEqProofs only [A_clavigerbook_Within, ha1, hneg, hrem, e1, e2, e3, e4, e5, e6, wk_skip, wk_region, wk_seq, wk_cond, wk_block, wk_exit, wk_ret, nk_fin, nk_seq, nk_blk, nk_lp, xk_fin, xk_seq, xk_blk, xk_lp, tk_fin, tk_seq, tk_blk, tk_lp, rk_nil, rk_guard, rk_mov, rk_bin, rk_pick, rk_eqB, rk_un, rk_conv, rk_lenC, rk_lenSl, rk_field, evOp, ev_t, ev_ci, ev_cb, List.length_cons, List.length_nil, Nat.reduceAdd, Nat.reduceSub, List.replicate_succ, List.replicate_zero, List.cons_append, List.nil_append, List.getD_cons_zero, List.getD_cons_succ, putS_some, putS_none, List.set_cons_zero, List.set_cons_succ, bin_geq, bin_leq, bin_lss, bin_gtr, bin_eql, bin_neq, bin_sub, bin_add, Option.map_some, decide_true, decide_false, ↓reduceIte, Bool.false_eq_true, Bool.true_eq_false, post_ret, post_normal, res_one, List.map_nil, reduceCtorEq, Option.some.injEq, exists_eq_left']
        exact out_val (by trivial)
    · have e6 : IntKind.i64.wrap (lo + r) = lo + r := wrap_id _ (by omega) (by omega)
      by_cases ha1 : n ≥ lo
      · have hb : ¬ n ≤ hi := fun h => ha ⟨ha1, h⟩
        simp -implicitDefEqProofs only [A_clavigerbook_Within, ha1, hb, hneg, hrem, e1, e2, e6, wk_skip, wk_region, wk_seq, wk_cond, wk_block, wk_exit, wk_ret, nk_fin, nk_seq, nk_blk, nk_lp, xk_fin, xk_seq, xk_blk, xk_lp, tk_fin, tk_seq, tk_blk, tk_lp, rk_nil, rk_guard, rk_mov, rk_bin, rk_pick, rk_eqB, rk_un, rk_conv, rk_lenC, rk_lenSl, rk_field, evOp, ev_t, ev_ci, ev_cb, List.length_cons, List.length_nil, Nat.reduceAdd, Nat.reduceSub, List.replicate_succ, List.replicate_zero, List.cons_append, List.nil_append, List.getD_cons_zero, List.getD_cons_succ, putS_some, putS_none, List.set_cons_zero, List.set_cons_succ, bin_geq, bin_leq, bin_lss, bin_gtr, bin_eql, bin_neq, bin_sub, bin_add, Option.map_some, decide_true, decide_false, ↓reduceIte, Bool.false_eq_true, Bool.true_eq_false, post_ret, post_normal, res_one, List.map_nil, reduceCtorEq, Option.some.injEq, exists_eq_left']
        exact out_val (by trivial)
      · simp -implicitDefEqProofs only [A_clavigerbook_Within, ha1, hneg, hrem, e1, e2, e6, wk_skip, wk_region, wk_seq, wk_cond, wk_block, wk_exit, wk_ret, nk_fin, nk_seq, nk_blk, nk_lp, xk_fin, xk_seq, xk_blk, xk_lp, tk_fin, tk_seq, tk_blk, tk_lp, rk_nil, rk_guard, rk_mov, rk_bin, rk_pick, rk_eqB, rk_un, rk_conv, rk_lenC, rk_lenSl, rk_field, evOp, ev_t, ev_ci, ev_cb, List.length_cons, List.length_nil, Nat.reduceAdd, Nat.reduceSub, List.replicate_succ, List.replicate_zero, List.cons_append, List.nil_append, List.getD_cons_zero, List.getD_cons_succ, putS_some, putS_none, List.set_cons_zero, List.set_cons_succ, bin_geq, bin_leq, bin_lss, bin_gtr, bin_eql, bin_neq, bin_sub, bin_add, Option.map_some, decide_true, decide_false, ↓reduceIte, Bool.false_eq_true, Bool.true_eq_false, post_ret, post_normal, res_one, List.map_nil, reduceCtorEq, Option.some.injEq, exists_eq_left']
        exact out_val (by trivial)

end Go.Proofs.Ytlahigboaeadmaa.VA
