/- The shards' laws: what they answer. -/
import Derived.Test.YtlahigboaeadmaaCshard
import Derived.Test.YtlahigboaeadmaaV21
set_option maxRecDepth 100000
set_option linter.unusedVariables false
set_option linter.unusedSimpArgs false
namespace Go.Proofs.Ytlahigboaeadmaa.VA
open Go
noncomputable section

def tabShard : List Ent := [
  ⟨31, A_shard_Right, [.tmp 2], 9⟩,
  ⟨19, A_shard_First, [.tmp 4], 13⟩,
  ⟨17, A_shard_Home, [.tmp 2], 16⟩,
  ⟨18, A_clavigerlaw13_known, [.tmp 0], 27⟩,
  ⟨47, A_clavigerbook_Same_int, [.tmp 4], 26⟩]
theorem tabShard_ok : ∀ e ∈ tabShard, EntOK Try.prog e := by
  intro e he
  simp only [tabShard, List.mem_cons, List.not_mem_nil, or_false] at he
  rcases he with rfl | rfl | rfl | rfl | rfl
  · exact ⟨_, Try.func31, A_shard_Right_ok, A_shard_Right_res, A_shard_Right_nt⟩
  · exact ⟨_, Try.func19, A_shard_First_ok, A_shard_First_res, A_shard_First_nt⟩
  · exact ⟨_, Try.func17, A_shard_Home_ok, A_shard_Home_res, A_shard_Home_nt⟩
  · exact ⟨_, Try.func18, A_clavigerlaw13_known_ok, A_clavigerlaw13_known_res, A_clavigerlaw13_known_nt⟩
  · exact ⟨_, Try.func47, A_clavigerbook_Same_int_ok, A_clavigerbook_Same_int_res, A_clavigerbook_Same_int_nt⟩

theorem orcShard (d : Nat) : OrcOK Try.prog (tabO noO tabShard 200 d) := tabO_ok mixed (noO_ok _) tabShard_ok 200 d

theorem within_range (n lo hi : Int) (h : lo ≤ hi) : lo ≤ within n lo hi ∧ within n lo hi ≤ hi := by
  unfold within
  have h1 := Int.tmod_lt_of_pos n (show 0 < hi - lo + 1 by omega)
  have h2 := Int.lt_tmod_of_pos n (show 0 < hi - lo + 1 by omega)
  generalize n.tmod (hi - lo + 1) = r at *
  split
  · assumption
  · split <;> omega

theorem shardHomes_C (a : Int) : C Try.prog 3 [vi .i64 a] [] (vb true) [] := by
  refine C_of mixed Try.func3 A_clavigerlaw13_ShardHomes_ok A_clavigerlaw13_ShardHomes_res _ A_clavigerlaw13_ShardHomes_nt ?_
  simp -implicitDefEqProofs only [A_clavigerlaw13_ShardHomes, wk_skip, wk_region, wk_seq, wk_cond, wk_block, wk_exit, wk_ret, nk_fin, nk_seq, nk_blk, nk_lp, xk_fin, xk_seq, xk_blk, xk_lp, tk_fin, tk_seq, tk_blk, tk_lp, rk_nil, rk_guard, rk_mov, rk_bin, rk_pick, rk_eqB, rk_un, rk_conv, rk_lenC, rk_lenSl, rk_field, evOp, ev_t, ev_ci, ev_cb, List.length_cons, List.length_nil, Nat.reduceAdd, Nat.reduceSub, List.replicate_succ, List.replicate_zero, List.cons_append, List.nil_append, List.getD_cons_zero, List.getD_cons_succ, putS_some, putS_none, List.set_cons_zero, List.set_cons_succ, bin_geq, bin_leq, bin_lss, bin_gtr, bin_eql, bin_neq, bin_sub, bin_add, Option.map_some, decide_true, decide_false, ↓reduceIte, Bool.false_eq_true, Bool.true_eq_false, post_ret, post_normal, res_one, List.map_nil, reduceCtorEq, Option.some.injEq, exists_eq_left']
  refine rk_call _ _ (call_pure (within_C a 1 8 (by decide) (by decide) (by decide)) (by simp [ClosedL, Closed]) trivial) ?_
  have hr := within_range a 1 8 (by decide)
  generalize within a 1 8 = n at hr
  have hn : n = 1 ∨ n = 2 ∨ n = 3 ∨ n = 4 ∨ n = 5 ∨ n = 6 ∨ n = 7 ∨ n = 8 := by omega
  rcases hn with rfl | rfl | rfl | rfl | rfl | rfl | rfl | rfl
  all_goals exact rk_run (orcShard 5) 200 (by kernel_rfl)

end
end Go.Proofs.Ytlahigboaeadmaa.VA
