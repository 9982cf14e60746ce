/- The shards' laws: what they answer. -/
import Derived.Test.YtlahigboaeadmaaCshard
import Derived.Test.YtlahigboaeadmaaV21
set_option maxRecDepth 100000
set_option linter.unusedVariables false
set_option linter.unusedSimpArgs false
namespace Go.Proofs.Ytlahigboaeadmaa.VA
open Go
attribute [local irreducible] WK NK XK TK RK FK CK CFK CallRel C
noncomputable section

def tabShard : List Ent := [
  ⟨31, A_shard_Right, [.tmp 2], 9⟩,
  ⟨19, A_shard_First, [.tmp 4], 13⟩,
  ⟨17, A_shard_Home, [.tmp 2], 16⟩,
  ⟨18, A_clavigerlaw13_known, [.tmp 0], 27⟩,
  ⟨47, A_clavigerbook_Same_int, [.tmp 4], 26⟩]
theorem tabShard_ok : ∀ e ∈ tabShard, EntOK Try.prog e := by
  intro e he
  simp only [tabShard, List.mem_cons, List.not_mem_nil, or_false] at he
  rcases he with rfl | rfl | rfl | rfl | rfl
  · exact ⟨_, Try.func31, A_shard_Right_ok, A_shard_Right_res, A_shard_Right_nt⟩
  · exact ⟨_, Try.func19, A_shard_First_ok, A_shard_First_res, A_shard_First_nt⟩
  · exact ⟨_, Try.func17, A_shard_Home_ok, A_shard_Home_res, A_shard_Home_nt⟩
  · exact ⟨_, Try.func18, A_clavigerlaw13_known_ok, A_clavigerlaw13_known_res, A_clavigerlaw13_known_nt⟩
  · exact ⟨_, Try.func47, A_clavigerbook_Same_int_ok, A_clavigerbook_Same_int_res, A_clavigerbook_Same_int_nt⟩

theorem orcShard (d : Nat) : OrcOK Try.prog (tabO noO tabShard 200 d) := tabO_ok mixed (noO_ok _) tabShard_ok 200 d


theorem shardHomes_C (a : Int) : C Try.prog 3 [vi .i64 a] [] (vb true) [] := by
  refine C_of mixed Try.func3 A_clavigerlaw13_ShardHomes_ok A_clavigerlaw13_ShardHomes_res _ A_clavigerlaw13_ShardHomes_nt ?_
  simp -implicitDefEqProofs only [A_clavigerlaw13_ShardHomes, wk_skip, wk_region, wk_regionF, wk_seq, wk_cond, wk_block, wk_exit, wk_ret, nk_fin, nk_seq, nk_blk, nk_lp, xk_fin, xk_seq, xk_blk, xk_lp, tk_fin, tk_seq, tk_blk, tk_lp, rk_nil, rk_guard', rk_mov, rk_bin, rk_pick, rk_eqB, rk_un, rk_conv, rk_lenC, rk_lenSl, rk_field, rk_box, rk_alloc, rk_load, rk_store, rk_fieldAddr, rk_build, rk_extract, rk_eqA, rk_callK, fk_callK, rk_minmax, rk_buildSl, rk_nilChk, rk_eqNil, rk_same, rk_mark, rk_toStr, rk_toBytes, rk_mkSl, rk_sliceArr, rk_sliceSl, rk_sliceStr, rk_idxArr, rk_idxSl, rk_indexArr, rk_indexStr, rk_lenStr, rk_append, rk_copy, rk_mkFunc, fk_nil, fk_guard', fk_mov, fk_bin, fk_pick, fk_eqB, fk_un, fk_conv, fk_lenC, fk_lenSl, fk_field, fk_box, fk_alloc, fk_load, fk_store, fk_fieldAddr, fk_build, fk_extract, fk_eqA, fk_buildSl, fk_nilChk, fk_eqNil, fk_same, fk_mark, fk_toStr, fk_toBytes, fk_mkSl, fk_sliceArr, fk_sliceSl, fk_sliceStr, fk_idxArr, fk_idxSl, fk_indexArr, fk_indexStr, fk_lenStr, fk_append, fk_copy, fk_mkFunc, op_mov, op_pick, op_alloc, op_box, op_build, op_buildSlB, blk_z1, blk_cons, asB_nil, asB_cons, asB_consV, consB_bs, z1_sc, wrap8_lo, wrap8_hi, u8_lo, u8_hi, app_sref, app_nil, app_bs, sl_sref, src_sref, src_nil, sl_nil, slB_all, slB_dg, zc_z1, toBytes_st, strOf_bs, strOf_nil, rk_mark, fk_mark, ids_nil, ids_cons, ids_sc, ids_agg, ids_dg, ids_bs, ids_row, ids_ints, ids_sref, ids_ref, ids_sl, rd_drop1, sp_bs, sp_bsV, lk_succ, st_of, op_load, op_store, op_nilChk, op_bin, op_eqB, op_eqA, op_eqNil, op_un, op_conv, op_same, op_mark, op_toStr, op_toBytes, op_mkSl, op_sliceArr, op_sliceSl, op_sliceStr, op_fieldAddr, op_field, op_idxArr, op_idxSl, op_indexArr, op_indexStr, op_extract, op_lenC, op_lenStr, op_lenSl, op_minmax, op_append, op_copy, op_mkFunc, intOf_int, allInts_nil, allInts_cons, mn2, mx2, cells_row, cells_ints, len_ints, idx_ints, len_row, len_sref, len_nil, len_sl, sl_row, src_row, slice_row, slice_nil, bn_len, Nat.reduceEqDiff, idx_row, idx_sref, idx_sl, load_ref, load_box, slice_sref, st_eq, st_ne, ev_t, ev_ci, ev_cb, ev_cs, ev_csl, List.length_cons, List.length_nil, Nat.reduceAdd, Nat.reduceSub, Nat.zero_add, rep_dead, List.replicate_zero, List.cons_append, List.nil_append, List.getD_cons_zero, List.getD_cons_succ, putS_some, putS_none, List.set_cons_zero, List.set_cons_succ, bin_geq, bin_leq, bin_lss, bin_gtr, bin_eql, bin_neq, bin_sub, bin_add, bin_mul, bin_and, or_u32z, or_u32, xor_u32, xor_u8, bs_len, nums_len, bin_rem, quo_u64, quo_u32, quo_i64, Nat.div_one, Int.reduceTDiv, Int.reduceTMod, shr_u64, shr_u32, shl_u32, shl_u64, shl_u32z, rd_bs0, ge_iff_le, Int.reduceGE, i64_id, u64_id, u8_id, u32_id, by8_wrap, w32_u8, w32_add, w32_xor, w32_or, row_l_of, row_l_nil, rd_bs_drop, eqnil_nil, eqnil_sl, eqnil_sref, eqnil_of, eqnil_rnil, List.drop_zero, List.nil_append, List.length_set, List.length_replicate, Nat.reducePow, Int.reduceEq, Int.reduceNeg, Int.reduceLE, Int.reducePow, Int.le_refl, Int.one_mul, Nat.one_mul, Nat.zero_mul, Nat.add_zero, Nat.sub_zero, Int.reduceLT, Int.reduceSub, Int.reduceAdd, Int.reduceMul, Int.reduceToNat, not_false_eq_true, un_not, Option.map_some, decide_true, decide_false, ↓reduceIte, Bool.false_eq_true, Bool.true_eq_false, decide_eq_true_eq, decide_eq_false_iff_not, Bool.not_eq_true', Bool.not_eq_eq_eq_not, Bool.not_true, Bool.not_false, ite_not, beq_iff_eq, bne_iff_ne, ne_eq, beq_self_eq_true, beq_eq_false_iff_ne, bne_eq_false_iff_eq, post_ret, post_normal, res_one, resAll, resL, resV, List.map_nil, reduceCtorEq, Option.some.injEq, exists_eq_left', cellsV_int, cellsV_bool, cellsV_str, cellsV_nil, cellsV_agg, cellsV_sl, cellsV_ref, cellsV_sref, cellsV_box, cellsV_fn, blkAt, rd_n0, rd_nS, rd_sE, sp_0, sp_S, sp_all, zl_0, zl_S, sp_dgV, sp_dg8, bnd_none, bnd_some, sm_app1, sm_nil, sm_one, dg_len, z4_sc, z16_sc, eq_dg4, eq_dg16, Nat.reduceLeDiff, Nat.reduceMul, Nat.le_refl, List.getElem?_cons_zero, List.getElem?_cons_succ, eq_self, Nat.mul_one, Int.toNat_natCast, Int.cast_ofNat_Int, Nat.reduceLT, and_self, and_true, true_and, List.map_cons, undef, fillV, evParts, footOp, wrOp, idV, chk, disj, List.all_cons, List.all_nil, List.contains_cons, List.contains_nil, Nat.reduceBEq, Bool.or_false, Bool.false_or, Bool.and_self, Bool.and_true, Bool.true_and, List.append_nil]
  refine ck_call _ _ (call_pure (within_C a 1 8 (by decide) (by decide) (by decide)) (by simp [ClosedL, Closed]) trivial) ?_
  have hr := within_range a 1 8 (by decide)
  generalize within a 1 8 = n at hr
  have hn : n = 1 ∨ n = 2 ∨ n = 3 ∨ n = 4 ∨ n = 5 ∨ n = 6 ∨ n = 7 ∨ n = 8 := by omega
  rcases hn with rfl | rfl | rfl | rfl | rfl | rfl | rfl | rfl
  all_goals exact rk_run (orcShard 5) 200 (by kernel_rfl)

end
end Go.Proofs.Ytlahigboaeadmaa.VA
