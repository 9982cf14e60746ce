/- Rosters: the chapter's own runs. -/
import Derived.Test.YtmmaenfjnkoknaaFend
import Derived.Test.YtmmaenfjnkoknaaJros
import Derived.Test.YtmmaenfjnkoknaaVC
set_option linter.unusedVariables false
set_option linter.unusedSimpArgs false
set_option maxRecDepth 100000
namespace Go.Proofs.Ytmmaenfjnkoknaa.VA
open Go
attribute [local irreducible] WK NK XK TK RK FK CK CFK CallRel C
attribute [local irreducible] RosP majL setV bitX bitsU anX orX shl1 hasL folL
theorem out_tupA {H : Heap} {v : Int} {n : Nat} {x : V} {cells : List V} (hb : blkAt H 0 = some cells) (hx : Closed x) (hc : ClosedL cells) : OutOK 1 H (.tup [.agg (gRos_members ⟨v, .nil⟩ (.sref 0 0 n 1)), x]) (.tup [.agg [vi .u64 v, .sref 0 0 n 1], x]) [some cells] := by
  refine ⟨[0], [], by simp, rfl, Nat.le_refl _, fun k h => by match k, h with | 0, _ => rfl, (fun _ h => by cases h), ?_, fun k c h => ?_⟩
  · show ArgRel H [0] [] (.tup [.agg [vi .u64 v, .sref 0 0 n 1], x]) _
    simp only [ArgRel]
    refine ⟨_, rfl, argL_cons ?_ (argL_cons (arg_closed x hx) argL_nil)⟩
    simp only [ArgRel]
    exact ⟨_, rfl, argL_cons (arg_closed _ trivial) (argL_cons (by simp only [ArgRel]; exact .inl ⟨0, rfl, rfl⟩) argL_nil)⟩
  · cases k with
    | zero => simp at h; subst h; exact ⟨0, cells, rfl, hb, argL_closed cells hc⟩
    | succ k => simp at h
theorem soO_C (v : Int) (l : List Int) (n : Nat) (hn : n = l.length) (hr : RosP ⟨v, .of l⟩) : C Try.prog 154 [.agg (gRos_members ⟨v, .nil⟩ (.sref 0 0 n 1))] [l.map (vi .i64)] (.tup [.agg [vi .u64 v, .sref 0 0 n 1], vb true]) [some (l.map (vi .i64))] := by
  subst hn
  refine C_of mixed Try.func154 A_roster_so_ok A_roster_so_res _ A_roster_so_nt ?_
  (repeat' (first | simp (maxSteps := 2000000) -implicitDefEqProofs only [A_roster_so, hr, Int.reduceBNe, Int.reduceBEq, rk_ext, fk_ext, len_ints, idx_ints, cells_ints, len_lst, cells_lst, sm_c, sm_a, src_ints, zros_v, zros_m, ints_nil_l, lr_ros, lr, lr2, oO, oN, oG, oNG, oM, oF, oL, rg, ci, Nat.reduceEqDiff, Nat.reduceAdd, Nat.reduceSub, Int.reduceTDiv, Int.reduceTMod, ge_iff_le, Int.reduceGE, Nat.reducePow, Int.reduceEq, Int.reduceNeg, Int.reduceLE, Int.reducePow, Int.reduceLT, Int.reduceSub, Int.reduceAdd, Int.reduceMul, Int.reduceToNat, Option.map_some, ↓reduceIte, ite_not, beq_iff_eq, bne_iff_ne, ne_eq, beq_self_eq_true, beq_eq_false_iff_ne, bne_eq_false_iff_eq, resAll, resL, resV, reduceCtorEq, Option.some.injEq, exists_eq_left', blkAt, Nat.reduceLeDiff, Nat.reduceMul, eq_self, Nat.reduceLT, undef, fillV, evParts, footOp, wrOp, chk, disj, Nat.reduceBEq] | split | ((first | apply ck_call | apply cfk_call); (first | (apply call_roA (rightL_C ⟨v, .of l⟩); (simp [ids_nil, ids_cons, ids_sc, ids_agg, ids_dg, ids_bs, ids_row, ids_ints, ids_sref, ids_ref, ids_sl, gRos_ids, cRos_ids, blkAt] <;> fail); (repeat' (first | exact args_n | apply args_c | (first | (first | exact arg_closed _ cl | (refine arg_rowA rfl mem ?_; (first | rfl | omega | (simp [bn_len] <;> fail) | (simp [bn_len]; omega))) | (refine arg_row rfl mem ?_; (first | rfl | omega | (simp [bn_len] <;> fail) | (simp [bn_len]; omega))) | (refine arg_fld mem ?_ ?_; (first | rfl | omega | (simp [bn_len] <;> fail) | (simp [bn_len]; omega)); (simp only [Int.reduceBNe, Int.reduceBEq, rk_ext, fk_ext, len_ints, idx_ints, cells_ints, len_lst, cells_lst, sm_c, sm_a, src_ints, zros_v, zros_m, ints_nil_l, lr_ros, blkAt, List.getD_cons_zero, List.getD_cons_succ, Option.bind_some, rd_sE] <;> fail)) | (refine arg_sl rfl mem ?_ cll; first | rfl | (simp [cVot_len] <;> fail))) | (refine arg_agg (argG_Ros_members _ ?_); (first | exact arg_closed _ cl | (refine arg_rowA rfl mem ?_; (first | rfl | omega | (simp [bn_len] <;> fail) | (simp [bn_len]; omega))) | (refine arg_row rfl mem ?_; (first | rfl | omega | (simp [bn_len] <;> fail) | (simp [bn_len]; omega))) | (refine arg_fld mem ?_ ?_; (first | rfl | omega | (simp [bn_len] <;> fail) | (simp [bn_len]; omega)); (simp only [Int.reduceBNe, Int.reduceBEq, rk_ext, fk_ext, len_ints, idx_ints, cells_ints, len_lst, cells_lst, sm_c, sm_a, src_ints, zros_v, zros_m, ints_nil_l, lr_ros, blkAt, List.getD_cons_zero, List.getD_cons_succ, Option.bind_some, rd_sE] <;> fail)) | (refine arg_sl rfl mem ?_ cll; first | rfl | (simp [cVot_len] <;> fail)))) | fail))); (first | exact cl | exact cll); (first | exact nr | exact nrl))))))
  all_goals trace_state
  exact out_tupA rfl trivial (nums_closed _ _)
set_option maxHeartbeats 4000000 in
theorem withO_C (l : Ros) (m : Int) (h : l.members.l.length ≤ 9223372036854775807) (hr : RosP l) (hh : ¬ hasL l m) (hp : RosP ⟨l.version + 1, .of (sortI (l.members.l ++ [m]))⟩) :
    C Try.prog 72 [.agg (cRos l), vi .i64 m] [] (.tup [.agg [vi .u64 (l.version + 1), .sref 0 0 (l.members.l.length + 1) 1], vb true]) [some ((sortI (l.members.l ++ [m])).map (vi .i64))] := by
  have kr := rightL_C l
  have kh := hasL_C l m h
  have hb : 1 ≤ l.version ∧ l.version ≤ 1099511627776 ∧ 1 ≤ l.members.l.length ∧ l.members.l.length ≤ 8 := by
    unfold RosP at hr; exact ⟨hr.1, hr.2.1, hr.2.2.1, hr.2.2.2.1⟩
  have wv : IntKind.u64.wrap (l.version + 1) = l.version + 1 := IntWalk.u64_in _ ⟨by omega, by omega⟩
  have hlen : (l.members.l ++ [m]).length = l.members.l.length + 1 := by simp
  have af := fun H id => app_iz H l.members.l m id l.members.l.length rfl (by omega)
  have ks := sort_C (l.members.l ++ [m]) (l.members.l.length + 1) hlen.symm (by omega)
  have kc := cloneI_C l.members (by omega) (by omega)
  have k2 := soO_C _ _ (l.members.l.length + 1) (by rw [sortI_len, hlen]) hp
  refine C_of mixed Try.func72 A_roster_With_ok A_roster_With_res _ A_roster_With_nt ?_
  (repeat' (first | simp (maxSteps := 2000000) -implicitDefEqProofs only [A_roster_With, hr, hh, wv, af, blk_zi, slB_st, Int.reduceBNe, Int.reduceBEq, rk_ext, fk_ext, len_ints, idx_ints, cells_ints, len_lst, cells_lst, sm_c, sm_a, src_ints, zros_v, zros_m, ints_nil_l, lr_ros, lr, lr2, oO, oN, oG, oNG, oM, oF, oL, rg, ci, Nat.reduceEqDiff, Nat.reduceAdd, Nat.reduceSub, Int.reduceTDiv, Int.reduceTMod, ge_iff_le, Int.reduceGE, Nat.reducePow, Int.reduceEq, Int.reduceNeg, Int.reduceLE, Int.reducePow, Int.reduceLT, Int.reduceSub, Int.reduceAdd, Int.reduceMul, Int.reduceToNat, Option.map_some, ↓reduceIte, ite_not, beq_iff_eq, bne_iff_ne, ne_eq, beq_self_eq_true, beq_eq_false_iff_ne, bne_eq_false_iff_eq, resAll, resL, resV, reduceCtorEq, Option.some.injEq, exists_eq_left', blkAt, Nat.reduceLeDiff, Nat.reduceMul, eq_self, Nat.reduceLT, undef, fillV, evParts, footOp, wrOp, chk, disj, Nat.reduceBEq] | split | ((first | apply ck_call | apply cfk_call); (first | (apply call_pure (kr) cll cl) | (apply call_pure (kh) cll cl) | (apply call_new (kc) cll cll) | (apply call_updS (ks) rfl cll cll cll cl)))))
  refine ck_call _ _ (call_one (id := 4) (r2 := .tup [.agg [vi .u64 (l.version + 1), .sref 4 0 (l.members.l.length + 1) 1], vb true]) k2 rfl (nums_closed _ _) (nums_closed _ _) ?_ (by simp [idsInL, idsIn, gRos_members_ids]) rfl) ?_
  · refine argL_cons (arg_agg ?_) argL_nil
    show ArgRelL _ [4] [] [vi .u64 (l.version + 1), .sref 4 0 (l.members.l.length + 1) 1] [vi .u64 (l.version + 1), .sref 0 0 (l.members.l.length + 1) 1]
    exact argL_cons (arg_closed _ trivial) (argL_cons (by simp only [ArgRel]; exact .inl ⟨0, rfl, rfl⟩) argL_nil)
  (repeat' (first | simp (maxSteps := 2000000) -implicitDefEqProofs only [Int.reduceBNe, Int.reduceBEq, rk_ext, fk_ext, len_ints, idx_ints, cells_ints, len_lst, cells_lst, sm_c, sm_a, src_ints, zros_v, zros_m, ints_nil_l, lr_ros, lr, lr2, oO, oN, oG, oNG, oM, oF, oL, rg, ci, Nat.reduceEqDiff, Nat.reduceAdd, Nat.reduceSub, Int.reduceTDiv, Int.reduceTMod, ge_iff_le, Int.reduceGE, Nat.reducePow, Int.reduceEq, Int.reduceNeg, Int.reduceLE, Int.reducePow, Int.reduceLT, Int.reduceSub, Int.reduceAdd, Int.reduceMul, Int.reduceToNat, Option.map_some, ↓reduceIte, ite_not, beq_iff_eq, bne_iff_ne, ne_eq, beq_self_eq_true, beq_eq_false_iff_ne, bne_eq_false_iff_eq, resAll, resL, resV, reduceCtorEq, Option.some.injEq, exists_eq_left', blkAt, Nat.reduceLeDiff, Nat.reduceMul, eq_self, Nat.reduceLT, undef, fillV, evParts, footOp, wrOp, chk, disj, Nat.reduceBEq] | split))
  all_goals trace_state
  exact out_rowA2 rfl cl cl (nums_closed .i64 _)
end Go.Proofs.Ytmmaenfjnkoknaa.VA
