/- Layer 15: adopt gives a new row; known; EndorseNumbers. -/
import Derived.Test.YtmmaenfjnkoknaaEend
import Derived.Test.YtmmaenfjnkoknaaVC
set_option linter.unusedVariables false
set_option linter.unusedSimpArgs false
set_option maxRecDepth 100000
namespace Go.Proofs.Ytmmaenfjnkoknaa.VA
open Go
attribute [local irreducible] WK NK XK TK RK FK CK CFK CallRel C
attribute [local irreducible] markL keyL RosP majL bitX listF votesF
@[simp] theorem gRos_ids (x : Ros) (s : V) : idsInL (gRos_members x s) = idsIn s := gRos_members_ids x s
theorem call_inA {P : Program} {f : Nat} {args' : List V} {n sz : Nat} {x x0 : V} {out : List V} (hC : C P f args' [] (.tup [.agg [x0, .sref 0 0 n sz], x]) [some out]) {H : Heap} {args : List V} (hbs : ∀ id ∈ idsInL args, ∃ cells, blkAt H id = some cells)
    (hrel : ArgRelL H [] (idsInL args) args args') (hx : Closed x) (hrx : NoRO x) (hc : ClosedL out) (hro : NoROL out) (hx0 : Closed x0 := by exact cl) (hr0 : NoRO x0 := by first | exact nr | trivial) : CallRel P f H args (.tup [.agg [x0, .sref H.length 0 n sz], x]) (H ++ [some out]) (idsInL args) [] := by
  have := call_in hC (H := H) _ (fun id h => ⟨h, hbs id h⟩) hrel (fun _ => ⟨⟨⟨hr0, trivial, trivial⟩, hrx, trivial⟩, fun i cs h => by
    cases i with
    | zero => simp at h; subst h; exact hro
    | succ i => simp at h⟩)
  simpa [renV, renL, renL_closed _ out hc, renV_closed _ x hx, renV_closed _ x0 hx0] using this
theorem out_rowA2 {H : Heap} {id n sz : Nat} {x x0 : V} {cells : List V} (hb : blkAt H id = some cells) (hx : Closed x) (hx0 : Closed x0) (hc : ClosedL cells) : OutOK 0 H (.tup [.agg [x0, .sref id 0 n sz], x]) (.tup [.agg [x0, .sref 0 0 n sz], x]) [some cells] := by
  refine ⟨[id], [], by simp, rfl, Nat.zero_le _, fun k h => by omega, (fun _ h => by cases h), ?_, fun k c h => ?_⟩
  · simp only [ArgRel]
    refine ⟨_, rfl, ?_⟩
    simp only [ArgRelL]
    refine ⟨_, _, rfl, ?_, _, _, rfl, arg_closed x hx, rfl⟩
    simp only [ArgRel]
    refine ⟨_, rfl, ?_⟩
    simp only [ArgRelL]
    refine ⟨_, _, rfl, arg_closed x0 hx0, _, _, rfl, ?_, rfl⟩
    simp only [ArgRel]
    exact .inl ⟨0, rfl, rfl⟩
  · cases k with
    | zero => simp at h; subst h; exact ⟨id, cells, rfl, hb, argL_closed cells hc⟩
    | succ k => simp at h
theorem adoptO_C (c : Bn 16) (b l : Ros) (vs : Lst Vot) (hvs : vs.l.length ≤ 9223372036854775807) (hf : folL b l) (hm : majL b ≤ (cntR c b l vs.l : Int)) (h1 : b.members.l.length ≤ 9223372036854775807) (h2 : l.members.l.length ≤ 9223372036854775807) :
    C Try.prog 94 [.agg (dg c), .agg (cRos b), .agg (cRos l), lstV cVot vs] [] (.tup [.agg [vi .u64 l.version, .sref 0 0 l.members.l.length 1], vi .i64 0]) [some (l.members.l.map (vi .i64))] := by
  refine C_of mixed Try.func94 A_endorse_Adopt_ok A_endorse_Adopt_res _ A_endorse_Adopt_nt ?_
  have hl := hf.2.1
  have h8 : l.members.l.length ≤ 1000 := by
    have h := hl
    unfold RosP at h
    omega
  have c1 := check_C c b l vs hvs hf.1 hl
  rw [decide_eq_true hm] at c1
  have a0 := fun H id => app_e0 H l.members.l.length id (l.members.l.map (vi .i64)) h8
  (repeat' (first | simp (maxSteps := 2000000) -implicitDefEqProofs only [A_endorse_Adopt, hf, a0, blk_zi, Int.reduceBNe, Int.reduceBEq, rk_ext, fk_ext, len_ints, idx_ints, cells_ints, len_lst, cells_lst, sm_c, sm_a, src_ints, zros_v, zros_m, ints_nil_l, lr_ros, lr, lr2, oO, oN, oG, oNG, oM, oF, oL, rg, ci, Nat.reduceEqDiff, Nat.reduceAdd, Nat.reduceSub, Int.reduceTDiv, Int.reduceTMod, ge_iff_le, Int.reduceGE, Nat.reducePow, Int.reduceEq, Int.reduceNeg, Int.reduceLE, Int.reducePow, Int.reduceLT, Int.reduceSub, Int.reduceAdd, Int.reduceMul, Int.reduceToNat, Option.map_some, ↓reduceIte, ite_not, beq_iff_eq, bne_iff_ne, ne_eq, beq_self_eq_true, beq_eq_false_iff_ne, bne_eq_false_iff_eq, resAll, resL, resV, reduceCtorEq, Option.some.injEq, exists_eq_left', blkAt, Nat.reduceLeDiff, Nat.reduceMul, eq_self, Nat.reduceLT, undef, fillV, evParts, footOp, wrOp, chk, disj, Nat.reduceBEq] | split | ((first | apply ck_call | apply cfk_call); (first | (apply call_pure (folL_C b l h1 h2) cll cl) | (apply call_pure (c1) cll cl)))))
  exact out_rowA2 rfl cl cl (nums_closed .i64 _)
theorem len2V (a b : Vot) : (cVot a ++ cVot b).length = 34 := by rw [List.length_append, cVot_len, cVot_len]
theorem sp2a (a b x : Vot) : splice (cVot a ++ cVot b) 0 (cVot x) = cVot x ++ cVot b := by simp [splice, cVot_len]
theorem sp2b (a b x : Vot) : splice (cVot a ++ cVot b) 17 (cVot x) = [a, x].flatMap cVot := by simp [splice, cVot_len]
instance (a b : Vot) : ClL (cVot a ++ cVot b) := ⟨closedL_app (cVot_closed a) (cVot_closed b)⟩
theorem nrl_ints (k : IntKind) : ∀ l : List Int, NoROL (l.map (vi k))
  | [] => trivial
  | _ :: l => ⟨trivial, nrl_ints k l⟩
instance (k : IntKind) (l : List Int) : NrL (l.map (vi k)) := ⟨nrl_ints k l⟩
def c9 : Bn 16 := (Bn.zero 16).set 0 (by8 9)
def b15 : Ros := ⟨1, .of [0, 1, 2]⟩
def l15 : Ros := ⟨2, .of [0, 1, 2, 3]⟩
theorem b15_right : RosP b15 := by unfold RosP b15; simp only [Ints.l]; refine ⟨by decide, by decide, by decide, by decide, ?_⟩; decide
theorem l15_right : RosP l15 := by unfold RosP l15; simp only [Ints.l]; refine ⟨by decide, by decide, by decide, by decide, ?_⟩; decide
theorem bl15_fol : folL b15 l15 := ⟨b15_right, l15_right, by decide, by decide⟩
theorem maj15 : majL b15 = 2 := by unfold majL; rw [if_pos b15_right]; decide
theorem v1_eq (c : Bn 16) (l : Ros) (i m : Int) : votes1 c l m ⟨i, markL (keyL c i) l⟩ = decide (i = m) := by
  unfold votes1
  by_cases h : i = m
  · subst h; simp
  · simp [h]
theorem cnt15a (c : Bn 16) (l : Ros) : cntV c l [⟨0, markL (keyL c 0) l⟩, ⟨0, markL (keyL c 0) l⟩] [0, 1, 2] = 1 := by
  unfold cntV
  simp only [List.any_cons, List.any_nil, v1_eq]
  decide
theorem cnt15b (c : Bn 16) (l : Ros) : cntV c l [⟨0, markL (keyL c 0) l⟩, ⟨1, markL (keyL c 1) l⟩] [0, 1, 2] = 2 := by
  unfold cntV
  simp only [List.any_cons, List.any_nil, v1_eq]
  decide
set_option maxHeartbeats 8000000 in
theorem known15_C : C Try.prog 35 [] [] (vb true) [] := by
  refine C_of mixed Try.func35 A_clavigerlaw15_known_ok A_clavigerlaw15_known_res _ A_clavigerlaw15_known_nt ?_
  have k0 := keyL_C c9 0
  have k1 := keyL_C c9 1
  have m0 := markL_C (keyL c9 0) l15 l15_right
  have m1 := markL_C (keyL c9 1) l15 l15_right
  have e1 := check_C c9 b15 l15 (.of [⟨0, markL (keyL c9 0) l15⟩, ⟨0, markL (keyL c9 0) l15⟩]) (by decide) b15_right l15_right
  have e2 := adoptO_C c9 b15 l15 (.of [⟨0, markL (keyL c9 0) l15⟩, ⟨1, markL (keyL c9 1) l15⟩]) (by decide) bl15_fol (by rw [maj15]; have h := cnt15b c9 l15; show (2 : Int) ≤ (cntV c9 l15 [⟨0, markL (keyL c9 0) l15⟩, ⟨1, markL (keyL c9 1) l15⟩] [0, 1, 2] : Nat); rw [h]; decide) (by decide) (by decide)
  have n1 : cntR c9 b15 l15 (Lst.of [⟨0, markL (keyL c9 0) l15⟩, ⟨0, markL (keyL c9 0) l15⟩]).l = 1 := cnt15a c9 l15
  rw [decide_eq_false (by rw [maj15, n1]; decide), n1] at e1
  clear n1
  generalize markL (keyL c9 0) l15 = M0 at *
  generalize markL (keyL c9 1) l15 = M1 at *
  generalize keyL c9 0 = K0 at *
  generalize keyL c9 1 = K1 at *
  unfold b15 l15 at *
  unfold c9 at *
  (repeat' (first | simp (maxSteps := 2000000) -implicitDefEqProofs only [A_clavigerlaw15_known, len2V, sp2a, sp2b, blk_zVot, blk_zi, Int.reduceBNe, Int.reduceBEq, rk_ext, fk_ext, len_ints, idx_ints, cells_ints, len_lst, cells_lst, sm_c, sm_a, src_ints, zros_v, zros_m, ints_nil_l, lr_ros, lr, lr2, oO, oN, oG, oNG, oM, oF, oL, rg, ci, Nat.reduceEqDiff, Nat.reduceAdd, Nat.reduceSub, Int.reduceTDiv, Int.reduceTMod, ge_iff_le, Int.reduceGE, Nat.reducePow, Int.reduceEq, Int.reduceNeg, Int.reduceLE, Int.reducePow, Int.reduceLT, Int.reduceSub, Int.reduceAdd, Int.reduceMul, Int.reduceToNat, Option.map_some, ↓reduceIte, ite_not, beq_iff_eq, bne_iff_ne, ne_eq, beq_self_eq_true, beq_eq_false_iff_ne, bne_eq_false_iff_eq, resAll, resL, resV, reduceCtorEq, Option.some.injEq, exists_eq_left', blkAt, Nat.reduceLeDiff, Nat.reduceMul, eq_self, Nat.reduceLT, undef, fillV, evParts, footOp, wrOp, chk, disj, Nat.reduceBEq] | split | ((first | apply ck_call | apply cfk_call); (first | (apply call_pure (k0) cll cl) | (apply call_pure (k1) cll cl) | (apply call_roA (m0); (simp [ids_nil, ids_cons, ids_sc, ids_agg, ids_dg, ids_bs, ids_row, ids_ints, ids_sref, ids_ref, ids_sl, gRos_ids, cRos_ids, blkAt] <;> fail); (repeat' (first | exact args_n | apply args_c | (first | (first | exact arg_closed _ cl | (refine arg_rowA rfl mem ?_; (first | rfl | omega | (simp [bn_len] <;> fail) | (simp [bn_len]; omega))) | (refine arg_row rfl mem ?_; (first | rfl | omega | (simp [bn_len] <;> fail) | (simp [bn_len]; omega))) | (refine arg_fld mem ?_ ?_; (first | rfl | omega | (simp [bn_len] <;> fail) | (simp [bn_len]; omega)); (simp only [Int.reduceBNe, Int.reduceBEq, rk_ext, fk_ext, len_ints, idx_ints, cells_ints, len_lst, cells_lst, sm_c, sm_a, src_ints, zros_v, zros_m, ints_nil_l, lr_ros, blkAt, List.getD_cons_zero, List.getD_cons_succ, Option.bind_some, rd_sE] <;> fail)) | (refine arg_lst cVot_closed rfl mem ?_; rfl) | (refine arg_sl rfl mem ?_ cll; first | rfl | (simp [cVot_len] <;> fail))) | (refine arg_agg (argG_Ros_members _ ?_); (first | exact arg_closed _ cl | (refine arg_rowA rfl mem ?_; (first | rfl | omega | (simp [bn_len] <;> fail) | (simp [bn_len]; omega))) | (refine arg_row rfl mem ?_; (first | rfl | omega | (simp [bn_len] <;> fail) | (simp [bn_len]; omega))) | (refine arg_fld mem ?_ ?_; (first | rfl | omega | (simp [bn_len] <;> fail) | (simp [bn_len]; omega)); (simp only [Int.reduceBNe, Int.reduceBEq, rk_ext, fk_ext, len_ints, idx_ints, cells_ints, len_lst, cells_lst, sm_c, sm_a, src_ints, zros_v, zros_m, ints_nil_l, lr_ros, blkAt, List.getD_cons_zero, List.getD_cons_succ, Option.bind_some, rd_sE] <;> fail)) | (refine arg_lst cVot_closed rfl mem ?_; rfl) | (refine arg_sl rfl mem ?_ cll; first | rfl | (simp [cVot_len] <;> fail)))) | fail))); (first | exact cl | exact cll); (first | exact nr | exact nrl)) | (apply call_roA (m1); (simp [ids_nil, ids_cons, ids_sc, ids_agg, ids_dg, ids_bs, ids_row, ids_ints, ids_sref, ids_ref, ids_sl, gRos_ids, cRos_ids, blkAt] <;> fail); (repeat' (first | exact args_n | apply args_c | (first | (first | exact arg_closed _ cl | (refine arg_rowA rfl mem ?_; (first | rfl | omega | (simp [bn_len] <;> fail) | (simp [bn_len]; omega))) | (refine arg_row rfl mem ?_; (first | rfl | omega | (simp [bn_len] <;> fail) | (simp [bn_len]; omega))) | (refine arg_fld mem ?_ ?_; (first | rfl | omega | (simp [bn_len] <;> fail) | (simp [bn_len]; omega)); (simp only [Int.reduceBNe, Int.reduceBEq, rk_ext, fk_ext, len_ints, idx_ints, cells_ints, len_lst, cells_lst, sm_c, sm_a, src_ints, zros_v, zros_m, ints_nil_l, lr_ros, blkAt, List.getD_cons_zero, List.getD_cons_succ, Option.bind_some, rd_sE] <;> fail)) | (refine arg_lst cVot_closed rfl mem ?_; rfl) | (refine arg_sl rfl mem ?_ cll; first | rfl | (simp [cVot_len] <;> fail))) | (refine arg_agg (argG_Ros_members _ ?_); (first | exact arg_closed _ cl | (refine arg_rowA rfl mem ?_; (first | rfl | omega | (simp [bn_len] <;> fail) | (simp [bn_len]; omega))) | (refine arg_row rfl mem ?_; (first | rfl | omega | (simp [bn_len] <;> fail) | (simp [bn_len]; omega))) | (refine arg_fld mem ?_ ?_; (first | rfl | omega | (simp [bn_len] <;> fail) | (simp [bn_len]; omega)); (simp only [Int.reduceBNe, Int.reduceBEq, rk_ext, fk_ext, len_ints, idx_ints, cells_ints, len_lst, cells_lst, sm_c, sm_a, src_ints, zros_v, zros_m, ints_nil_l, lr_ros, blkAt, List.getD_cons_zero, List.getD_cons_succ, Option.bind_some, rd_sE] <;> fail)) | (refine arg_lst cVot_closed rfl mem ?_; rfl) | (refine arg_sl rfl mem ?_ cll; first | rfl | (simp [cVot_len] <;> fail)))) | fail))); (first | exact cl | exact cll); (first | exact nr | exact nrl)) | (apply call_roA (e1); (simp [ids_nil, ids_cons, ids_sc, ids_agg, ids_dg, ids_bs, ids_row, ids_ints, ids_sref, ids_ref, ids_sl, gRos_ids, cRos_ids, blkAt] <;> fail); (repeat' (first | exact args_n | apply args_c | (first | (first | exact arg_closed _ cl | (refine arg_rowA rfl mem ?_; (first | rfl | omega | (simp [bn_len] <;> fail) | (simp [bn_len]; omega))) | (refine arg_row rfl mem ?_; (first | rfl | omega | (simp [bn_len] <;> fail) | (simp [bn_len]; omega))) | (refine arg_fld mem ?_ ?_; (first | rfl | omega | (simp [bn_len] <;> fail) | (simp [bn_len]; omega)); (simp only [Int.reduceBNe, Int.reduceBEq, rk_ext, fk_ext, len_ints, idx_ints, cells_ints, len_lst, cells_lst, sm_c, sm_a, src_ints, zros_v, zros_m, ints_nil_l, lr_ros, blkAt, List.getD_cons_zero, List.getD_cons_succ, Option.bind_some, rd_sE] <;> fail)) | (refine arg_lst cVot_closed rfl mem ?_; rfl) | (refine arg_sl rfl mem ?_ cll; first | rfl | (simp [cVot_len] <;> fail))) | (refine arg_agg (argG_Ros_members _ ?_); (first | exact arg_closed _ cl | (refine arg_rowA rfl mem ?_; (first | rfl | omega | (simp [bn_len] <;> fail) | (simp [bn_len]; omega))) | (refine arg_row rfl mem ?_; (first | rfl | omega | (simp [bn_len] <;> fail) | (simp [bn_len]; omega))) | (refine arg_fld mem ?_ ?_; (first | rfl | omega | (simp [bn_len] <;> fail) | (simp [bn_len]; omega)); (simp only [Int.reduceBNe, Int.reduceBEq, rk_ext, fk_ext, len_ints, idx_ints, cells_ints, len_lst, cells_lst, sm_c, sm_a, src_ints, zros_v, zros_m, ints_nil_l, lr_ros, blkAt, List.getD_cons_zero, List.getD_cons_succ, Option.bind_some, rd_sE] <;> fail)) | (refine arg_lst cVot_closed rfl mem ?_; rfl) | (refine arg_sl rfl mem ?_ cll; first | rfl | (simp [cVot_len] <;> fail)))) | fail))); (first | exact cl | exact cll); (first | exact nr | exact nrl)) | (apply call_inA (e2); (simp [ids_nil, ids_cons, ids_sc, ids_agg, ids_dg, ids_bs, ids_row, ids_ints, ids_sref, ids_ref, ids_sl, gRos_ids, cRos_ids, blkAt] <;> fail); (repeat' (first | exact args_n | apply args_c | (first | (first | exact arg_closed _ cl | (refine arg_rowA rfl mem ?_; (first | rfl | omega | (simp [bn_len] <;> fail) | (simp [bn_len]; omega))) | (refine arg_row rfl mem ?_; (first | rfl | omega | (simp [bn_len] <;> fail) | (simp [bn_len]; omega))) | (refine arg_fld mem ?_ ?_; (first | rfl | omega | (simp [bn_len] <;> fail) | (simp [bn_len]; omega)); (simp only [Int.reduceBNe, Int.reduceBEq, rk_ext, fk_ext, len_ints, idx_ints, cells_ints, len_lst, cells_lst, sm_c, sm_a, src_ints, zros_v, zros_m, ints_nil_l, lr_ros, blkAt, List.getD_cons_zero, List.getD_cons_succ, Option.bind_some, rd_sE] <;> fail)) | (refine arg_lst cVot_closed rfl mem ?_; rfl) | (refine arg_sl rfl mem ?_ cll; first | rfl | (simp [cVot_len] <;> fail))) | (refine arg_agg (argG_Ros_members _ ?_); (first | exact arg_closed _ cl | (refine arg_rowA rfl mem ?_; (first | rfl | omega | (simp [bn_len] <;> fail) | (simp [bn_len]; omega))) | (refine arg_row rfl mem ?_; (first | rfl | omega | (simp [bn_len] <;> fail) | (simp [bn_len]; omega))) | (refine arg_fld mem ?_ ?_; (first | rfl | omega | (simp [bn_len] <;> fail) | (simp [bn_len]; omega)); (simp only [Int.reduceBNe, Int.reduceBEq, rk_ext, fk_ext, len_ints, idx_ints, cells_ints, len_lst, cells_lst, sm_c, sm_a, src_ints, zros_v, zros_m, ints_nil_l, lr_ros, blkAt, List.getD_cons_zero, List.getD_cons_succ, Option.bind_some, rd_sE] <;> fail)) | (refine arg_lst cVot_closed rfl mem ?_; rfl) | (refine arg_sl rfl mem ?_ cll; first | rfl | (simp [cVot_len] <;> fail)))) | fail))); (first | exact cl | exact cll); (first | exact nr | exact nrl); (first | exact cl | exact cll); (first | exact nr | exact nrl))))))
  refine out_eq rfl cl
end Go.Proofs.Ytmmaenfjnkoknaa.VA
