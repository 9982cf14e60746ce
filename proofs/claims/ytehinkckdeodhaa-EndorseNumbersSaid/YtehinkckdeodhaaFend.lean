/- Layer 15: adopt gives a new row; known; EndorseNumbers. -/
import Derived.Test.YtehinkckdeodhaaEend
import Derived.Test.YtehinkckdeodhaaVC
set_option linter.unusedVariables false
set_option linter.unusedSimpArgs false
set_option maxRecDepth 100000
namespace Go.Proofs.Ytehinkckdeodhaa.VA
open Go
attribute [local irreducible] WK NK XK TK RK FK CK CFK CallRel C
attribute [local irreducible] markL keyL RosP majL bitX listF votesF
@[simp] theorem gRos_ids (x : Ros) (s : V) : idsInL (gRos_members x s) = idsIn s := gRos_members_ids x s
theorem call_inA {P : Program} {f : Nat} {args' : List V} {n sz : Nat} {x x0 : V} {out : List V} (hC : C P f args' [] (.tup [.agg [x0, .sref 0 0 n sz], x]) [some out]) {H : Heap} {args : List V} (hbs : ∀ id ∈ idsInL args, ∃ cells, blkAt H id = some cells)
    (hrel : ArgRelL H [] (idsInL args) args args') (hx : Closed x) (hrx : NoRO x) (hc : ClosedL out) (hro : NoROL out) (hx0 : Closed x0 := by exact cl) (hr0 : NoRO x0 := by first | exact nr | trivial) : CallRel P f H args (.tup [.agg [x0, .sref H.length 0 n sz], x]) (H ++ [some out]) (idsInL args) [] := by
  have := call_in hC (H := H) _ (fun id h => ⟨h, hbs id h⟩) hrel (fun _ => ⟨⟨⟨hr0, trivial, trivial⟩, hrx, trivial⟩, fun i cs h => by
    cases i with
    | zero => simp at h; subst h; exact hro
    | succ i => simp at h⟩)
  simpa [renV, renL, renL_closed _ out hc, renV_closed _ x hx, renV_closed _ x0 hx0] using this
theorem out_rowA2 {H : Heap} {id n sz : Nat} {x x0 : V} {cells : List V} (hb : blkAt H id = some cells) (hx : Closed x) (hx0 : Closed x0) (hc : ClosedL cells) : OutOK 0 H (.tup [.agg [x0, .sref id 0 n sz], x]) (.tup [.agg [x0, .sref 0 0 n sz], x]) [some cells] := by
  refine ⟨[id], [], by simp, rfl, Nat.zero_le _, fun k h => by omega, (fun _ h => by cases h), ?_, fun k c h => ?_⟩
  · simp only [ArgRel]
    refine ⟨_, rfl, ?_⟩
    simp only [ArgRelL]
    refine ⟨_, _, rfl, ?_, _, _, rfl, arg_closed x hx, rfl⟩
    simp only [ArgRel]
    refine ⟨_, rfl, ?_⟩
    simp only [ArgRelL]
    refine ⟨_, _, rfl, arg_closed x0 hx0, _, _, rfl, ?_, rfl⟩
    simp only [ArgRel]
    exact .inl ⟨0, rfl, rfl⟩
  · cases k with
    | zero => simp at h; subst h; exact ⟨id, cells, rfl, hb, argL_closed cells hc⟩
    | succ k => simp at h
theorem adoptO_C (c : Bn 16) (b l : Ros) (vs : Lst Vot) (hvs : vs.l.length ≤ 9223372036854775807) (hf : folL b l) (hm : majL b ≤ (cntR c b l vs.l : Int)) (h1 : b.members.l.length ≤ 9223372036854775807) (h2 : l.members.l.length ≤ 9223372036854775807) :
    C Try.prog 113 [.agg (dg c), .agg (cRos b), .agg (cRos l), lstV cVot vs] [] (.tup [.agg [vi .u64 l.version, .sref 0 0 l.members.l.length 1], vi .i64 0]) [some (l.members.l.map (vi .i64))] := by
  refine C_of mixed Try.func113 A_endorse_Adopt_ok A_endorse_Adopt_res _ A_endorse_Adopt_nt ?_
  have hl := hf.2.1
  have h8 : l.members.l.length ≤ 1000 := by
    have h := hl
    unfold RosP at h
    omega
  have c1 := check_C c b l vs hvs hf.1 hl
  rw [decide_eq_true hm] at c1
  have a0 := fun H id => app_e0 H l.members.l.length id (l.members.l.map (vi .i64)) h8
  (repeat' (first | simp (maxSteps := 2000000) -implicitDefEqProofs only [A_endorse_Adopt, hf, a0, blk_zi, Int.reduceBNe, Int.reduceBEq, rk_ext, fk_ext, len_ints, idx_ints, cells_ints, len_lst, cells_lst, sm_c, sm_a, src_ints, zros_v, zros_m, ints_nil_l, lr_ros, lr, lr2, oO, oN, oG, oNG, oM, oF, oL, rg, ci, Nat.reduceEqDiff, Nat.reduceAdd, Nat.reduceSub, Int.reduceTDiv, Int.reduceTMod, ge_iff_le, Int.reduceGE, Nat.reducePow, Int.reduceEq, Int.reduceNeg, Int.reduceLE, Int.reducePow, Int.reduceLT, Int.reduceSub, Int.reduceAdd, Int.reduceMul, Int.reduceToNat, Option.map_some, ↓reduceIte, ite_not, beq_iff_eq, bne_iff_ne, ne_eq, beq_self_eq_true, beq_eq_false_iff_ne, bne_eq_false_iff_eq, resAll, resL, resV, reduceCtorEq, Option.some.injEq, exists_eq_left', blkAt, Nat.reduceLeDiff, Nat.reduceMul, eq_self, Nat.reduceLT, undef, fillV, evParts, footOp, wrOp, chk, disj, Nat.reduceBEq] | split | ((first | apply ck_call | apply cfk_call); (first | (apply call_pure (folL_C b l h1 h2) cll cl) | (apply call_pure (c1) cll cl)))))
  exact out_rowA2 rfl cl cl (nums_closed .i64 _)
theorem len2V (a b : Vot) : (cVot a ++ cVot b).length = 34 := by rw [List.length_append, cVot_len, cVot_len]
theorem sp2a (a b x : Vot) : splice (cVot a ++ cVot b) 0 (cVot x) = cVot x ++ cVot b := by simp [splice, cVot_len]
theorem sp2b (a b x : Vot) : splice (cVot a ++ cVot b) 17 (cVot x) = [a, x].flatMap cVot := by simp [splice, cVot_len]
instance (a b : Vot) : ClL (cVot a ++ cVot b) := ⟨closedL_app (cVot_closed a) (cVot_closed b)⟩
theorem nrl_ints (k : IntKind) : ∀ l : List Int, NoROL (l.map (vi k))
  | [] => trivial
  | _ :: l => ⟨trivial, nrl_ints k l⟩
instance (k : IntKind) (l : List Int) : NrL (l.map (vi k)) := ⟨nrl_ints k l⟩
def c9 : Bn 16 := (Bn.zero 16).set 0 (by8 9)
def b15 : Ros := ⟨1, .of [0, 1, 2]⟩
def l15 : Ros := ⟨2, .of [0, 1, 2, 3]⟩
theorem b15_right : RosP b15 := by unfold RosP b15; simp only [Ints.l]; refine ⟨by decide, by decide, by decide, by decide, ?_⟩; decide
theorem l15_right : RosP l15 := by unfold RosP l15; simp only [Ints.l]; refine ⟨by decide, by decide, by decide, by decide, ?_⟩; decide
theorem bl15_fol : folL b15 l15 := ⟨b15_right, l15_right, by decide, by decide⟩
theorem maj15 : majL b15 = 2 := by unfold majL; rw [if_pos b15_right]; decide
theorem v1_eq (c : Bn 16) (l : Ros) (i m : Int) : votes1 c l m ⟨i, markL (keyL c i) l⟩ = decide (i = m) := by
  unfold votes1
  by_cases h : i = m
  · subst h; simp
  · simp [h]
theorem cnt15a (c : Bn 16) (l : Ros) : cntV c l [⟨0, markL (keyL c 0) l⟩, ⟨0, markL (keyL c 0) l⟩] [0, 1, 2] = 1 := by
  unfold cntV
  simp only [List.any_cons, List.any_nil, v1_eq]
  decide
theorem cnt15b (c : Bn 16) (l : Ros) : cntV c l [⟨0, markL (keyL c 0) l⟩, ⟨1, markL (keyL c 1) l⟩] [0, 1, 2] = 2 := by
  unfold cntV
  simp only [List.any_cons, List.any_nil, v1_eq]
  decide
set_option maxHeartbeats 8000000 in
theorem known15_C : C Try.prog 55 [] [] (vb true) [] := by
  refine C_of mixed Try.func55 A_clavigerlaw15_known_ok A_clavigerlaw15_known_res _ A_clavigerlaw15_known_nt ?_
  have k0 := keyL_C c9 0
  have k1 := keyL_C c9 1
  have m0 := markL_C (keyL c9 0) l15 l15_right
  have m1 := markL_C (keyL c9 1) l15 l15_right
  have e1 := check_C c9 b15 l15 (.of [⟨0, markL (keyL c9 0) l15⟩, ⟨0, markL (keyL c9 0) l15⟩]) (by decide) b15_right l15_right
  have e2 := adoptO_C c9 b15 l15 (.of [⟨0, markL (keyL c9 0) l15⟩, ⟨1, markL (keyL c9 1) l15⟩]) (by decide) bl15_fol (by rw [maj15]; have h := cnt15b c9 l15; show (2 : Int) ≤ (cntV c9 l15 [⟨0, markL (keyL c9 0) l15⟩, ⟨1, markL (keyL c9 1) l15⟩] [0, 1, 2] : Nat); rw [h]; decide) (by decide) (by decide)
  have n1 : cntR c9 b15 l15 (Lst.of [⟨0, markL (keyL c9 0) l15⟩, ⟨0, markL (keyL c9 0) l15⟩]).l = 1 := cnt15a c9 l15
  rw [decide_eq_false (by rw [maj15, n1]; decide), n1] at e1
  clear n1
  generalize markL (keyL c9 0) l15 = M0 at *
  generalize markL (keyL c9 1) l15 = M1 at *
  generalize keyL c9 0 = K0 at *
  generalize keyL c9 1 = K1 at *
  unfold b15 l15 at *
  unfold c9 at *
  (repeat' (first | simp (maxSteps := 2000000) -implicitDefEqProofs only [A_clavigerlaw15_known, len2V, sp2a, sp2b, blk_zVot, blk_zi, Int.reduceBNe, Int.reduceBEq, rk_ext, fk_ext, len_ints, idx_ints, cells_ints, len_lst, cells_lst, sm_c, sm_a, src_ints, zros_v, zros_m, ints_nil_l, lr_ros, lr, lr2, oO, oN, oG, oNG, oM, oF, oL, rg, ci, Nat.reduceEqDiff, Nat.reduceAdd, Nat.reduceSub, Int.reduceTDiv, Int.reduceTMod, ge_iff_le, Int.reduceGE, Nat.reducePow, Int.reduceEq, Int.reduceNeg, Int.reduceLE, Int.reducePow, Int.reduceLT, Int.reduceSub, Int.reduceAdd, Int.reduceMul, Int.reduceToNat, Option.map_some, ↓reduceIte, ite_not, beq_iff_eq, bne_iff_ne, ne_eq, beq_self_eq_true, beq_eq_false_iff_ne, bne_eq_false_iff_eq, resAll, resL, resV, reduceCtorEq, Option.some.injEq, exists_eq_left', blkAt, Nat.reduceLeDiff, Nat.reduceMul, eq_self, Nat.reduceLT, undef, fillV, evParts, footOp, wrOp, chk, disj, Nat.reduceBEq] | split | ((first | apply ck_call | apply cfk_call); (first | (apply call_pure (k0) cll cl) | (apply call_pure (k1) cll cl) | (apply call_roA (m0); (simp [ids_nil, ids_cons, ids_sc, ids_agg, ids_dg, ids_bs, ids_row, ids_ints, ids_sref, ids_ref, ids_sl, gRos_ids, cRos_ids, blkAt] <;> fail); (repeat' (first | exact args_n | apply args_c | (first | (first | exact arg_closed _ cl | (refine arg_rowA rfl mem ?_; (first | rfl | omega | (simp [bn_len] <;> fail) | (simp [bn_len]; omega))) | (refine arg_row rfl mem ?_; (first | rfl | omega | (simp [bn_len] <;> fail) | (simp [bn_len]; omega))) | (refine arg_fld mem ?_ ?_; (first | rfl | omega | (simp [bn_len] <;> fail) | (simp [bn_len]; omega)); (simp only [Int.reduceBNe, Int.reduceBEq, rk_ext, fk_ext, len_ints, idx_ints, cells_ints, len_lst, cells_lst, sm_c, sm_a, src_ints, zros_v, zros_m, ints_nil_l, lr_ros, blkAt, List.getD_cons_zero, List.getD_cons_succ, Option.bind_some, rd_sE] <;> fail)) | (refine arg_lst cVot_closed rfl mem ?_; rfl) | (refine arg_sl rfl mem ?_ cll; first | rfl | (simp [cVot_len] <;> fail))) | (refine arg_agg (argG_Ros_members _ ?_); (first | exact arg_closed _ cl | (refine arg_rowA rfl mem ?_; (first | rfl | omega | (simp [bn_len] <;> fail) | (simp [bn_len]; omega))) | (refine arg_row rfl mem ?_; (first | rfl | omega | (simp [bn_len] <;> fail) | (simp [bn_len]; omega))) | (refine arg_fld mem ?_ ?_; (first | rfl | omega | (simp [bn_len] <;> fail) | (simp [bn_len]; omega)); (simp only [Int.reduceBNe, Int.reduceBEq, rk_ext, fk_ext, len_ints, idx_ints, cells_ints, len_lst, cells_lst, sm_c, sm_a, src_ints, zros_v, zros_m, ints_nil_l, lr_ros, blkAt, List.getD_cons_zero, List.getD_cons_succ, Option.bind_some, rd_sE] <;> fail)) | (refine arg_lst cVot_closed rfl mem ?_; rfl) | (refine arg_sl rfl mem ?_ cll; first | rfl | (simp [cVot_len] <;> fail)))) | fail))); (first | exact cl | exact cll); (first | exact nr | exact nrl)) | (apply call_roA (m1); (simp [ids_nil, ids_cons, ids_sc, ids_agg, ids_dg, ids_bs, ids_row, ids_ints, ids_sref, ids_ref, ids_sl, gRos_ids, cRos_ids, blkAt] <;> fail); (repeat' (first | exact args_n | apply args_c | (first | (first | exact arg_closed _ cl | (refine arg_rowA rfl mem ?_; (first | rfl | omega | (simp [bn_len] <;> fail) | (simp [bn_len]; omega))) | (refine arg_row rfl mem ?_; (first | rfl | omega | (simp [bn_len] <;> fail) | (simp [bn_len]; omega))) | (refine arg_fld mem ?_ ?_; (first | rfl | omega | (simp [bn_len] <;> fail) | (simp [bn_len]; omega)); (simp only [Int.reduceBNe, Int.reduceBEq, rk_ext, fk_ext, len_ints, idx_ints, cells_ints, len_lst, cells_lst, sm_c, sm_a, src_ints, zros_v, zros_m, ints_nil_l, lr_ros, blkAt, List.getD_cons_zero, List.getD_cons_succ, Option.bind_some, rd_sE] <;> fail)) | (refine arg_lst cVot_closed rfl mem ?_; rfl) | (refine arg_sl rfl mem ?_ cll; first | rfl | (simp [cVot_len] <;> fail))) | (refine arg_agg (argG_Ros_members _ ?_); (first | exact arg_closed _ cl | (refine arg_rowA rfl mem ?_; (first | rfl | omega | (simp [bn_len] <;> fail) | (simp [bn_len]; omega))) | (refine arg_row rfl mem ?_; (first | rfl | omega | (simp [bn_len] <;> fail) | (simp [bn_len]; omega))) | (refine arg_fld mem ?_ ?_; (first | rfl | omega | (simp [bn_len] <;> fail) | (simp [bn_len]; omega)); (simp only [Int.reduceBNe, Int.reduceBEq, rk_ext, fk_ext, len_ints, idx_ints, cells_ints, len_lst, cells_lst, sm_c, sm_a, src_ints, zros_v, zros_m, ints_nil_l, lr_ros, blkAt, List.getD_cons_zero, List.getD_cons_succ, Option.bind_some, rd_sE] <;> fail)) | (refine arg_lst cVot_closed rfl mem ?_; rfl) | (refine arg_sl rfl mem ?_ cll; first | rfl | (simp [cVot_len] <;> fail)))) | fail))); (first | exact cl | exact cll); (first | exact nr | exact nrl)) | (apply call_roA (e1); (simp [ids_nil, ids_cons, ids_sc, ids_agg, ids_dg, ids_bs, ids_row, ids_ints, ids_sref, ids_ref, ids_sl, gRos_ids, cRos_ids, blkAt] <;> fail); (repeat' (first | exact args_n | apply args_c | (first | (first | exact arg_closed _ cl | (refine arg_rowA rfl mem ?_; (first | rfl | omega | (simp [bn_len] <;> fail) | (simp [bn_len]; omega))) | (refine arg_row rfl mem ?_; (first | rfl | omega | (simp [bn_len] <;> fail) | (simp [bn_len]; omega))) | (refine arg_fld mem ?_ ?_; (first | rfl | omega | (simp [bn_len] <;> fail) | (simp [bn_len]; omega)); (simp only [Int.reduceBNe, Int.reduceBEq, rk_ext, fk_ext, len_ints, idx_ints, cells_ints, len_lst, cells_lst, sm_c, sm_a, src_ints, zros_v, zros_m, ints_nil_l, lr_ros, blkAt, List.getD_cons_zero, List.getD_cons_succ, Option.bind_some, rd_sE] <;> fail)) | (refine arg_lst cVot_closed rfl mem ?_; rfl) | (refine arg_sl rfl mem ?_ cll; first | rfl | (simp [cVot_len] <;> fail))) | (refine arg_agg (argG_Ros_members _ ?_); (first | exact arg_closed _ cl | (refine arg_rowA rfl mem ?_; (first | rfl | omega | (simp [bn_len] <;> fail) | (simp [bn_len]; omega))) | (refine arg_row rfl mem ?_; (first | rfl | omega | (simp [bn_len] <;> fail) | (simp [bn_len]; omega))) | (refine arg_fld mem ?_ ?_; (first | rfl | omega | (simp [bn_len] <;> fail) | (simp [bn_len]; omega)); (simp only [Int.reduceBNe, Int.reduceBEq, rk_ext, fk_ext, len_ints, idx_ints, cells_ints, len_lst, cells_lst, sm_c, sm_a, src_ints, zros_v, zros_m, ints_nil_l, lr_ros, blkAt, List.getD_cons_zero, List.getD_cons_succ, Option.bind_some, rd_sE] <;> fail)) | (refine arg_lst cVot_closed rfl mem ?_; rfl) | (refine arg_sl rfl mem ?_ cll; first | rfl | (simp [cVot_len] <;> fail)))) | fail))); (first | exact cl | exact cll); (first | exact nr | exact nrl)) | (apply call_inA (e2); (simp [ids_nil, ids_cons, ids_sc, ids_agg, ids_dg, ids_bs, ids_row, ids_ints, ids_sref, ids_ref, ids_sl, gRos_ids, cRos_ids, blkAt] <;> fail); (repeat' (first | exact args_n | apply args_c | (first | (first | exact arg_closed _ cl | (refine arg_rowA rfl mem ?_; (first | rfl | omega | (simp [bn_len] <;> fail) | (simp [bn_len]; omega))) | (refine arg_row rfl mem ?_; (first | rfl | omega | (simp [bn_len] <;> fail) | (simp [bn_len]; omega))) | (refine arg_fld mem ?_ ?_; (first | rfl | omega | (simp [bn_len] <;> fail) | (simp [bn_len]; omega)); (simp only [Int.reduceBNe, Int.reduceBEq, rk_ext, fk_ext, len_ints, idx_ints, cells_ints, len_lst, cells_lst, sm_c, sm_a, src_ints, zros_v, zros_m, ints_nil_l, lr_ros, blkAt, List.getD_cons_zero, List.getD_cons_succ, Option.bind_some, rd_sE] <;> fail)) | (refine arg_lst cVot_closed rfl mem ?_; rfl) | (refine arg_sl rfl mem ?_ cll; first | rfl | (simp [cVot_len] <;> fail))) | (refine arg_agg (argG_Ros_members _ ?_); (first | exact arg_closed _ cl | (refine arg_rowA rfl mem ?_; (first | rfl | omega | (simp [bn_len] <;> fail) | (simp [bn_len]; omega))) | (refine arg_row rfl mem ?_; (first | rfl | omega | (simp [bn_len] <;> fail) | (simp [bn_len]; omega))) | (refine arg_fld mem ?_ ?_; (first | rfl | omega | (simp [bn_len] <;> fail) | (simp [bn_len]; omega)); (simp only [Int.reduceBNe, Int.reduceBEq, rk_ext, fk_ext, len_ints, idx_ints, cells_ints, len_lst, cells_lst, sm_c, sm_a, src_ints, zros_v, zros_m, ints_nil_l, lr_ros, blkAt, List.getD_cons_zero, List.getD_cons_succ, Option.bind_some, rd_sE] <;> fail)) | (refine arg_lst cVot_closed rfl mem ?_; rfl) | (refine arg_sl rfl mem ?_ cll; first | rfl | (simp [cVot_len] <;> fail)))) | fail))); (first | exact cl | exact cll); (first | exact nr | exact nrl); (first | exact cl | exact cll); (first | exact nr | exact nrl))))))
  refine out_eq rfl cl
theorem key_258 (c : Bn 16) : keyL c 258 = keyL c 2 := by unfold keyL; rw [show b8 258 = b8 2 by decide]
theorem key_m1 (c : Bn 16) : keyL c (-1) = keyL c 255 := by unfold keyL; rw [show b8 (-1) = b8 255 by decide]
theorem xor_i64 (x y : Int) : ∃ z, evBin .xor (.sc (.int .i64 x)) (.sc (.int .i64 y)) = some (.sc (.int .i64 z)) := ⟨_, rfl⟩
theorem listF_v (v x : Int) : (listF v x).version = v := by unfold listF; rfl
set_option maxHeartbeats 8000000 in
theorem endorseNumbers_C : C Try.prog 12 [] [] (vb true) [] := by
  refine C_of mixed Try.func12 A_clavigerlaw15_EndorseNumbers_ok A_clavigerlaw15_EndorseNumbers_res _ A_clavigerlaw15_EndorseNumbers_nt ?_
  have k1 := keyL_C ((Bn.zero 16).set 0 (by8 4)) 258
  have k2 := rkeyL_C ((Bn.zero 16).set 0 (by8 4)) 2
  have k3 := keyL_C ((Bn.zero 16).set 0 (by8 4)) (-1)
  have k4 := rkeyL_C ((Bn.zero 16).set 0 (by8 4)) 255
  rw [key_258] at k1
  rw [key_m1] at k3
  (repeat' (first | simp (maxSteps := 2000000) -implicitDefEqProofs only [A_clavigerlaw15_EndorseNumbers, Int.reduceBNe, Int.reduceBEq, rk_ext, fk_ext, len_ints, idx_ints, cells_ints, len_lst, cells_lst, sm_c, sm_a, src_ints, zros_v, zros_m, ints_nil_l, lr_ros, lr, lr2, oO, oN, oG, oNG, oM, oF, oL, rg, ci, Nat.reduceEqDiff, Nat.reduceAdd, Nat.reduceSub, Int.reduceTDiv, Int.reduceTMod, ge_iff_le, Int.reduceGE, Nat.reducePow, Int.reduceEq, Int.reduceNeg, Int.reduceLE, Int.reducePow, Int.reduceLT, Int.reduceSub, Int.reduceAdd, Int.reduceMul, Int.reduceToNat, Option.map_some, ↓reduceIte, ite_not, beq_iff_eq, bne_iff_ne, ne_eq, beq_self_eq_true, beq_eq_false_iff_ne, bne_eq_false_iff_eq, resAll, resL, resV, reduceCtorEq, Option.some.injEq, exists_eq_left', blkAt, Nat.reduceLeDiff, Nat.reduceMul, eq_self, Nat.reduceLT, undef, fillV, evParts, footOp, wrOp, chk, disj, Nat.reduceBEq] | split))
  refine wk_loop (fun m S H => ∃ j : Nat, j ≤ 31 ∧ m = 31 - j ∧ S = (vb false :: .ref 0 0 :: vi .i64 ((j : Int) + 1) :: .dead :: .dead :: .dead :: .dead :: .dead :: .dead :: .dead :: .dead :: .dead :: .dead :: .dead :: .dead :: .dead :: .dead :: .dead :: .dead :: .dead :: .dead :: .dead :: .dead :: .dead :: .dead :: .dead :: .dead :: .dead :: .dead :: .dead :: .dead :: .dead :: .dead :: .dead :: .dead :: .dead :: .dead :: .dead :: .dead :: .dead :: .dead :: .dead :: .dead :: .dead :: .dead :: .dead :: .dead :: .dead :: .dead :: .dead :: .dead :: .dead :: .dead :: .dead :: .dead :: .dead :: .dead :: .dead :: .dead :: .dead :: .dead :: .dead :: .dead :: .dead :: .dead :: .dead :: []) ∧ H = [some (dg ((Bn.zero 16).set 0 (by8 4)))]) (31) ⟨0, Nat.zero_le _, rfl, rfl, rfl⟩ (by refine .ren _ _ _ [0] (by decide) (by intro k h; first | exact absurd h (Nat.not_lt_zero k) | (simp at h; done) | (match k, h with | 0, _ => rfl)) ?_ ?_ <;> simp [KeepS, KeepH, ArgRel, ArgRelL, argL_cl, arg_cl, row_l_of, row_l_nil, bn_len, blkAt]) ?_
  rintro m1 S1 H1 ⟨j, hj, rfl, rfl, rfl⟩ J1 hJ1
  by_cases hjn : j < 31
  · have e1 : (j : Int) + 1 < 32 := by omega
    have w1 : IntKind.i64.wrap ((j : Int) + 1 + 1) = ((j + 1 : Nat) : Int) + 1 := by rw [wrap_id _ (by omega) (by omega)]; omega
    obtain ⟨y, hy⟩ := xor_i64 ((j : Int) + 1) 4
    have l1 := listF_C 3 ((j : Int) + 1)
    have l2 := listF_C 4 y
    have n1 := listF_le 3 ((j : Int) + 1)
    have n2 := listF_le 4 y
    have v1 := listF_v 3 ((j : Int) + 1)
    have v2 := listF_v 4 y
    generalize listF 3 ((j : Int) + 1) = A at *
    generalize listF 4 y = B at *
    (repeat' (first | simp (maxSteps := 2000000) -implicitDefEqProofs only [A_clavigerlaw15_EndorseNumbers_L1, e1, hy, Int.reduceBNe, Int.reduceBEq, rk_ext, fk_ext, len_ints, idx_ints, cells_ints, len_lst, cells_lst, sm_c, sm_a, src_ints, zros_v, zros_m, ints_nil_l, lr_ros, lr, lr2, oO, oN, oG, oNG, oM, oF, oL, rg, ci, Nat.reduceEqDiff, Nat.reduceAdd, Nat.reduceSub, Int.reduceTDiv, Int.reduceTMod, ge_iff_le, Int.reduceGE, Nat.reducePow, Int.reduceEq, Int.reduceNeg, Int.reduceLE, Int.reducePow, Int.reduceLT, Int.reduceSub, Int.reduceAdd, Int.reduceMul, Int.reduceToNat, Option.map_some, ↓reduceIte, ite_not, beq_iff_eq, bne_iff_ne, ne_eq, beq_self_eq_true, beq_eq_false_iff_ne, bne_eq_false_iff_eq, resAll, resL, resV, reduceCtorEq, Option.some.injEq, exists_eq_left', blkAt, Nat.reduceLeDiff, Nat.reduceMul, eq_self, Nat.reduceLT, undef, fillV, evParts, footOp, wrOp, chk, disj, Nat.reduceBEq] | split | ((first | apply ck_call | apply cfk_call); (first | (apply call_pure (l1) cll cl) | (apply call_pure (l2) cll cl)))))
    refine wk_loop (fun m S H => ∃ i : Nat, i ≤ 64 ∧ m = 64 - i ∧ S = (vb false :: .ref 0 0 :: vi .i64 ((j : Int) + 1) :: .ref 1 0 :: .ref 2 0 :: vi .i64 i :: .dead :: .dead :: .dead :: .dead :: .dead :: .dead :: .dead :: .dead :: .dead :: .dead :: .dead :: .dead :: .dead :: .dead :: .dead :: .dead :: .dead :: .dead :: .dead :: .dead :: .dead :: .dead :: .dead :: .dead :: .dead :: .dead :: .dead :: .dead :: .dead :: .dead :: .dead :: .dead :: .dead :: .dead :: .dead :: .dead :: .dead :: .dead :: .dead :: .dead :: .dead :: .dead :: .dead :: .dead :: .dead :: .dead :: .dead :: .dead :: .dead :: .dead :: .dead :: .dead :: .dead :: .dead :: .dead :: .dead :: .dead :: .dead :: .dead :: .dead :: []) ∧ H = [some (dg ((Bn.zero 16).set 0 (by8 4))), some (cRos A), some (cRos B)]) (64) ⟨0, Nat.zero_le _, rfl, rfl, rfl⟩ (by refine .ren _ _ _ [0, 1, 2] (by decide) (by intro k h; first | exact absurd h (Nat.not_lt_zero k) | (simp at h; done) | (match k, h with | 0, _ => rfl)) ?_ ?_ <;> simp [KeepS, KeepH, ArgRel, ArgRelL, argL_cl, arg_cl, row_l_of, row_l_nil, bn_len, blkAt]) ?_
    rintro m S H ⟨i, hi, rfl, rfl, rfl⟩ J hJ
    have d0 : (0 : Int) ≤ i := by omega
    by_cases hin : i < 64
    · have d1 : (i : Int) < 64 := by omega
      have w2 : IntKind.i64.wrap ((i : Int) + 1) = ((i + 1 : Nat) : Int) := by rw [wrap_id _ (by omega) (by omega)]; omega
      have o0 := votesF_C ((Bn.zero 16).set 0 (by8 4)) B i 0 (by omega) (by omega) (by omega)
      have o1 := votesF_C ((Bn.zero 16).set 0 (by8 4)) B i 1 (by omega) (by omega) (by omega)
      have u0 := votesF_le ((Bn.zero 16).set 0 (by8 4)) B i 0
      have u1 := votesF_le ((Bn.zero 16).set 0 (by8 4)) B i 1
      generalize votesF ((Bn.zero 16).set 0 (by8 4)) B i 0 = V0 at *
      generalize votesF ((Bn.zero 16).set 0 (by8 4)) B i 1 = V1 at *
      have s0 := same15_C ((Bn.zero 16).set 0 (by8 4)) A B V0 (by omega) (by omega) (by omega) (by omega) (by omega)
      have s1 := same15_C ((Bn.zero 16).set 0 (by8 4)) A B V1 (by omega) (by omega) (by omega) (by omega) (by omega)
      have s2 := same15_C ((Bn.zero 16).set 0 (by8 4)) A A V0 (by omega) (by omega) (by omega) (by omega) (by omega)
      (repeat' (first | simp (maxSteps := 2000000) -implicitDefEqProofs only [A_clavigerlaw15_EndorseNumbers_L0, d1, w2, Int.reduceBNe, Int.reduceBEq, rk_ext, fk_ext, len_ints, idx_ints, cells_ints, len_lst, cells_lst, sm_c, sm_a, src_ints, zros_v, zros_m, ints_nil_l, lr_ros, lr, lr2, oO, oN, oG, oNG, oM, oF, oL, rg, ci, Nat.reduceEqDiff, Nat.reduceAdd, Nat.reduceSub, Int.reduceTDiv, Int.reduceTMod, ge_iff_le, Int.reduceGE, Nat.reducePow, Int.reduceEq, Int.reduceNeg, Int.reduceLE, Int.reducePow, Int.reduceLT, Int.reduceSub, Int.reduceAdd, Int.reduceMul, Int.reduceToNat, Option.map_some, ↓reduceIte, ite_not, beq_iff_eq, bne_iff_ne, ne_eq, beq_self_eq_true, beq_eq_false_iff_ne, bne_eq_false_iff_eq, resAll, resL, resV, reduceCtorEq, Option.some.injEq, exists_eq_left', blkAt, Nat.reduceLeDiff, Nat.reduceMul, eq_self, Nat.reduceLT, undef, fillV, evParts, footOp, wrOp, chk, disj, Nat.reduceBEq] | split | ((first | apply ck_call | apply cfk_call); (first | (apply call_pure (o0) cll cl) | (apply call_pure (o1) cll cl) | (apply call_pure (s0) cll cl) | (apply call_pure (s1) cll cl) | (apply call_pure (s2) cll cl)))))
      exact hJ _ _ _ _ _ (by omega) ⟨i + 1, by omega, rfl, rfl, rfl⟩ (by refine .ren _ _ _ [0, 1, 2] (by decide) (by intro k h; first | exact absurd h (Nat.not_lt_zero k) | (simp at h; done) | (match k, h with | 0, _ => rfl)) ?_ ?_ <;> simp [KeepS, KeepH, ArgRel, ArgRelL, argL_cl, arg_cl, row_l_of, row_l_nil, bn_len, blkAt])
    · obtain rfl : i = 64 := by omega
      (repeat' (first | simp (maxSteps := 2000000) -implicitDefEqProofs only [A_clavigerlaw15_EndorseNumbers_L0, w1, Int.reduceBNe, Int.reduceBEq, rk_ext, fk_ext, len_ints, idx_ints, cells_ints, len_lst, cells_lst, sm_c, sm_a, src_ints, zros_v, zros_m, ints_nil_l, lr_ros, lr, lr2, oO, oN, oG, oNG, oM, oF, oL, rg, ci, Nat.reduceEqDiff, Nat.reduceAdd, Nat.reduceSub, Int.reduceTDiv, Int.reduceTMod, ge_iff_le, Int.reduceGE, Nat.reducePow, Int.reduceEq, Int.reduceNeg, Int.reduceLE, Int.reducePow, Int.reduceLT, Int.reduceSub, Int.reduceAdd, Int.reduceMul, Int.reduceToNat, Option.map_some, ↓reduceIte, ite_not, beq_iff_eq, bne_iff_ne, ne_eq, beq_self_eq_true, beq_eq_false_iff_ne, bne_eq_false_iff_eq, resAll, resL, resV, reduceCtorEq, Option.some.injEq, exists_eq_left', blkAt, Nat.reduceLeDiff, Nat.reduceMul, eq_self, Nat.reduceLT, undef, fillV, evParts, footOp, wrOp, chk, disj, Nat.reduceBEq] | split))
      exact hJ1 _ _ _ _ _ (by omega) ⟨j + 1, by omega, rfl, rfl, rfl⟩ (by refine .ren _ _ _ [0] (by decide) (by intro k h; first | exact absurd h (Nat.not_lt_zero k) | (simp at h; done) | (match k, h with | 0, _ => rfl)) ?_ ?_ <;> simp [KeepS, KeepH, ArgRel, ArgRelL, argL_cl, arg_cl, row_l_of, row_l_nil, bn_len, blkAt])
  · obtain rfl : j = 31 := by omega
    (repeat' (first | simp (maxSteps := 2000000) -implicitDefEqProofs only [A_clavigerlaw15_EndorseNumbers_L1, K_clavigerlaw15_EndorseNumbers_L1, Int.reduceBNe, Int.reduceBEq, rk_ext, fk_ext, len_ints, idx_ints, cells_ints, len_lst, cells_lst, sm_c, sm_a, src_ints, zros_v, zros_m, ints_nil_l, lr_ros, lr, lr2, oO, oN, oG, oNG, oM, oF, oL, rg, ci, Nat.reduceEqDiff, Nat.reduceAdd, Nat.reduceSub, Int.reduceTDiv, Int.reduceTMod, ge_iff_le, Int.reduceGE, Nat.reducePow, Int.reduceEq, Int.reduceNeg, Int.reduceLE, Int.reducePow, Int.reduceLT, Int.reduceSub, Int.reduceAdd, Int.reduceMul, Int.reduceToNat, Option.map_some, ↓reduceIte, ite_not, beq_iff_eq, bne_iff_ne, ne_eq, beq_self_eq_true, beq_eq_false_iff_ne, bne_eq_false_iff_eq, resAll, resL, resV, reduceCtorEq, Option.some.injEq, exists_eq_left', blkAt, Nat.reduceLeDiff, Nat.reduceMul, eq_self, Nat.reduceLT, undef, fillV, evParts, footOp, wrOp, chk, disj, Nat.reduceBEq] | split | ((first | apply ck_call | apply cfk_call); (first | (apply call_pure (k1) cll cl) | (apply call_pure (k2) cll cl) | (apply call_pure (k3) cll cl) | (apply call_pure (k4) cll cl) | (apply call_pure (known15_C) cll cl)))))
    all_goals (refine out_eq ?_ (cl); first | rfl | (simp_all []; done) | (simp_all []; intros; omega) | (simp []; (repeat' split) <;> first | rfl | omega | (simp_all; done) | (simp_all; intros; omega)))
end Go.Proofs.Ytehinkckdeodhaa.VA
