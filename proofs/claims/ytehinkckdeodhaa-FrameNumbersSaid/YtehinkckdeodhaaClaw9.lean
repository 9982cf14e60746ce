/- Layer 9's laws: known, same, open, FrameTells. -/
import Derived.Test.YtehinkckdeodhaaLlaw9
import Derived.Test.YtehinkckdeodhaaCframe
import Derived.Test.YtehinkckdeodhaaPR
import Derived.Test.YtehinkckdeodhaaPK
import Derived.Test.YtehinkckdeodhaaVC
set_option linter.unusedVariables false
set_option linter.unusedSimpArgs false
set_option maxRecDepth 100000
namespace Go.Proofs.Ytehinkckdeodhaa.VA
open Go
attribute [local irreducible] WK NK XK TK RK FK CK CFK CallRel C
theorem seal_text9 (k : Bn 16) (n : Nat) (ad t : List UInt8) (h : t.length ≤ 8184) : textF k n (sealF k n ad t) = t := by
  have hl := hid_len k n t (by omega)
  have e : (sealF k n ad t).take ((sealF k n ad t).length - 8) = hidF k n t := by
    rw [seal_len _ _ _ _ (by omega), Nat.add_sub_cancel, sealF, List.take_left' hl]
  rw [textF, e, hidF, hl, hidF, xor_twice _ _ (stream_len k n _ (by omega))]
theorem seal_fits9 (k : Bn 16) (n : Nat) (ad t : List UInt8) (h : t.length ≤ 8184) (ha : ad.length ≤ 8192) : fits k n ad (sealF k n ad t) := by
  have hl := hid_len k n t (by omega)
  have sl := seal_len k n ad t (by omega)
  refine ⟨by omega, by omega, ha, ?_⟩
  rw [seal_text9 k n ad t h, sl, Nat.add_sub_cancel, sealF, List.drop_left' hl]
attribute [local irreducible] putR sealF textF fits recS RightR twoF sumF keepR frameF
theorem frame_back (k : Bn 16) (n : Nat) (prev : Bn 16) (r : Rec) (h : RightR r) (he : 0 ≤ r.epoch) : frecV k n prev (frameF k n prev r) ∧ sameR (frec k n (frameF k n prev r)).x r := by
  have hl := putR_le h
  have ht : textF k n (frameF k n prev r) = putR r := by unfold frameF; exact seal_text9 k n prev.1 (putR r) (by omega)
  have hf : fits k n prev.1 (frameF k n prev r) := by unfold frameF; exact seal_fits9 k n prev.1 (putR r) (by omega) (by rw [prev.2]; decide)
  have hb := rec_back h he (r := rd0 (.of (putR r))) (at_rd0 _)
  have e : frec k n (frameF k n prev r) = recS (rd0 (.of (putR r))) := by unfold frec; rw [ht]
  refine ⟨⟨hf, ?_⟩, ?_⟩
  · rw [e]; exact ⟨hb.2.1, hb.2.2⟩
  · rw [e]; exact hb.1
theorem frec_le (k : Bn 16) (n : Nat) (b : List UInt8) : (frec k n b).x.vaults.l.length ≤ 5 := by
  unfold frec recS
  split
  · simp [Lst.l]
  · split
    · simp [Lst.l]
    · split
      · simp only [lstOf_l, seqV_len]; omega
      · split <;> simp [Lst.l]
def r9 : Rec := ⟨4, 1, 0, 2, Vlt.zero, .nil⟩
theorem r9_right : RightR r9 := by unfold RightR; decide
theorem r9_bad : ¬ RightR ⟨9, 0, 0, 0, Vlt.zero, .nil⟩ := by unfold RightR; decide
set_option maxHeartbeats 4000000 in
theorem known9_C : C Try.prog 83 [] [] (vb true) [] := by
  refine C_of mixed Try.func83 A_clavigerlaw9_known_ok A_clavigerlaw9_known_res _ A_clavigerlaw9_known_nt ?_
  obtain ⟨k, hk⟩ : ∃ k, k = (Bn.zero 16).set 0 (by8 1) := ⟨_, rfl⟩
  obtain ⟨p, hp⟩ : ∃ p, p = (Bn.zero 16).set 0 (by8 2) := ⟨_, rfl⟩
  have c1 := fseal_C k 5 p r9 r9_right (by decide)
  obtain ⟨hv, hs⟩ := frame_back k 5 p r9 r9_right (by decide)
  have c2 := fopenT_C k 5 p (.of (frameF k 5 p r9)) hv
  have c3 := fopenE_C k 5 p .nil (by unfold fits; rintro ⟨h, _⟩; simp [Row.l] at h)
  have c4 := fsealN_C (Bn.zero 16) 0 (Bn.zero 16) ⟨9, 0, 0, 0, Vlt.zero, .nil⟩ r9_bad
  have c5 := rrecords_C (frec k 5 (frameF k 5 p r9)).x r9 hs (by have := frec_le k 5 (frameF k 5 p r9); omega)
  simp only [row_l_of] at c2
  generalize (frec k 5 (frameF k 5 p r9)).x = x at *
  generalize frameF k 5 p r9 = f at *
  subst hk; subst hp
  unfold r9 at c1 c5
  (repeat' (first | simp (maxSteps := 2000000) -implicitDefEqProofs only [A_clavigerlaw9_known, Int.reduceBNe, Int.reduceBEq, len_lst, cells_lst, rk_ext, fk_ext, sm_c, sm_a, numI_len, lr_api, lr_keep, lr, lr2, oO, oN, oG, oNG, oM, oF, oL, rg, ci, Nat.reduceEqDiff, Nat.reduceAdd, Nat.reduceSub, Int.reduceTDiv, Int.reduceTMod, ge_iff_le, Int.reduceGE, Nat.reducePow, Int.reduceEq, Int.reduceNeg, Int.reduceLE, Int.reducePow, Int.reduceLT, Int.reduceSub, Int.reduceAdd, Int.reduceMul, Int.reduceToNat, Option.map_some, ↓reduceIte, ite_not, beq_iff_eq, bne_iff_ne, ne_eq, beq_self_eq_true, beq_eq_false_iff_ne, bne_eq_false_iff_eq, resAll, resL, resV, reduceCtorEq, Option.some.injEq, exists_eq_left', blkAt, Nat.reduceLeDiff, Nat.reduceMul, eq_self, Nat.reduceLT, undef, fillV, evParts, footOp, wrOp, chk, disj, Nat.reduceBEq] | split | ((first | apply ck_call | apply cfk_call); (first | (apply call_pure (c1) cll cl) | (apply call_pure (c2) cll cl) | (apply call_pure (c3) cll cl) | (apply call_pure (c4) cll cl) | (apply call_pure (c5) cll cl)))))
  all_goals (refine out_eq ?_ (cl); first | rfl | (simp_all []; done) | (simp_all []; intros; omega) | (simp []; (repeat' split) <;> first | rfl | omega | (simp_all; done) | (simp_all; intros; omega)))
theorem same9_C (k : Bn 16) (n : Nat) (hn : n < 18446744073709551616) (prev : Bn 16) (r : Rec) (he : 0 ≤ r.epoch) : C Try.prog 85 [.agg (dg k), vi .u64 n, .agg (dg prev), .agg (cRec r)] [] (vb true) [] := by
  refine C_of mixed Try.func85 A_clavigerlaw9_same_ok A_clavigerlaw9_same_res _ A_clavigerlaw9_same_nt ?_
  by_cases h : RightR r
  · have h1 : r.epoch ≤ 1099511627776 := by
      have h := h
      unfold RightR at h
      rcases h with h | ⟨h, _⟩
      · omega
      · exact h.2.1
    (repeat' (first | simp (maxSteps := 2000000) -implicitDefEqProofs only [A_clavigerlaw9_same, h, Int.reduceBNe, Int.reduceBEq, len_lst, cells_lst, rk_ext, fk_ext, sm_c, sm_a, numI_len, lr_api, lr_keep, lr, lr2, oO, oN, oG, oNG, oM, oF, oL, rg, ci, Nat.reduceEqDiff, Nat.reduceAdd, Nat.reduceSub, Int.reduceTDiv, Int.reduceTMod, ge_iff_le, Int.reduceGE, Nat.reducePow, Int.reduceEq, Int.reduceNeg, Int.reduceLE, Int.reducePow, Int.reduceLT, Int.reduceSub, Int.reduceAdd, Int.reduceMul, Int.reduceToNat, Option.map_some, ↓reduceIte, ite_not, beq_iff_eq, bne_iff_ne, ne_eq, beq_self_eq_true, beq_eq_false_iff_ne, bne_eq_false_iff_eq, resAll, resL, resV, reduceCtorEq, Option.some.injEq, exists_eq_left', blkAt, Nat.reduceLeDiff, Nat.reduceMul, eq_self, Nat.reduceLT, undef, fillV, evParts, footOp, wrOp, chk, disj, Nat.reduceBEq] | split | ((first | apply ck_call | apply cfk_call); (first | (apply call_pure (fseal_C k n prev r h he) cll cl) | (apply call_pure (rrightR_C r) cll cl) | (apply call_pure (rframe_C k n hn prev r h he (by omega)) cll cl)))))
    all_goals (refine out_eq ?_ (cl); first | rfl | (simp_all []; done) | (simp_all []; intros; omega) | (simp []; (repeat' split) <;> first | rfl | omega | (simp_all; done) | (simp_all; intros; omega)))
  · (repeat' (first | simp (maxSteps := 2000000) -implicitDefEqProofs only [A_clavigerlaw9_same, h, Int.reduceBNe, Int.reduceBEq, len_lst, cells_lst, rk_ext, fk_ext, sm_c, sm_a, numI_len, lr_api, lr_keep, lr, lr2, oO, oN, oG, oNG, oM, oF, oL, rg, ci, Nat.reduceEqDiff, Nat.reduceAdd, Nat.reduceSub, Int.reduceTDiv, Int.reduceTMod, ge_iff_le, Int.reduceGE, Nat.reducePow, Int.reduceEq, Int.reduceNeg, Int.reduceLE, Int.reducePow, Int.reduceLT, Int.reduceSub, Int.reduceAdd, Int.reduceMul, Int.reduceToNat, Option.map_some, ↓reduceIte, ite_not, beq_iff_eq, bne_iff_ne, ne_eq, beq_self_eq_true, beq_eq_false_iff_ne, bne_eq_false_iff_eq, resAll, resL, resV, reduceCtorEq, Option.some.injEq, exists_eq_left', blkAt, Nat.reduceLeDiff, Nat.reduceMul, eq_self, Nat.reduceLT, undef, fillV, evParts, footOp, wrOp, chk, disj, Nat.reduceBEq] | split | ((first | apply ck_call | apply cfk_call); (first | (apply call_pure (fsealN_C k n prev r h) cll cl) | (apply call_pure (rrightR_C r) cll cl)))))
    all_goals (refine out_eq ?_ (cl); first | rfl | (simp_all []; done) | (simp_all []; intros; omega) | (simp []; (repeat' split) <;> first | rfl | omega | (simp_all; done) | (simp_all; intros; omega)))
theorem open9_C (k : Bn 16) (n : Nat) (hn : n < 18446744073709551616) (prev : Bn 16) (b : Row) (hb : b.l.length ≤ 70368744177664) : C Try.prog 86 [.agg (dg k), vi .u64 n, .agg (dg prev), rowV b] [] (vb true) [] := by
  refine C_of mixed Try.func86 A_clavigerlaw9_open_ok A_clavigerlaw9_open_res _ A_clavigerlaw9_open_nt ?_
  have h1 := fhead_C prev b hb
  have h2 := rfhead_C prev b hb
  generalize headF prev b.l = h at *
  by_cases hf : fits k n prev.1 b.l
  · by_cases h3 : R3 (frec k n b.l)
    · have c1 := fopenT_C k n prev b ⟨hf, h3⟩
      have c2 := rfopenT_C k n hn prev b ⟨hf, h3⟩
      have c3 := rrecords_C (frec k n b.l).x (frec k n b.l).x (sameR_self _) (by have := frec_le k n b.l; omega)
      generalize (frec k n b.l).x = x at *
      (repeat' (first | simp (maxSteps := 2000000) -implicitDefEqProofs only [A_clavigerlaw9_open, Int.reduceBNe, Int.reduceBEq, len_lst, cells_lst, rk_ext, fk_ext, sm_c, sm_a, numI_len, lr_api, lr_keep, lr, lr2, oO, oN, oG, oNG, oM, oF, oL, rg, ci, Nat.reduceEqDiff, Nat.reduceAdd, Nat.reduceSub, Int.reduceTDiv, Int.reduceTMod, ge_iff_le, Int.reduceGE, Nat.reducePow, Int.reduceEq, Int.reduceNeg, Int.reduceLE, Int.reducePow, Int.reduceLT, Int.reduceSub, Int.reduceAdd, Int.reduceMul, Int.reduceToNat, Option.map_some, ↓reduceIte, ite_not, beq_iff_eq, bne_iff_ne, ne_eq, beq_self_eq_true, beq_eq_false_iff_ne, bne_eq_false_iff_eq, resAll, resL, resV, reduceCtorEq, Option.some.injEq, exists_eq_left', blkAt, Nat.reduceLeDiff, Nat.reduceMul, eq_self, Nat.reduceLT, undef, fillV, evParts, footOp, wrOp, chk, disj, Nat.reduceBEq] | split | ((first | apply ck_call | apply cfk_call); (first | (apply call_pure (c1) cll cl) | (apply call_pure (c2) cll cl) | (apply call_pure (c3) cll cl) | (apply call_pure (h1) cll cl) | (apply call_pure (h2) cll cl)))))
      all_goals (refine out_eq ?_ (cl); first | rfl | (simp_all []; done) | (simp_all []; intros; omega) | (simp []; (repeat' split) <;> first | rfl | omega | (simp_all; done) | (simp_all; intros; omega)))
    · (repeat' (first | simp (maxSteps := 2000000) -implicitDefEqProofs only [A_clavigerlaw9_open, Int.reduceBNe, Int.reduceBEq, len_lst, cells_lst, rk_ext, fk_ext, sm_c, sm_a, numI_len, lr_api, lr_keep, lr, lr2, oO, oN, oG, oNG, oM, oF, oL, rg, ci, Nat.reduceEqDiff, Nat.reduceAdd, Nat.reduceSub, Int.reduceTDiv, Int.reduceTMod, ge_iff_le, Int.reduceGE, Nat.reducePow, Int.reduceEq, Int.reduceNeg, Int.reduceLE, Int.reducePow, Int.reduceLT, Int.reduceSub, Int.reduceAdd, Int.reduceMul, Int.reduceToNat, Option.map_some, ↓reduceIte, ite_not, beq_iff_eq, bne_iff_ne, ne_eq, beq_self_eq_true, beq_eq_false_iff_ne, bne_eq_false_iff_eq, resAll, resL, resV, reduceCtorEq, Option.some.injEq, exists_eq_left', blkAt, Nat.reduceLeDiff, Nat.reduceMul, eq_self, Nat.reduceLT, undef, fillV, evParts, footOp, wrOp, chk, disj, Nat.reduceBEq] | split | ((first | apply ck_call | apply cfk_call); (first | (apply call_pure (fopenF_C k n prev b hf h3) cll cl) | (apply call_pure (rfopenF_C k n hn prev b hf h3) cll cl) | (apply call_pure (rrecords_C Rec.zero Rec.zero (sameR_self _) (by decide)) cll cl) | (apply call_pure (h1) cll cl) | (apply call_pure (h2) cll cl)))))
      all_goals (refine out_eq ?_ (cl); first | rfl | (simp_all []; done) | (simp_all []; intros; omega) | (simp []; (repeat' split) <;> first | rfl | omega | (simp_all; done) | (simp_all; intros; omega)))
  · (repeat' (first | simp (maxSteps := 2000000) -implicitDefEqProofs only [A_clavigerlaw9_open, Int.reduceBNe, Int.reduceBEq, len_lst, cells_lst, rk_ext, fk_ext, sm_c, sm_a, numI_len, lr_api, lr_keep, lr, lr2, oO, oN, oG, oNG, oM, oF, oL, rg, ci, Nat.reduceEqDiff, Nat.reduceAdd, Nat.reduceSub, Int.reduceTDiv, Int.reduceTMod, ge_iff_le, Int.reduceGE, Nat.reducePow, Int.reduceEq, Int.reduceNeg, Int.reduceLE, Int.reducePow, Int.reduceLT, Int.reduceSub, Int.reduceAdd, Int.reduceMul, Int.reduceToNat, Option.map_some, ↓reduceIte, ite_not, beq_iff_eq, bne_iff_ne, ne_eq, beq_self_eq_true, beq_eq_false_iff_ne, bne_eq_false_iff_eq, resAll, resL, resV, reduceCtorEq, Option.some.injEq, exists_eq_left', blkAt, Nat.reduceLeDiff, Nat.reduceMul, eq_self, Nat.reduceLT, undef, fillV, evParts, footOp, wrOp, chk, disj, Nat.reduceBEq] | split | ((first | apply ck_call | apply cfk_call); (first | (apply call_pure (fopenE_C k n prev b hf) cll cl) | (apply call_pure (rfopenE_C k n hn prev b hf) cll cl) | (apply call_pure (rrecords_C Rec.zero Rec.zero (sameR_self _) (by decide)) cll cl) | (apply call_pure (h1) cll cl) | (apply call_pure (h2) cll cl)))))
    all_goals (refine out_eq ?_ (cl); first | rfl | (simp_all []; done) | (simp_all []; intros; omega) | (simp []; (repeat' split) <;> first | rfl | omega | (simp_all; done) | (simp_all; intros; omega)))
set_option maxHeartbeats 4000000 in
theorem frameTells_C (k prev other : Bn 16) (n : Nat) (hn : n < 18446744073709551616) (x : KR) (raw : Rec) (b : Row) (at_ : Int) (turn : UInt8) (hx : x.fine) (hr : 0 ≤ raw.epoch) :
    C Try.prog 24 [.agg (dg k), .agg (dg prev), .agg (dg other), vi .u64 n, .agg (cKR x), .agg (cRec raw), rowV b, vi .i64 at_, vi .u8 (turn.toNat : Int)] [] (vb true) [] := by
  refine C_of mixed Try.func24 A_clavigerlaw9_FrameTells_ok A_clavigerlaw9_FrameTells_res _ A_clavigerlaw9_FrameTells_nt ?_
  have k4 := keepR_C x hx
  have r4 := keepR_right x hx
  generalize keepR x = r at *
  have c1 := rframe_C k n hn prev r r4.1 r4.2.1 r4.2.2.1
  have l1 := frame_len (k := k) (n := n) (prev := prev) r4.1
  have l2 := putR_le r4.1
  generalize frameF k n prev r = f at *
  have hl : f.length ≤ 140737488355328 := by omega
  have wl : IntKind.i64.wrap ((f.length : Int) - 1) = ((f.length - 1 : Nat) : Int) := by rw [wrap_id _ (by omega) (by omega)]; omega
  (repeat' (first | simp (maxSteps := 2000000) -implicitDefEqProofs only [A_clavigerlaw9_FrameTells, app_bs0, hl, wl, Int.reduceBNe, Int.reduceBEq, len_lst, cells_lst, rk_ext, fk_ext, sm_c, sm_a, numI_len, lr_api, lr_keep, lr, lr2, oO, oN, oG, oNG, oM, oF, oL, rg, ci, Nat.reduceEqDiff, Nat.reduceAdd, Nat.reduceSub, Int.reduceTDiv, Int.reduceTMod, ge_iff_le, Int.reduceGE, Nat.reducePow, Int.reduceEq, Int.reduceNeg, Int.reduceLE, Int.reducePow, Int.reduceLT, Int.reduceSub, Int.reduceAdd, Int.reduceMul, Int.reduceToNat, Option.map_some, ↓reduceIte, ite_not, beq_iff_eq, bne_iff_ne, ne_eq, beq_self_eq_true, beq_eq_false_iff_ne, bne_eq_false_iff_eq, resAll, resL, resV, reduceCtorEq, Option.some.injEq, exists_eq_left', blkAt, Nat.reduceLeDiff, Nat.reduceMul, eq_self, Nat.reduceLT, undef, fillV, evParts, footOp, wrOp, chk, disj, Nat.reduceBEq] | split | ((first | apply ck_call | apply cfk_call); (first | (apply call_pure (k4) cll cl) | (apply call_pure (c1) cll cl)))))
  ((first | apply ck_call | apply cfk_call); (apply call_pure (within_C at_ 0 ((f.length - 1 : Nat) : Int) (by decide) (by omega) (by omega)) cll cl))
  have hw := within_range at_ 0 ((f.length - 1 : Nat) : Int) (by omega)
  generalize within at_ 0 ((f.length - 1 : Nat) : Int) = d at hw
  obtain ⟨d, rfl⟩ : ∃ n : Nat, d = n := ⟨d.toNat, by omega⟩
  have e0 : (0 : Int) ≤ d := by omega
  have e1 : (d : Int) < f.length := by omega
  have e2 : d < f.length := by omega
  have e3 : d + 1 ≤ f.length := by omega
  have hc : (cutF b 100).l.length ≤ 100 := by rw [cutF_l, List.length_take]; omega
  have o1 := open9_C k n hn prev (.of f) (by rw [row_l_of]; omega)
  have o2 := open9_C k n hn prev (.of (f.set d (f.getD d 0 ^^^ turn))) (by rw [row_l_of, List.length_set]; omega)
  have o3 := open9_C k n hn other (.of f) (by rw [row_l_of]; omega)
  have o4 := open9_C k n hn prev (cutF b 100) (by omega)
  (repeat' (first | simp (maxSteps := 2000000) -implicitDefEqProofs only [e0, e1, e2, e3, rd_bs, by8_nat, List.length_set, Int.reduceBNe, Int.reduceBEq, len_lst, cells_lst, rk_ext, fk_ext, sm_c, sm_a, numI_len, lr_api, lr_keep, lr, lr2, oO, oN, oG, oNG, oM, oF, oL, rg, ci, Nat.reduceEqDiff, Nat.reduceAdd, Nat.reduceSub, Int.reduceTDiv, Int.reduceTMod, ge_iff_le, Int.reduceGE, Nat.reducePow, Int.reduceEq, Int.reduceNeg, Int.reduceLE, Int.reducePow, Int.reduceLT, Int.reduceSub, Int.reduceAdd, Int.reduceMul, Int.reduceToNat, Option.map_some, ↓reduceIte, ite_not, beq_iff_eq, bne_iff_ne, ne_eq, beq_self_eq_true, beq_eq_false_iff_ne, bne_eq_false_iff_eq, resAll, resL, resV, reduceCtorEq, Option.some.injEq, exists_eq_left', blkAt, Nat.reduceLeDiff, Nat.reduceMul, eq_self, Nat.reduceLT, undef, fillV, evParts, footOp, wrOp, chk, disj, Nat.reduceBEq] | split | ((first | apply ck_call | apply cfk_call); (first | (apply call_pure (same9_C k n hn prev r r4.2.1) cll cl) | (apply call_pure (same9_C k n hn prev raw hr) cll cl) | (apply call_pure (o1) cll cl) | (apply call_roA (o2); (simp [ids_nil, ids_cons, ids_sc, ids_agg, ids_dg, ids_bs, ids_row, ids_ints, ids_sref, ids_ref, ids_sl, blkAt] <;> fail); (repeat' (first | exact args_n | apply args_c | (first | exact arg_closed _ cl | (refine arg_rowA rfl mem ?_; (first | rfl | omega | (simp [bn_len] <;> fail) | (simp [bn_len]; omega))) | (refine arg_row rfl mem ?_; (first | rfl | omega | (simp [bn_len] <;> fail) | (simp [bn_len]; omega))) | (refine arg_fld mem ?_ ?_; (first | rfl | omega | (simp [bn_len] <;> fail) | (simp [bn_len]; omega)); (simp only [Int.reduceBNe, Int.reduceBEq, len_lst, cells_lst, rk_ext, fk_ext, sm_c, sm_a, numI_len, lr_api, lr_keep, blkAt, List.getD_cons_zero, List.getD_cons_succ, Option.bind_some, rd_sE] <;> fail))))); (first | exact cl | exact cll); (first | exact nr | exact nrl)) | (apply call_pure (o3) cll cl) | (apply call_pure (cut_C b 100) cll cl) | (apply call_pure (o4) cll cl) | (apply call_pure (known9_C) cll cl)))))
  all_goals (refine out_eq ?_ (cl); first | rfl | (simp_all []; done) | (simp_all []; intros; omega) | (simp []; (repeat' split) <;> first | rfl | omega | (simp_all; done) | (simp_all; intros; omega)))
end Go.Proofs.Ytehinkckdeodhaa.VA
