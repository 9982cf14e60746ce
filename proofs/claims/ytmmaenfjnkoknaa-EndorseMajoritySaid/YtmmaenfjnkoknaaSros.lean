/- Layer 15: EndorseMajority. -/
import Derived.Test.YtmmaenfjnkoknaaP4ros
import Derived.Test.YtmmaenfjnkoknaaVC
set_option linter.unusedVariables false
set_option linter.unusedSimpArgs false
set_option maxRecDepth 100000
namespace Go.Proofs.Ytmmaenfjnkoknaa.VA
open Go
attribute [local irreducible] WK NK XK TK RK FK CK CFK CallRel C
theorem selN_0 (who B : Int) : selN who B 0 = 0 := rfl
attribute [local irreducible] markL keyL RosP majL bitX listF votesF hasL
set_option maxHeartbeats 8000000 in
theorem endorseMajority_C (c : Bn 16) (bits who k : Int) : C Try.prog 20 [.agg (dg c), vi .i64 bits, vi .i64 who, vi .i64 k] [] (vb true) [] := by
  have a1 := andX_e bits 255
  have a2 := andX_e k 7
  have a3 := andX_e who 255
  obtain ⟨j, hj, ej⟩ := and7_nat k
  rw [ej] at a2
  have hbit := bit255 who
  generalize andX bits 255 = B at *
  generalize hW : andX who 255 = W at *
  have cl1 := listF_C 3 B
  have lv : (listF 3 B).version = 3 := lsF_v 3 B
  have lm := lsF_len 3 B
  have ll := lsF_le 3 B
  generalize listF 3 B = L at *
  have kw := with_C L j ll
  by_cases hok : (withL L j).2 = true
  · have hr : RosP L := by
      by_cases hr : RosP L
      · exact hr
      · rw [(with_bad L hr j).1] at hok; cases hok
    have hm : (j : Int) ∉ L.members.l := fun hm => by
      rw [(without_near L hr j hj hm).2.1] at hok; cases hok
    obtain ⟨m, n, f1, f2, f3, f4, f5, f6, f7, f8, f9, f10, f11, f12, hpm⟩ := back_facts L j hj hr (by omega) hm
    rw [f1] at kw
    obtain ⟨g1, g2, g3⟩ := (rosP_iff m).1 hpm
    have kv := fun w => votesF_C c m w 0 (by omega) (by omega) (by omega)
    have kc := fun w => check_C c L m (votesF c m w 0) (by have := votesF_le c m w 0; omega) hr hpm
    have e0 := fun w => cnt_sel c L m w B lm
    have kM := majL_C L
    have hhas : ∀ i : Nat, i < 8 → decide (hasL L i) = decide (bitX B i = 1) := fun i hi => by
      rw [decide_eq_decide]
      unfold hasL
      rw [← mem_bits B i hi, ← lm]
      exact ⟨fun h => h.2, fun h => ⟨hr, h⟩⟩
    refine C_of mixed Try.func20 A_clavigerlaw15_EndorseMajority_ok A_clavigerlaw15_EndorseMajority_res _ A_clavigerlaw15_EndorseMajority_nt ?_
    (repeat' (first | simp (maxSteps := 2000000) -implicitDefEqProofs only [A_clavigerlaw15_EndorseMajority, a1, a2, Int.reduceBNe, Int.reduceBEq, rk_ext, fk_ext, len_ints, idx_ints, cells_ints, len_lst, cells_lst, sm_c, sm_a, src_ints, zros_v, zros_m, ints_nil_l, lr_ros, lr, lr2, oO, oN, oG, oNG, oM, oF, oL, rg, ci, Nat.reduceEqDiff, Nat.reduceAdd, Nat.reduceSub, Int.reduceTDiv, Int.reduceTMod, ge_iff_le, Int.reduceGE, Nat.reducePow, Int.reduceEq, Int.reduceNeg, Int.reduceLE, Int.reducePow, Int.reduceLT, Int.reduceSub, Int.reduceAdd, Int.reduceMul, Int.reduceToNat, Option.map_some, ↓reduceIte, ite_not, beq_iff_eq, bne_iff_ne, ne_eq, beq_self_eq_true, beq_eq_false_iff_ne, bne_eq_false_iff_eq, resAll, resL, resV, reduceCtorEq, Option.some.injEq, exists_eq_left', blkAt, Nat.reduceLeDiff, Nat.reduceMul, eq_self, Nat.reduceLT, undef, fillV, evParts, footOp, wrOp, chk, disj, Nat.reduceBEq] | split | ((first | apply ck_call | apply cfk_call); (first | (apply call_pure (cl1) cll cl) | (apply call_pure (kw) cll cl)))))
    refine wk_loop (fun mm S H => ∃ i r : Nat, i ≤ 8 ∧ mm = 8 - i ∧ r < 256 ∧ (∀ q, r.testBit q = (decide (q < i) && selP who B q)) ∧ S = (.dead :: .dead :: vi .i64 who :: .dead :: .ref 0 0 :: .dead :: .dead :: .dead :: .dead :: .ref 1 0 :: .ref 2 0 :: .dead :: vi .i64 (selN who B i : Int) :: vi .i64 r :: vi .i64 i :: .dead :: .dead :: .dead :: .dead :: .dead :: .dead :: .dead :: .dead :: .dead :: .dead :: .dead :: .dead :: .dead :: .dead :: .dead :: .dead :: .dead :: .dead :: .dead :: .dead :: .dead :: .dead :: .dead :: .dead :: .dead :: .dead :: .dead :: .dead :: .dead :: .dead :: .dead :: .dead :: .dead :: .dead :: .dead :: .dead :: .dead :: .dead :: .dead :: .dead :: .dead :: .dead :: .dead :: .dead :: .dead :: .dead :: .dead :: .dead :: .dead :: .dead :: .dead :: .dead :: .dead :: .dead :: .dead :: .dead :: .dead :: .dead :: .dead :: .dead :: .dead :: .dead :: .dead :: .dead :: .dead :: .dead :: .dead :: .dead :: .dead :: .dead :: .dead :: .dead :: .dead :: .dead :: .dead :: .dead :: .dead :: .dead :: .dead :: .dead :: .dead :: .dead :: .dead :: .dead :: .dead :: .dead :: []) ∧ H = [some (dg c), some (cRos L), some (cRos m)]) 8 ⟨0, 0, Nat.zero_le _, rfl, by decide, fun q => by simp, rfl, rfl⟩ (by refine .ren _ _ _ [0, 1, 2] (by decide) (by intro k h; first | exact absurd h (Nat.not_lt_zero k) | (simp at h; done) | (rcases k with _ | _ | _ | k <;> first | rfl | (exfalso; omega) | (simp at h; done))) ?_ ?_ <;> simp [KeepS, KeepH, ArgRel, ArgRelL, argL_cl, arg_cl, row_l_of, row_l_nil, bn_len, blkAt, selN_0]) ?_
    rintro mm S H ⟨i, r, hi, rfl, hr8, hrb, rfl, rfl⟩ J hJ
    by_cases hi8 : i < 8
    · have d0 : (0 : Int) ≤ i := by omega
      have d1 : (i : Int) < 8 := by omega
      have w1 : IntKind.i64.wrap ((i : Int) + 1) = ((i + 1 : Nat) : Int) := by rw [wrap_id _ (by omega) (by omega)]; omega
      have w2 : IntKind.u64.wrap (i : Int) = (i : Int) := IntWalk.u64_in _ ⟨by omega, by omega⟩
      have b1 := bit_shr who i
      have b2 := bit_and who i
      have kh := hasL_C L i ll
      rw [hhas i hi8] at kh
      have hle := selN_le who B i
      have hS := selN_S who B i
      have sh := shl1_k i
      obtain ⟨es, hs⟩ := shl1_nat i hi8
      rw [es] at sh
      obtain ⟨eo, ho⟩ := or_nat r (2 ^ i) hr8 hs
      have o1 : evBin .or (.sc (.int .i64 (r : Int))) (.sc (.int .i64 ((2 ^ i : Nat) : Int))) = some (.sc (.int .i64 ((r ||| 2 ^ i : Nat) : Int))) := by
        rw [← eo]; exact orX_e _ _
      by_cases q1 : bitX who i = 1
      · by_cases q2 : bitX B i = 1
        · have hp : selP who B i = true := by simp [selP, q1, q2]
          have hS : selN who B (i + 1) = selN who B i + 1 := by rw [hS, if_pos hp]
          have w3 : IntKind.i64.wrap ((selN who B i : Int) + 1) = ((selN who B (i + 1) : Nat) : Int) := by rw [wrap_id _ (by omega) (by omega)]; omega
          (repeat' (first | simp (maxSteps := 2000000) -implicitDefEqProofs only [A_clavigerlaw15_EndorseMajority_L0, d0, d1, w1, w2, b1, b2, q1, q2, sh, o1, w3, Int.reduceBNe, Int.reduceBEq, rk_ext, fk_ext, len_ints, idx_ints, cells_ints, len_lst, cells_lst, sm_c, sm_a, src_ints, zros_v, zros_m, ints_nil_l, lr_ros, lr, lr2, oO, oN, oG, oNG, oM, oF, oL, rg, ci, Nat.reduceEqDiff, Nat.reduceAdd, Nat.reduceSub, Int.reduceTDiv, Int.reduceTMod, ge_iff_le, Int.reduceGE, Nat.reducePow, Int.reduceEq, Int.reduceNeg, Int.reduceLE, Int.reducePow, Int.reduceLT, Int.reduceSub, Int.reduceAdd, Int.reduceMul, Int.reduceToNat, Option.map_some, ↓reduceIte, ite_not, beq_iff_eq, bne_iff_ne, ne_eq, beq_self_eq_true, beq_eq_false_iff_ne, bne_eq_false_iff_eq, resAll, resL, resV, reduceCtorEq, Option.some.injEq, exists_eq_left', blkAt, Nat.reduceLeDiff, Nat.reduceMul, eq_self, Nat.reduceLT, undef, fillV, evParts, footOp, wrOp, chk, disj, Nat.reduceBEq] | split | ((first | apply ck_call | apply cfk_call); (first | (apply call_pure (kh) cll cl)))))
          refine hJ (8 - (i + 1)) _ _ _ _ (by omega) ⟨i + 1, r ||| 2 ^ i, by omega, rfl, ho, fun q => ?_, rfl, rfl⟩ (by refine .ren _ _ _ [0, 1, 2] (by decide) (by intro k h; first | exact absurd h (Nat.not_lt_zero k) | (simp at h; done) | (rcases k with _ | _ | _ | k <;> first | rfl | (exfalso; omega) | (simp at h; done))) ?_ ?_ <;> simp [KeepS, KeepH, ArgRel, ArgRelL, argL_cl, arg_cl, row_l_of, row_l_nil, bn_len, blkAt])
          rw [Nat.testBit_or, hrb, Nat.testBit_two_pow]
          by_cases hq : q = i
          · subst hq; simp [hp]
          · have : (i = q) = False := by simp; omega
            have e : (q < i + 1) = (q < i) := by simp; omega
            simp [this, e]
        · have hp : selP who B i = false := by simp [selP, q2]
          have hS : selN who B (i + 1) = selN who B i := by rw [hS, hp]; rfl
          rw [← hS]
          (repeat' (first | simp (maxSteps := 2000000) -implicitDefEqProofs only [A_clavigerlaw15_EndorseMajority_L0, d0, d1, w1, w2, b1, b2, q1, q2, Int.reduceBNe, Int.reduceBEq, rk_ext, fk_ext, len_ints, idx_ints, cells_ints, len_lst, cells_lst, sm_c, sm_a, src_ints, zros_v, zros_m, ints_nil_l, lr_ros, lr, lr2, oO, oN, oG, oNG, oM, oF, oL, rg, ci, Nat.reduceEqDiff, Nat.reduceAdd, Nat.reduceSub, Int.reduceTDiv, Int.reduceTMod, ge_iff_le, Int.reduceGE, Nat.reducePow, Int.reduceEq, Int.reduceNeg, Int.reduceLE, Int.reducePow, Int.reduceLT, Int.reduceSub, Int.reduceAdd, Int.reduceMul, Int.reduceToNat, Option.map_some, ↓reduceIte, ite_not, beq_iff_eq, bne_iff_ne, ne_eq, beq_self_eq_true, beq_eq_false_iff_ne, bne_eq_false_iff_eq, resAll, resL, resV, reduceCtorEq, Option.some.injEq, exists_eq_left', blkAt, Nat.reduceLeDiff, Nat.reduceMul, eq_self, Nat.reduceLT, undef, fillV, evParts, footOp, wrOp, chk, disj, Nat.reduceBEq] | split | ((first | apply ck_call | apply cfk_call); (first | (apply call_pure (kh) cll cl)))))
          refine hJ (8 - (i + 1)) _ _ _ _ (by omega) ⟨i + 1, r, by omega, rfl, hr8, fun q => ?_, rfl, rfl⟩ (by refine .ren _ _ _ [0, 1, 2] (by decide) (by intro k h; first | exact absurd h (Nat.not_lt_zero k) | (simp at h; done) | (rcases k with _ | _ | _ | k <;> first | rfl | (exfalso; omega) | (simp at h; done))) ?_ ?_ <;> simp [KeepS, KeepH, ArgRel, ArgRelL, argL_cl, arg_cl, row_l_of, row_l_nil, bn_len, blkAt])
          rw [hrb]
          by_cases hq : q = i
          · subst hq; simp [hp]
          · have e : (q < i + 1) = (q < i) := by simp; omega
            simp [e]
      · have hp : selP who B i = false := by simp [selP, q1]
        have hS : selN who B (i + 1) = selN who B i := by rw [hS, hp]; rfl
        rw [← hS]
        (repeat' (first | simp (maxSteps := 2000000) -implicitDefEqProofs only [A_clavigerlaw15_EndorseMajority_L0, d0, d1, w1, w2, b1, b2, q1, Int.reduceBNe, Int.reduceBEq, rk_ext, fk_ext, len_ints, idx_ints, cells_ints, len_lst, cells_lst, sm_c, sm_a, src_ints, zros_v, zros_m, ints_nil_l, lr_ros, lr, lr2, oO, oN, oG, oNG, oM, oF, oL, rg, ci, Nat.reduceEqDiff, Nat.reduceAdd, Nat.reduceSub, Int.reduceTDiv, Int.reduceTMod, ge_iff_le, Int.reduceGE, Nat.reducePow, Int.reduceEq, Int.reduceNeg, Int.reduceLE, Int.reducePow, Int.reduceLT, Int.reduceSub, Int.reduceAdd, Int.reduceMul, Int.reduceToNat, Option.map_some, ↓reduceIte, ite_not, beq_iff_eq, bne_iff_ne, ne_eq, beq_self_eq_true, beq_eq_false_iff_ne, bne_eq_false_iff_eq, resAll, resL, resV, reduceCtorEq, Option.some.injEq, exists_eq_left', blkAt, Nat.reduceLeDiff, Nat.reduceMul, eq_self, Nat.reduceLT, undef, fillV, evParts, footOp, wrOp, chk, disj, Nat.reduceBEq] | split | ((first | apply ck_call | apply cfk_call); (first | (apply call_pure (kh) cll cl)))))
        refine hJ (8 - (i + 1)) _ _ _ _ (by omega) ⟨i + 1, r, by omega, rfl, hr8, fun q => ?_, rfl, rfl⟩ (by refine .ren _ _ _ [0, 1, 2] (by decide) (by intro k h; first | exact absurd h (Nat.not_lt_zero k) | (simp at h; done) | (rcases k with _ | _ | _ | k <;> first | rfl | (exfalso; omega) | (simp at h; done))) ?_ ?_ <;> simp [KeepS, KeepH, ArgRel, ArgRelL, argL_cl, arg_cl, row_l_of, row_l_nil, bn_len, blkAt])
        rw [hrb]
        by_cases hq : q = i
        · subst hq; simp [hp]
        · have e : (q < i + 1) = (q < i) := by simp; omega
          simp [e]
    · obtain rfl : i = 8 := by omega
      have v1 := kv W
      have v2 := kv r
      have c1 := kc W
      have c2 := kc r
      have hw : selN W B 8 = selN who B 8 := sel_congr _ _ _ fun q hq => by unfold selP; rw [hbit q hq]
      have hq : selN r B 8 = selN who B 8 := sel_congr _ _ _ fun q hq => by
        have h1 := bitX_nat r q hq
        rw [hrb q] at h1
        have h2 : decide (bitX r q = 1) = selP who B q := by
          rw [Bool.eq_iff_iff, decide_eq_true_eq, h1]; simp [hq]
        unfold selP at *
        rw [h2]
        cases decide (bitX who q = 1) <;> cases decide (bitX B q = 1) <;> rfl
      rw [e0, hw] at c1
      rw [e0, hq] at c2
      generalize selN who B 8 = N at *
      (repeat' (first | simp (maxSteps := 2000000) -implicitDefEqProofs only [A_clavigerlaw15_EndorseMajority_L0, K_clavigerlaw15_EndorseMajority_L0, a3, Int.reduceBNe, Int.reduceBEq, rk_ext, fk_ext, len_ints, idx_ints, cells_ints, len_lst, cells_lst, sm_c, sm_a, src_ints, zros_v, zros_m, ints_nil_l, lr_ros, lr, lr2, oO, oN, oG, oNG, oM, oF, oL, rg, ci, Nat.reduceEqDiff, Nat.reduceAdd, Nat.reduceSub, Int.reduceTDiv, Int.reduceTMod, ge_iff_le, Int.reduceGE, Nat.reducePow, Int.reduceEq, Int.reduceNeg, Int.reduceLE, Int.reducePow, Int.reduceLT, Int.reduceSub, Int.reduceAdd, Int.reduceMul, Int.reduceToNat, Option.map_some, ↓reduceIte, ite_not, beq_iff_eq, bne_iff_ne, ne_eq, beq_self_eq_true, beq_eq_false_iff_ne, bne_eq_false_iff_eq, resAll, resL, resV, reduceCtorEq, Option.some.injEq, exists_eq_left', blkAt, Nat.reduceLeDiff, Nat.reduceMul, eq_self, Nat.reduceLT, undef, fillV, evParts, footOp, wrOp, chk, disj, Nat.reduceBEq] | split | ((first | apply ck_call | apply cfk_call); (first | (apply call_pure (v1) cll cl) | (apply call_pure (v2) cll cl) | (apply call_pure (c1) cll cl) | (apply call_pure (c2) cll cl) | (apply call_pure (kM) cll cl) | (apply call_pure (known15_C) cll cl)))))
      exact out_eq rfl cl
  · have hok : (withL L j).2 = false := by simpa using hok
    rw [hok] at kw
    refine C_of mixed Try.func20 A_clavigerlaw15_EndorseMajority_ok A_clavigerlaw15_EndorseMajority_res _ A_clavigerlaw15_EndorseMajority_nt ?_
    (repeat' (first | simp (maxSteps := 2000000) -implicitDefEqProofs only [A_clavigerlaw15_EndorseMajority, a1, a2, Int.reduceBNe, Int.reduceBEq, rk_ext, fk_ext, len_ints, idx_ints, cells_ints, len_lst, cells_lst, sm_c, sm_a, src_ints, zros_v, zros_m, ints_nil_l, lr_ros, lr, lr2, oO, oN, oG, oNG, oM, oF, oL, rg, ci, Nat.reduceEqDiff, Nat.reduceAdd, Nat.reduceSub, Int.reduceTDiv, Int.reduceTMod, ge_iff_le, Int.reduceGE, Nat.reducePow, Int.reduceEq, Int.reduceNeg, Int.reduceLE, Int.reducePow, Int.reduceLT, Int.reduceSub, Int.reduceAdd, Int.reduceMul, Int.reduceToNat, Option.map_some, ↓reduceIte, ite_not, beq_iff_eq, bne_iff_ne, ne_eq, beq_self_eq_true, beq_eq_false_iff_ne, bne_eq_false_iff_eq, resAll, resL, resV, reduceCtorEq, Option.some.injEq, exists_eq_left', blkAt, Nat.reduceLeDiff, Nat.reduceMul, eq_self, Nat.reduceLT, undef, fillV, evParts, footOp, wrOp, chk, disj, Nat.reduceBEq] | split | ((first | apply ck_call | apply cfk_call); (first | (apply call_pure (cl1) cll cl) | (apply call_pure (kw) cll cl) | (apply call_pure (known15_C) cll cl)))))
    exact out_eq rfl cl
end Go.Proofs.Ytmmaenfjnkoknaa.VA
