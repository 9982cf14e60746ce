/- Rosters: who comes and goes again; majorities; the closed sentence. -/
import Derived.Test.YtmmaenfjnkoknaaOros
import Derived.Test.YtmmaenfjnkoknaaP3ros
import Derived.Test.YtmmaenfjnkoknaaVC
set_option linter.unusedVariables false
set_option linter.unusedSimpArgs false
set_option maxRecDepth 100000
namespace Go.Proofs.Ytmmaenfjnkoknaa.VA
open Go
attribute [local irreducible] WK NK XK TK RK FK CK CFK CallRel C
theorem and7_nat (k : Int) : ∃ n : Nat, n < 8 ∧ andX k 7 = (n : Int) := by
  obtain ⟨n, h1, h2, _⟩ := andX_nat k 7 (by decide)
  exact ⟨n, by omega, h2⟩
theorem lsF_len (v x : Int) : (listF v x).members.l = bitsU 8 x := isOf_l _
set_option maxHeartbeats 8000000 in
theorem rosterBack_C (bits k v : Int) (hv : 0 ≤ v ∧ v ≤ 18446744073709551615) : C Try.prog 17 [vi .i64 bits, vi .i64 k, vi .u64 v] [] (vb true) [] := by
  have r5 : evBin .rem (.sc (.int .u64 v)) (.sc (.int .u64 100)) = some (.sc (.int .u64 (v % 100))) := by
    rw [bin_rem _ _ _ (by decide), Int.tmod_eq_emod_of_nonneg hv.1]
  have w5 : IntKind.u64.wrap (1 + v % 100) = 1 + v % 100 := IntWalk.u64_in _ ⟨by omega, by omega⟩
  have a1 := andX_e bits 255
  have a2 := andX_e k 7
  obtain ⟨B, hB, eB, _⟩ := andX_nat bits 255 (by decide)
  obtain ⟨j, hj, ej⟩ := and7_nat k
  have eB' : andX bits 255 = (B : Int) := eB
  rw [eB'] at a1
  rw [ej] at a2
  have hV : 1 ≤ 1 + v % 100 ∧ 1 + v % 100 ≤ 100 := by omega
  generalize v % 100 = V1 at *
  have cl1 := list14_C (1 + V1) B
  have lv := lsF_v (1 + V1) B
  have lm := lsF_len (1 + V1) B
  have ll := lsF_le (1 + V1) B
  generalize listF (1 + V1) B = L at *
  have kw := with_C L j ll
  by_cases hok : (withL L j).2 = true
  · have hr : RosP L := by
      by_cases hr : RosP L
      · exact hr
      · rw [(with_bad L hr j).1] at hok; cases hok
    have hm : (j : Int) ∉ L.members.l := fun hm => by
      rw [(without_near L hr j hj hm).2.1] at hok; cases hok
    obtain ⟨m, n, f1, f2, f3, f4, f5, f6, f7, f8, f9, f10, f11, _, hpm⟩ := back_facts L j hj hr (by omega) hm
    rw [f1] at kw
    have lm2 : m.members.l.length ≤ 9223372036854775807 := by omega
    have ln2 : n.members.l.length ≤ 9223372036854775807 := by rw [f3]; omega
    have ko := without_C m j lm2
    rw [f2] at ko
    have kb := bookSame_C n.members L.members ln2 ll
    rw [decide_eq_true f3] at kb
    have k1 := folL_C L m ll lm2
    rw [decide_eq_true f5] at k1
    have k2 := folL_C m n lm2 ln2
    rw [decide_eq_true f6] at k2
    have k3 := folL_C L n ll ln2
    rw [decide_eq_false f7] at k3
    have k4 := hasL_C m j lm2
    rw [decide_eq_true f8] at k4
    have k5 := hasL_C n j ln2
    rw [decide_eq_false f9] at k5
    have w2 : IntKind.u64.wrap (L.version + 2) = L.version + 2 := IntWalk.u64_in _ ⟨by omega, by omega⟩
    refine C_of mixed Try.func17 A_clavigerlaw14_RosterBack_ok A_clavigerlaw14_RosterBack_res _ A_clavigerlaw14_RosterBack_nt ?_
    (repeat' (first | simp (maxSteps := 2000000) -implicitDefEqProofs only [A_clavigerlaw14_RosterBack, r5, w5, a1, a2, w2, f4, Int.reduceBNe, Int.reduceBEq, rk_ext, fk_ext, len_ints, idx_ints, cells_ints, len_lst, cells_lst, sm_c, sm_a, src_ints, zros_v, zros_m, ints_nil_l, lr_ros, lr, lr2, oO, oN, oG, oNG, oM, oF, oL, rg, ci, Nat.reduceEqDiff, Nat.reduceAdd, Nat.reduceSub, Int.reduceTDiv, Int.reduceTMod, ge_iff_le, Int.reduceGE, Nat.reducePow, Int.reduceEq, Int.reduceNeg, Int.reduceLE, Int.reducePow, Int.reduceLT, Int.reduceSub, Int.reduceAdd, Int.reduceMul, Int.reduceToNat, Option.map_some, ↓reduceIte, ite_not, beq_iff_eq, bne_iff_ne, ne_eq, beq_self_eq_true, beq_eq_false_iff_ne, bne_eq_false_iff_eq, resAll, resL, resV, reduceCtorEq, Option.some.injEq, exists_eq_left', blkAt, Nat.reduceLeDiff, Nat.reduceMul, eq_self, Nat.reduceLT, undef, fillV, evParts, footOp, wrOp, chk, disj, Nat.reduceBEq] | split | ((first | apply ck_call | apply cfk_call); (first | (apply call_pure (cl1) cll cl) | (apply call_pure (kw) cll cl) | (apply call_pure (ko) cll cl) | (apply call_pure (kb) cll cl) | (apply call_pure (k1) cll cl) | (apply call_pure (k2) cll cl) | (apply call_pure (k3) cll cl) | (apply call_pure (k4) cll cl) | (apply call_pure (k5) cll cl) | (apply call_pure (known14_C) cll cl)))))
    exact out_eq rfl cl
  · have hok : (withL L j).2 = false := by simpa using hok
    rw [hok] at kw
    refine C_of mixed Try.func17 A_clavigerlaw14_RosterBack_ok A_clavigerlaw14_RosterBack_res _ A_clavigerlaw14_RosterBack_nt ?_
    (repeat' (first | simp (maxSteps := 2000000) -implicitDefEqProofs only [A_clavigerlaw14_RosterBack, r5, w5, a1, a2, Int.reduceBNe, Int.reduceBEq, rk_ext, fk_ext, len_ints, idx_ints, cells_ints, len_lst, cells_lst, sm_c, sm_a, src_ints, zros_v, zros_m, ints_nil_l, lr_ros, lr, lr2, oO, oN, oG, oNG, oM, oF, oL, rg, ci, Nat.reduceEqDiff, Nat.reduceAdd, Nat.reduceSub, Int.reduceTDiv, Int.reduceTMod, ge_iff_le, Int.reduceGE, Nat.reducePow, Int.reduceEq, Int.reduceNeg, Int.reduceLE, Int.reducePow, Int.reduceLT, Int.reduceSub, Int.reduceAdd, Int.reduceMul, Int.reduceToNat, Option.map_some, ↓reduceIte, ite_not, beq_iff_eq, bne_iff_ne, ne_eq, beq_self_eq_true, beq_eq_false_iff_ne, bne_eq_false_iff_eq, resAll, resL, resV, reduceCtorEq, Option.some.injEq, exists_eq_left', blkAt, Nat.reduceLeDiff, Nat.reduceMul, eq_self, Nat.reduceLT, undef, fillV, evParts, footOp, wrOp, chk, disj, Nat.reduceBEq] | split | ((first | apply ck_call | apply cfk_call); (first | (apply call_pure (cl1) cll cl) | (apply call_pure (kw) cll cl) | (apply call_pure (known14_C) cll cl)))))
    exact out_eq rfl cl
theorem count14_C (n : Nat) (h : n < 256) : C Try.prog 74 [vi .i64 n] [] (vi .i64 (pop8 n : Int)) [] := by
  refine C_of mixed Try.func74 A_clavigerlaw14_count_ok A_clavigerlaw14_count_res _ A_clavigerlaw14_count_nt ?_
  (repeat' (first | simp (maxSteps := 2000000) -implicitDefEqProofs only [A_clavigerlaw14_count, Int.reduceBNe, Int.reduceBEq, rk_ext, fk_ext, len_ints, idx_ints, cells_ints, len_lst, cells_lst, sm_c, sm_a, src_ints, zros_v, zros_m, ints_nil_l, lr_ros, lr, lr2, oO, oN, oG, oNG, oM, oF, oL, rg, ci, Nat.reduceEqDiff, Nat.reduceAdd, Nat.reduceSub, Int.reduceTDiv, Int.reduceTMod, ge_iff_le, Int.reduceGE, Nat.reducePow, Int.reduceEq, Int.reduceNeg, Int.reduceLE, Int.reducePow, Int.reduceLT, Int.reduceSub, Int.reduceAdd, Int.reduceMul, Int.reduceToNat, Option.map_some, ↓reduceIte, ite_not, beq_iff_eq, bne_iff_ne, ne_eq, beq_self_eq_true, beq_eq_false_iff_ne, bne_eq_false_iff_eq, resAll, resL, resV, reduceCtorEq, Option.some.injEq, exists_eq_left', blkAt, Nat.reduceLeDiff, Nat.reduceMul, eq_self, Nat.reduceLT, undef, fillV, evParts, footOp, wrOp, chk, disj, Nat.reduceBEq] | split))
  refine wk_loop (fun m S H => ∃ c : Nat, m < 256 ∧ c + pop8 m = pop8 n ∧ c ≤ 1000 ∧ S = (vi .i64 m :: .dead :: vi .i64 0 :: vi .i64 c :: .dead :: .dead :: .dead :: .dead :: .dead :: .dead :: .dead :: .dead :: .dead :: []) ∧ H = []) n ⟨0, h, by omega, by omega, rfl, rfl⟩ (by refine .ren _ _ _ [] (by decide) (by intro k h; first | exact absurd h (Nat.not_lt_zero k) | (simp at h; done) | (rcases k with _ | _ | _ | k <;> first | rfl | (exfalso; omega) | (simp at h; done))) ?_ ?_ <;> simp [KeepS, KeepH, ArgRel, ArgRelL, argL_cl, arg_cl, row_l_of, row_l_nil, bn_len, blkAt]) ?_
  rintro m S H ⟨c, hm, hc, hc2, rfl, rfl⟩ J hJ
  have hp := pop_half m hm
  have hpn : pop8 n ≤ 8 := by
    unfold pop8 b01
    (repeat' split) <;> omega
  by_cases h0 : 0 < m
  · have c1 : (m : Int) > 0 := by omega
    have c1' : 0 < (m : Int) := by omega
    have q1 : evBin .quo (.sc (.int .i64 (m : Int))) (.sc (.int .i64 2)) = some (.sc (.int .i64 ((m / 2 : Nat) : Int))) := by
      rw [bin_quo _ _ _ (by decide), Int.tdiv_eq_ediv_of_nonneg (by omega), wrap_id _ (by omega) (by omega)]; congr 4
    have q2 : evBin .rem (.sc (.int .i64 (m : Int))) (.sc (.int .i64 2)) = some (.sc (.int .i64 ((m % 2 : Nat) : Int))) := by
      rw [bin_rem _ _ _ (by decide), Int.tmod_eq_emod_of_nonneg (by omega)]; congr 4
    have w1 : IntKind.i64.wrap ((c : Int) + ((m % 2 : Nat) : Int)) = ((c + m % 2 : Nat) : Int) := by rw [wrap_id _ (by omega) (by omega)]; omega
    (repeat' (first | simp (maxSteps := 2000000) -implicitDefEqProofs only [A_clavigerlaw14_count_L0, c1, c1', q1, q2, w1, Int.reduceBNe, Int.reduceBEq, rk_ext, fk_ext, len_ints, idx_ints, cells_ints, len_lst, cells_lst, sm_c, sm_a, src_ints, zros_v, zros_m, ints_nil_l, lr_ros, lr, lr2, oO, oN, oG, oNG, oM, oF, oL, rg, ci, Nat.reduceEqDiff, Nat.reduceAdd, Nat.reduceSub, Int.reduceTDiv, Int.reduceTMod, ge_iff_le, Int.reduceGE, Nat.reducePow, Int.reduceEq, Int.reduceNeg, Int.reduceLE, Int.reducePow, Int.reduceLT, Int.reduceSub, Int.reduceAdd, Int.reduceMul, Int.reduceToNat, Option.map_some, ↓reduceIte, ite_not, beq_iff_eq, bne_iff_ne, ne_eq, beq_self_eq_true, beq_eq_false_iff_ne, bne_eq_false_iff_eq, resAll, resL, resV, reduceCtorEq, Option.some.injEq, exists_eq_left', blkAt, Nat.reduceLeDiff, Nat.reduceMul, eq_self, Nat.reduceLT, undef, fillV, evParts, footOp, wrOp, chk, disj, Nat.reduceBEq] | split))
    exact hJ (m / 2) _ _ _ _ (by omega) ⟨c + m % 2, by omega, by omega, by omega, rfl, rfl⟩ (by refine .ren _ _ _ [] (by decide) (by intro k h; first | exact absurd h (Nat.not_lt_zero k) | (simp at h; done) | (rcases k with _ | _ | _ | k <;> first | rfl | (exfalso; omega) | (simp at h; done))) ?_ ?_ <;> simp [KeepS, KeepH, ArgRel, ArgRelL, argL_cl, arg_cl, row_l_of, row_l_nil, bn_len, blkAt])
  · obtain rfl : m = 0 := by omega
    have z : pop8 0 = 0 := by decide
    have c1 : ¬ (0 : Int) > 0 := by omega
    have c2 : ¬ (0 : Int) < 0 := by omega
    (repeat' (first | simp (maxSteps := 2000000) -implicitDefEqProofs only [A_clavigerlaw14_count_L0, K_clavigerlaw14_count_L0, c1, c2, Int.reduceBNe, Int.reduceBEq, rk_ext, fk_ext, len_ints, idx_ints, cells_ints, len_lst, cells_lst, sm_c, sm_a, src_ints, zros_v, zros_m, ints_nil_l, lr_ros, lr, lr2, oO, oN, oG, oNG, oM, oF, oL, rg, ci, Nat.reduceEqDiff, Nat.reduceAdd, Nat.reduceSub, Int.reduceTDiv, Int.reduceTMod, ge_iff_le, Int.reduceGE, Nat.reducePow, Int.reduceEq, Int.reduceNeg, Int.reduceLE, Int.reducePow, Int.reduceLT, Int.reduceSub, Int.reduceAdd, Int.reduceMul, Int.reduceToNat, Option.map_some, ↓reduceIte, ite_not, beq_iff_eq, bne_iff_ne, ne_eq, beq_self_eq_true, beq_eq_false_iff_ne, bne_eq_false_iff_eq, resAll, resL, resV, reduceCtorEq, Option.some.injEq, exists_eq_left', blkAt, Nat.reduceLeDiff, Nat.reduceMul, eq_self, Nat.reduceLT, undef, fillV, evParts, footOp, wrOp, chk, disj, Nat.reduceBEq] | split))
    refine out_eq (congrArg (vi .i64) ?_) cl
    omega
theorem or_nat (s t : Nat) (hs : s < 256) (ht : t < 256) : orX s t = ((s ||| t : Nat) : Int) ∧ s ||| t < 256 := by
  have hlt : s ||| t < 2 ^ 8 := Nat.or_lt_two_pow (by omega) (by omega)
  unfold orX
  rw [BitVec.toNat_or, ofInt_8 s hs, ofInt_8 t ht]
  exact ⟨wrap_id _ (by omega) (by omega), by omega⟩
theorem and_nat (s t : Nat) (hs : s < 256) (ht : t < 256) : andX s t = ((s &&& t : Nat) : Int) := by
  have hlt : s &&& t ≤ t := Nat.and_le_right
  unfold andX
  rw [BitVec.toNat_and, ofInt_8 s hs, ofInt_8 t ht]
  exact wrap_id _ (by omega) (by omega)
theorem shl1_all : ((List.range 8).all fun (k : Nat) => decide (shl1 (k : Int) = ((2 ^ k : Nat) : Int) ∧ 2 ^ k < 256)) = true := by decide +kernel
theorem shl1_nat (k : Nat) (h : k < 8) : shl1 (k : Int) = ((2 ^ k : Nat) : Int) ∧ 2 ^ k < 256 := of_decide_eq_true (List.all_eq_true.1 shl1_all k (List.mem_range.2 h))
set_option maxHeartbeats 8000000 in
theorem rosterMajorities_C (bits k a b : Int) : C Try.prog 16 [vi .i64 bits, vi .i64 k, vi .i64 a, vi .i64 b] [] (vb true) [] := by
  have a1 := andX_e bits 255
  have a2 := andX_e k 7
  obtain ⟨B, hB, eB, _⟩ := andX_nat bits 255 (by decide)
  obtain ⟨j, hj, ej⟩ := and7_nat k
  have eB' : andX bits 255 = (B : Int) := eB
  rw [eB'] at a1
  rw [ej] at a2
  obtain ⟨eX, hX⟩ := or_nat B 1 (by omega) (by decide)
  have o1 : evBin .or (.sc (.int .i64 (B : Int))) (.sc (.int .i64 1)) = some (.sc (.int .i64 ((B ||| 1 : Nat) : Int))) := by
    rw [← eX]; exact orX_e _ _
  have hX0 : ¬ B ||| 1 = 0 := fun h => by
    have := congrArg (fun n => n.testBit 0) h
    simp at this
  generalize B ||| 1 = X at *
  obtain ⟨gX, sX⟩ : okM (bitsU 8 (X : Int)) ∧ setV (bitsU 8 (X : Int)) = (X : Int) := by
    rcases bitsU_at X hX with h | h
    · exact absurd h.1 hX0
    · exact h
  have cl1 := list14_C 1 X
  have lv : (listF 1 X).version = 1 := lsF_v 1 X
  have lm := lsF_len 1 X
  have ll := lsF_le 1 X
  generalize listF 1 X = L at *
  rw [← lm] at gX sX
  have hr : RosP L := (rosP_iff L).2 ⟨by omega, by omega, gX⟩
  have pX := pop_set _ gX X sX
  have kw := with_C L j ll
  obtain ⟨p, hp, ep, tp⟩ := andX_nat a X (by omega)
  obtain ⟨q1, q2, q3⟩ : p < 256 ∧ p < 256 ∧ p < 256 := ⟨by omega, by omega, by omega⟩
  have ap := andX_e a X
  rw [ep] at ap
  have kp := count14_C p q1
  have kml := majL_C L
  rw [majL_ok L hr] at kml
  have hML : (L.members.l.length : Int) / 2 + 1 = ((pop8 X / 2 + 1 : Nat) : Int) := by omega
  rw [hML] at kml
  by_cases hok : (withL L j).2 = true
  · have hm : (j : Int) ∉ L.members.l := fun hm => by
      rw [(without_near L hr j hj hm).2.1] at hok; cases hok
    obtain ⟨m, n, f1, f2, f3, f4, f5, f6, f7, f8, f9, f10, f11, f12, hpm⟩ := back_facts L j hj hr (by omega) hm
    rw [f1] at kw
    obtain ⟨es, hs⟩ := shl1_nat j hj
    obtain ⟨eY, hY⟩ := or_nat X (2 ^ j) hX hs
    rw [sX, es, eY] at f12
    have hXY : ∀ i, X.testBit i = true → (X ||| 2 ^ j).testBit i = true := fun i hi => by rw [Nat.testBit_or, hi]; rfl
    generalize X ||| 2 ^ j = Y at *
    have cs := set14_C m (by omega)
    rw [f12] at cs
    have pY := pop_set _ ((rosP_iff m).1 hpm).2.2 Y f12
    obtain ⟨q, hq, eq, tq⟩ := andX_nat b Y (by omega)
    have hq2 : q < 256 := by omega
    have aq := andX_e b Y
    rw [eq] at aq
    have kq := count14_C q hq2
    have kmm := majL_C m
    rw [majL_ok m hpm] at kmm
    have hMM : (m.members.l.length : Int) / 2 + 1 = ((pop8 Y / 2 + 1 : Nat) : Int) := by omega
    rw [hMM] at kmm
    have apq := andX_e p q
    rw [and_nat p q q1 hq2] at apq
    have hmj := majorities X Y p q (pop8 X) (pop8 Y) rfl rfl (by omega) tp tq hXY
    by_cases h1 : pop8 p < pop8 X / 2 + 1
    · have c1 : ((pop8 p : Nat) : Int) < ((pop8 X / 2 + 1 : Nat) : Int) := by omega
      refine C_of mixed Try.func16 A_clavigerlaw14_RosterMajorities_ok A_clavigerlaw14_RosterMajorities_res _ A_clavigerlaw14_RosterMajorities_nt ?_
      (repeat' (first | simp (maxSteps := 2000000) -implicitDefEqProofs only [A_clavigerlaw14_RosterMajorities, a1, o1, a2, ap, aq, c1, Int.reduceBNe, Int.reduceBEq, rk_ext, fk_ext, len_ints, idx_ints, cells_ints, len_lst, cells_lst, sm_c, sm_a, src_ints, zros_v, zros_m, ints_nil_l, lr_ros, lr, lr2, oO, oN, oG, oNG, oM, oF, oL, rg, ci, Nat.reduceEqDiff, Nat.reduceAdd, Nat.reduceSub, Int.reduceTDiv, Int.reduceTMod, ge_iff_le, Int.reduceGE, Nat.reducePow, Int.reduceEq, Int.reduceNeg, Int.reduceLE, Int.reducePow, Int.reduceLT, Int.reduceSub, Int.reduceAdd, Int.reduceMul, Int.reduceToNat, Option.map_some, ↓reduceIte, ite_not, beq_iff_eq, bne_iff_ne, ne_eq, beq_self_eq_true, beq_eq_false_iff_ne, bne_eq_false_iff_eq, resAll, resL, resV, reduceCtorEq, Option.some.injEq, exists_eq_left', blkAt, Nat.reduceLeDiff, Nat.reduceMul, eq_self, Nat.reduceLT, undef, fillV, evParts, footOp, wrOp, chk, disj, Nat.reduceBEq] | split | ((first | apply ck_call | apply cfk_call); (first | (apply call_pure (cl1) cll cl) | (apply call_pure (kw) cll cl) | (apply call_pure (cs) cll cl) | (apply call_pure (kp) cll cl) | (apply call_pure (kq) cll cl) | (apply call_pure (kml) cll cl) | (apply call_pure (kmm) cll cl) | (apply call_pure (known14_C) cll cl)))))
      exact out_eq rfl cl
    · have c1 : ¬ ((pop8 p : Nat) : Int) < ((pop8 X / 2 + 1 : Nat) : Int) := by omega
      by_cases h2 : pop8 q < pop8 Y / 2 + 1
      · have c2 : ((pop8 q : Nat) : Int) < ((pop8 Y / 2 + 1 : Nat) : Int) := by omega
        refine C_of mixed Try.func16 A_clavigerlaw14_RosterMajorities_ok A_clavigerlaw14_RosterMajorities_res _ A_clavigerlaw14_RosterMajorities_nt ?_
        (repeat' (first | simp (maxSteps := 2000000) -implicitDefEqProofs only [A_clavigerlaw14_RosterMajorities, a1, o1, a2, ap, aq, c1, c2, Int.reduceBNe, Int.reduceBEq, rk_ext, fk_ext, len_ints, idx_ints, cells_ints, len_lst, cells_lst, sm_c, sm_a, src_ints, zros_v, zros_m, ints_nil_l, lr_ros, lr, lr2, oO, oN, oG, oNG, oM, oF, oL, rg, ci, Nat.reduceEqDiff, Nat.reduceAdd, Nat.reduceSub, Int.reduceTDiv, Int.reduceTMod, ge_iff_le, Int.reduceGE, Nat.reducePow, Int.reduceEq, Int.reduceNeg, Int.reduceLE, Int.reducePow, Int.reduceLT, Int.reduceSub, Int.reduceAdd, Int.reduceMul, Int.reduceToNat, Option.map_some, ↓reduceIte, ite_not, beq_iff_eq, bne_iff_ne, ne_eq, beq_self_eq_true, beq_eq_false_iff_ne, bne_eq_false_iff_eq, resAll, resL, resV, reduceCtorEq, Option.some.injEq, exists_eq_left', blkAt, Nat.reduceLeDiff, Nat.reduceMul, eq_self, Nat.reduceLT, undef, fillV, evParts, footOp, wrOp, chk, disj, Nat.reduceBEq] | split | ((first | apply ck_call | apply cfk_call); (first | (apply call_pure (cl1) cll cl) | (apply call_pure (kw) cll cl) | (apply call_pure (cs) cll cl) | (apply call_pure (kp) cll cl) | (apply call_pure (kq) cll cl) | (apply call_pure (kml) cll cl) | (apply call_pure (kmm) cll cl) | (apply call_pure (known14_C) cll cl)))))
        exact out_eq rfl cl
      · have c2 : ¬ ((pop8 q : Nat) : Int) < ((pop8 Y / 2 + 1 : Nat) : Int) := by omega
        have hn := hmj (by omega) (by omega)
        have hn : ¬ ((p &&& q : Nat) : Int) = 0 := by omega
        refine C_of mixed Try.func16 A_clavigerlaw14_RosterMajorities_ok A_clavigerlaw14_RosterMajorities_res _ A_clavigerlaw14_RosterMajorities_nt ?_
        (repeat' (first | simp (maxSteps := 2000000) -implicitDefEqProofs only [A_clavigerlaw14_RosterMajorities, a1, o1, a2, ap, aq, c1, c2, apq, hn, Int.reduceBNe, Int.reduceBEq, rk_ext, fk_ext, len_ints, idx_ints, cells_ints, len_lst, cells_lst, sm_c, sm_a, src_ints, zros_v, zros_m, ints_nil_l, lr_ros, lr, lr2, oO, oN, oG, oNG, oM, oF, oL, rg, ci, Nat.reduceEqDiff, Nat.reduceAdd, Nat.reduceSub, Int.reduceTDiv, Int.reduceTMod, ge_iff_le, Int.reduceGE, Nat.reducePow, Int.reduceEq, Int.reduceNeg, Int.reduceLE, Int.reducePow, Int.reduceLT, Int.reduceSub, Int.reduceAdd, Int.reduceMul, Int.reduceToNat, Option.map_some, ↓reduceIte, ite_not, beq_iff_eq, bne_iff_ne, ne_eq, beq_self_eq_true, beq_eq_false_iff_ne, bne_eq_false_iff_eq, resAll, resL, resV, reduceCtorEq, Option.some.injEq, exists_eq_left', blkAt, Nat.reduceLeDiff, Nat.reduceMul, eq_self, Nat.reduceLT, undef, fillV, evParts, footOp, wrOp, chk, disj, Nat.reduceBEq] | split | ((first | apply ck_call | apply cfk_call); (first | (apply call_pure (cl1) cll cl) | (apply call_pure (kw) cll cl) | (apply call_pure (cs) cll cl) | (apply call_pure (kp) cll cl) | (apply call_pure (kq) cll cl) | (apply call_pure (kml) cll cl) | (apply call_pure (kmm) cll cl) | (apply call_pure (known14_C) cll cl)))))
        exact out_eq rfl cl
  · have hok : (withL L j).2 = false := by simpa using hok
    rw [hok] at kw
    have cs := set14_C L (by omega)
    rw [sX] at cs
    obtain ⟨q, hq, eq, tq⟩ := andX_nat b X (by omega)
    have hq2 : q < 256 := by omega
    have aq := andX_e b X
    rw [eq] at aq
    have kq := count14_C q hq2
    have apq := andX_e p q
    rw [and_nat p q q1 hq2] at apq
    have hmj := majorities X X p q (pop8 X) (pop8 X) rfl rfl (by omega) tp tq (fun _ h => h)
    by_cases h1 : pop8 p < pop8 X / 2 + 1
    · have c1 : ((pop8 p : Nat) : Int) < ((pop8 X / 2 + 1 : Nat) : Int) := by omega
      refine C_of mixed Try.func16 A_clavigerlaw14_RosterMajorities_ok A_clavigerlaw14_RosterMajorities_res _ A_clavigerlaw14_RosterMajorities_nt ?_
      (repeat' (first | simp (maxSteps := 2000000) -implicitDefEqProofs only [A_clavigerlaw14_RosterMajorities, a1, o1, a2, ap, aq, c1, Int.reduceBNe, Int.reduceBEq, rk_ext, fk_ext, len_ints, idx_ints, cells_ints, len_lst, cells_lst, sm_c, sm_a, src_ints, zros_v, zros_m, ints_nil_l, lr_ros, lr, lr2, oO, oN, oG, oNG, oM, oF, oL, rg, ci, Nat.reduceEqDiff, Nat.reduceAdd, Nat.reduceSub, Int.reduceTDiv, Int.reduceTMod, ge_iff_le, Int.reduceGE, Nat.reducePow, Int.reduceEq, Int.reduceNeg, Int.reduceLE, Int.reducePow, Int.reduceLT, Int.reduceSub, Int.reduceAdd, Int.reduceMul, Int.reduceToNat, Option.map_some, ↓reduceIte, ite_not, beq_iff_eq, bne_iff_ne, ne_eq, beq_self_eq_true, beq_eq_false_iff_ne, bne_eq_false_iff_eq, resAll, resL, resV, reduceCtorEq, Option.some.injEq, exists_eq_left', blkAt, Nat.reduceLeDiff, Nat.reduceMul, eq_self, Nat.reduceLT, undef, fillV, evParts, footOp, wrOp, chk, disj, Nat.reduceBEq] | split | ((first | apply ck_call | apply cfk_call); (first | (apply call_pure (cl1) cll cl) | (apply call_pure (kw) cll cl) | (apply call_pure (cs) cll cl) | (apply call_pure (kp) cll cl) | (apply call_pure (kq) cll cl) | (apply call_pure (kml) cll cl) | (apply call_pure (known14_C) cll cl)))))
      exact out_eq rfl cl
    · have c1 : ¬ ((pop8 p : Nat) : Int) < ((pop8 X / 2 + 1 : Nat) : Int) := by omega
      by_cases h2 : pop8 q < pop8 X / 2 + 1
      · have c2 : ((pop8 q : Nat) : Int) < ((pop8 X / 2 + 1 : Nat) : Int) := by omega
        refine C_of mixed Try.func16 A_clavigerlaw14_RosterMajorities_ok A_clavigerlaw14_RosterMajorities_res _ A_clavigerlaw14_RosterMajorities_nt ?_
        (repeat' (first | simp (maxSteps := 2000000) -implicitDefEqProofs only [A_clavigerlaw14_RosterMajorities, a1, o1, a2, ap, aq, c1, c2, Int.reduceBNe, Int.reduceBEq, rk_ext, fk_ext, len_ints, idx_ints, cells_ints, len_lst, cells_lst, sm_c, sm_a, src_ints, zros_v, zros_m, ints_nil_l, lr_ros, lr, lr2, oO, oN, oG, oNG, oM, oF, oL, rg, ci, Nat.reduceEqDiff, Nat.reduceAdd, Nat.reduceSub, Int.reduceTDiv, Int.reduceTMod, ge_iff_le, Int.reduceGE, Nat.reducePow, Int.reduceEq, Int.reduceNeg, Int.reduceLE, Int.reducePow, Int.reduceLT, Int.reduceSub, Int.reduceAdd, Int.reduceMul, Int.reduceToNat, Option.map_some, ↓reduceIte, ite_not, beq_iff_eq, bne_iff_ne, ne_eq, beq_self_eq_true, beq_eq_false_iff_ne, bne_eq_false_iff_eq, resAll, resL, resV, reduceCtorEq, Option.some.injEq, exists_eq_left', blkAt, Nat.reduceLeDiff, Nat.reduceMul, eq_self, Nat.reduceLT, undef, fillV, evParts, footOp, wrOp, chk, disj, Nat.reduceBEq] | split | ((first | apply ck_call | apply cfk_call); (first | (apply call_pure (cl1) cll cl) | (apply call_pure (kw) cll cl) | (apply call_pure (cs) cll cl) | (apply call_pure (kp) cll cl) | (apply call_pure (kq) cll cl) | (apply call_pure (kml) cll cl) | (apply call_pure (known14_C) cll cl)))))
        exact out_eq rfl cl
      · have c2 : ¬ ((pop8 q : Nat) : Int) < ((pop8 X / 2 + 1 : Nat) : Int) := by omega
        have hn := hmj (by omega) (by omega)
        have hn : ¬ ((p &&& q : Nat) : Int) = 0 := by omega
        refine C_of mixed Try.func16 A_clavigerlaw14_RosterMajorities_ok A_clavigerlaw14_RosterMajorities_res _ A_clavigerlaw14_RosterMajorities_nt ?_
        (repeat' (first | simp (maxSteps := 2000000) -implicitDefEqProofs only [A_clavigerlaw14_RosterMajorities, a1, o1, a2, ap, aq, c1, c2, apq, hn, Int.reduceBNe, Int.reduceBEq, rk_ext, fk_ext, len_ints, idx_ints, cells_ints, len_lst, cells_lst, sm_c, sm_a, src_ints, zros_v, zros_m, ints_nil_l, lr_ros, lr, lr2, oO, oN, oG, oNG, oM, oF, oL, rg, ci, Nat.reduceEqDiff, Nat.reduceAdd, Nat.reduceSub, Int.reduceTDiv, Int.reduceTMod, ge_iff_le, Int.reduceGE, Nat.reducePow, Int.reduceEq, Int.reduceNeg, Int.reduceLE, Int.reducePow, Int.reduceLT, Int.reduceSub, Int.reduceAdd, Int.reduceMul, Int.reduceToNat, Option.map_some, ↓reduceIte, ite_not, beq_iff_eq, bne_iff_ne, ne_eq, beq_self_eq_true, beq_eq_false_iff_ne, bne_eq_false_iff_eq, resAll, resL, resV, reduceCtorEq, Option.some.injEq, exists_eq_left', blkAt, Nat.reduceLeDiff, Nat.reduceMul, eq_self, Nat.reduceLT, undef, fillV, evParts, footOp, wrOp, chk, disj, Nat.reduceBEq] | split | ((first | apply ck_call | apply cfk_call); (first | (apply call_pure (cl1) cll cl) | (apply call_pure (kw) cll cl) | (apply call_pure (cs) cll cl) | (apply call_pure (kp) cll cl) | (apply call_pure (kq) cll cl) | (apply call_pure (kml) cll cl) | (apply call_pure (known14_C) cll cl)))))
        exact out_eq rfl cl
end Go.Proofs.Ytmmaenfjnkoknaa.VA
