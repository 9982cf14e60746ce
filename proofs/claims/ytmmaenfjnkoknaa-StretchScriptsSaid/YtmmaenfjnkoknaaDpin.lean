/- PINs are stretched. -/
import Derived.Test.YtmmaenfjnkoknaaCpin
import Derived.Test.YtmmaenfjnkoknaaPB
import Derived.Test.YtmmaenfjnkoknaaVC
set_option linter.unusedVariables false
set_option linter.unusedSimpArgs false
set_option maxRecDepth 100000
namespace Go.Proofs.Ytmmaenfjnkoknaa.VA
open Go
attribute [local irreducible] WK NK XK TK RK FK CK CFK CallRel C
def rnd (n : Int) : Nat := (max 0 (min n 1024)).toNat
def digF (d : List UInt8) (salt : Bn 16) : Nat → Bn 16
  | 0 => keyedF salt d
  | k + 1 => twoF (digF d salt k) salt
theorem rnd_eq (n : Int) : max 0 (min n 1024) = (rnd n : Int) := by unfold rnd; omega
theorem rnd_eq' (n : Int) : max (min n 1024) 0 = (rnd n : Int) := by unfold rnd; omega
theorem rnd_le (n : Int) : rnd n ≤ 1024 := by unfold rnd; omega
theorem digits_C (d : List UInt8) (salt : Bn 16) (n : Int) (hd : d.length ≤ 1000000) : C Try.prog 21 [st d, .agg (dg salt), vi .i64 n] [] (.agg (dg (digF d salt (rnd n)))) [] := by
  refine C_of mixed Try.func21 A_stretch_Digits_ok A_stretch_Digits_res _ A_stretch_Digits_nt ?_
  have e := rnd_eq n
  have hr := rnd_le n
  have hs : d.length ≤ 70368744177664 := by omega
  generalize rnd n = N at *
  (repeat' (first | simp (maxSteps := 2000000) -implicitDefEqProofs only [A_stretch_Digits, e, hs, lr, lr2, oO, oN, oG, oNG, oM, oF, oL, rg, ci, Nat.reduceEqDiff, Nat.reduceAdd, Nat.reduceSub, Int.reduceTDiv, Int.reduceTMod, ge_iff_le, Int.reduceGE, Nat.reducePow, Int.reduceEq, Int.reduceNeg, Int.reduceLE, Int.reducePow, Int.reduceLT, Int.reduceSub, Int.reduceAdd, Int.reduceMul, Int.reduceToNat, Option.map_some, ↓reduceIte, ite_not, beq_iff_eq, bne_iff_ne, ne_eq, beq_self_eq_true, beq_eq_false_iff_ne, bne_eq_false_iff_eq, resAll, resL, resV, reduceCtorEq, Option.some.injEq, exists_eq_left', blkAt, Nat.reduceLeDiff, Nat.reduceMul, eq_self, Nat.reduceLT, undef, fillV, evParts, footOp, wrOp, chk, disj, Nat.reduceBEq] | split | ((first | apply ck_call | apply cfk_call); (first | (apply call_roA (keyed_C salt (.of d) (by show d.length ≤ _; omega)); (simp [ids_nil, ids_cons, ids_sc, ids_agg, ids_dg, ids_bs, ids_row, ids_ints, ids_sref, ids_ref, ids_sl, blkAt] <;> fail); (repeat' (first | exact args_n | apply args_c | (first | exact arg_closed _ cl | (refine arg_rowA rfl mem ?_; (first | rfl | omega | (simp <;> fail) | (simp; omega))) | (refine arg_row rfl mem ?_; (first | rfl | omega | (simp <;> fail) | (simp; omega))) | (refine arg_fld mem ?_ ?_; (first | rfl | omega | (simp <;> fail) | (simp; omega)); (simp only [blkAt, List.getD_cons_zero, List.getD_cons_succ, Option.bind_some, rd_sE] <;> fail))))); (first | exact cl | exact cll); (first | exact nr | exact nrl))))))
  refine wk_loop (fun m S H => ∃ i : Nat, i ≤ N ∧ m = N - i ∧ S = (.dead :: .dead :: .dead :: .dead :: .ref 0 0 :: .dead :: .ref 1 0 :: .ref 2 0 :: .dead :: .dead :: .dead :: .dead :: .dead :: .dead :: vi .i64 N :: vi .i64 i :: .dead :: .dead :: .dead :: .dead :: .dead :: .dead :: []) ∧ H = [some (dg salt), some (dg (Bn.zero 16)), some (dg (digF d salt i))]) (N) ⟨0, Nat.zero_le _, rfl, rfl, rfl⟩ (by refine .ren _ _ _ [0, 1, 3] (by decide) (by intro k h; first | exact absurd h (Nat.not_lt_zero k) | (simp at h; done) | (match k, h with | 0, _ => rfl)) ?_ ?_ <;> simp [KeepS, KeepH, ArgRel, ArgRelL, argL_cl, arg_cl, row_l_of, row_l_nil, bn_len, blkAt, digF]) ?_
  rintro m S H ⟨i, hi, rfl, rfl, rfl⟩ J hJ
  have d0 : (0 : Int) ≤ i := by omega
  by_cases hin : i < N
  · have d1 : (i : Int) < N := by omega
    have w1 : IntKind.i64.wrap ((i : Int) + 1) = ((i + 1 : Nat) : Int) := by rw [wrap_id _ (by omega) (by omega)]; omega
    (repeat' (first | simp (maxSteps := 2000000) -implicitDefEqProofs only [A_stretch_Digits_L0, d1, w1, lr, lr2, oO, oN, oG, oNG, oM, oF, oL, rg, ci, Nat.reduceEqDiff, Nat.reduceAdd, Nat.reduceSub, Int.reduceTDiv, Int.reduceTMod, ge_iff_le, Int.reduceGE, Nat.reducePow, Int.reduceEq, Int.reduceNeg, Int.reduceLE, Int.reducePow, Int.reduceLT, Int.reduceSub, Int.reduceAdd, Int.reduceMul, Int.reduceToNat, Option.map_some, ↓reduceIte, ite_not, beq_iff_eq, bne_iff_ne, ne_eq, beq_self_eq_true, beq_eq_false_iff_ne, bne_eq_false_iff_eq, resAll, resL, resV, reduceCtorEq, Option.some.injEq, exists_eq_left', blkAt, Nat.reduceLeDiff, Nat.reduceMul, eq_self, Nat.reduceLT, undef, fillV, evParts, footOp, wrOp, chk, disj, Nat.reduceBEq] | split | ((first | apply ck_call | apply cfk_call); (first | (apply call_pure (two_C (digF d salt i) salt) cll cl)))))
    exact hJ _ _ _ _ _ (by omega) ⟨i + 1, by omega, rfl, rfl, rfl⟩ (by refine .ren _ _ _ [0, 1, 2] (by decide) (by intro k h; first | exact absurd h (Nat.not_lt_zero k) | (simp at h; done) | (match k, h with | 0, _ => rfl)) ?_ ?_ <;> simp [KeepS, KeepH, ArgRel, ArgRelL, argL_cl, arg_cl, row_l_of, row_l_nil, bn_len, blkAt, digF])
  · obtain rfl : i = N := by omega
    have d1 : ¬ ((i : Nat) : Int) < i := by omega
    (repeat' (first | simp (maxSteps := 2000000) -implicitDefEqProofs only [A_stretch_Digits_L0, K_stretch_Digits_L0, d1, lr, lr2, oO, oN, oG, oNG, oM, oF, oL, rg, ci, Nat.reduceEqDiff, Nat.reduceAdd, Nat.reduceSub, Int.reduceTDiv, Int.reduceTMod, ge_iff_le, Int.reduceGE, Nat.reducePow, Int.reduceEq, Int.reduceNeg, Int.reduceLE, Int.reducePow, Int.reduceLT, Int.reduceSub, Int.reduceAdd, Int.reduceMul, Int.reduceToNat, Option.map_some, ↓reduceIte, ite_not, beq_iff_eq, bne_iff_ne, ne_eq, beq_self_eq_true, beq_eq_false_iff_ne, bne_eq_false_iff_eq, resAll, resL, resV, reduceCtorEq, Option.some.injEq, exists_eq_left', blkAt, Nat.reduceLeDiff, Nat.reduceMul, eq_self, Nat.reduceLT, undef, fillV, evParts, footOp, wrOp, chk, disj, Nat.reduceBEq] | split))
    exact out_eq rfl cl
theorem rdigits_C (d : List UInt8) (salt : Bn 16) (n : Int) (hd : d.length ≤ 1000000) : C Try.prog 22 [st d, .agg (dg salt), vi .i64 n] [] (.agg (dg (digF d salt (rnd n)))) [] := by
  refine C_of mixed Try.func22 A_clavigerref2_Digits_ok A_clavigerref2_Digits_res _ A_clavigerref2_Digits_nt ?_
  have e := rnd_eq' n
  have hr := rnd_le n
  have hs : d.length ≤ 70368744177664 := by omega
  generalize rnd n = N at *
  have z0 : ((0 : Nat) : Int) = 0 := rfl
  (repeat' (first | simp (maxSteps := 2000000) -implicitDefEqProofs only [A_clavigerref2_Digits, e, hs, lr, lr2, oO, oN, oG, oNG, oM, oF, oL, rg, ci, Nat.reduceEqDiff, Nat.reduceAdd, Nat.reduceSub, Int.reduceTDiv, Int.reduceTMod, ge_iff_le, Int.reduceGE, Nat.reducePow, Int.reduceEq, Int.reduceNeg, Int.reduceLE, Int.reducePow, Int.reduceLT, Int.reduceSub, Int.reduceAdd, Int.reduceMul, Int.reduceToNat, Option.map_some, ↓reduceIte, ite_not, beq_iff_eq, bne_iff_ne, ne_eq, beq_self_eq_true, beq_eq_false_iff_ne, bne_eq_false_iff_eq, resAll, resL, resV, reduceCtorEq, Option.some.injEq, exists_eq_left', blkAt, Nat.reduceLeDiff, Nat.reduceMul, eq_self, Nat.reduceLT, undef, fillV, evParts, footOp, wrOp, chk, disj, Nat.reduceBEq] | split | ((first | apply ck_call | apply cfk_call); (first | (apply call_roA (rkeyed_C salt (.of d) (by show d.length ≤ _; omega)); (simp [ids_nil, ids_cons, ids_sc, ids_agg, ids_dg, ids_bs, ids_row, ids_ints, ids_sref, ids_ref, ids_sl, blkAt] <;> fail); (repeat' (first | exact args_n | apply args_c | (first | exact arg_closed _ cl | (refine arg_rowA rfl mem ?_; (first | rfl | omega | (simp <;> fail) | (simp; omega))) | (refine arg_row rfl mem ?_; (first | rfl | omega | (simp <;> fail) | (simp; omega))) | (refine arg_fld mem ?_ ?_; (first | rfl | omega | (simp <;> fail) | (simp; omega)); (simp only [blkAt, List.getD_cons_zero, List.getD_cons_succ, Option.bind_some, rd_sE] <;> fail))))); (first | exact cl | exact cll); (first | exact nr | exact nrl))))))
  refine wk_loop (fun m S H => ∃ i : Nat, i ≤ N ∧ m = N - i ∧ S = (.dead :: .dead :: .dead :: .dead :: .ref 0 0 :: .dead :: .ref 1 0 :: .ref 2 0 :: vi .i64 ((N : Int) - i) :: .dead :: .dead :: .dead :: .dead :: .dead :: .dead :: .dead :: .dead :: .dead :: .dead :: .dead :: .dead :: .dead :: .dead :: .dead :: []) ∧ H = [some (dg salt), some (dg (Bn.zero 16)), some (dg (digF d salt i))]) (N) ⟨0, Nat.zero_le _, rfl, rfl, rfl⟩ (by refine .ren _ _ _ [0, 1, 3] (by decide) (by intro k h; first | exact absurd h (Nat.not_lt_zero k) | (simp at h; done) | (match k, h with | 0, _ => rfl)) ?_ ?_ <;> simp [KeepS, KeepH, ArgRel, ArgRelL, argL_cl, arg_cl, row_l_of, row_l_nil, bn_len, blkAt, digF, Int.sub_zero, z0]) ?_
  rintro m S H ⟨i, hi, rfl, rfl, rfl⟩ J hJ
  have d0 : (0 : Int) ≤ i := by omega
  by_cases hin : i < N
  · have d1 : (N : Int) - i > 0 := by omega
    have d2 : 0 < (N : Int) - i := by omega
    have w1 : IntKind.i64.wrap ((N : Int) - i - 1) = (N : Int) - ((i + 1 : Nat) : Int) := by rw [wrap_id _ (by omega) (by omega)]; omega
    (repeat' (first | simp (maxSteps := 2000000) -implicitDefEqProofs only [A_clavigerref2_Digits_L0, d1, d2, w1, lr, lr2, oO, oN, oG, oNG, oM, oF, oL, rg, ci, Nat.reduceEqDiff, Nat.reduceAdd, Nat.reduceSub, Int.reduceTDiv, Int.reduceTMod, ge_iff_le, Int.reduceGE, Nat.reducePow, Int.reduceEq, Int.reduceNeg, Int.reduceLE, Int.reducePow, Int.reduceLT, Int.reduceSub, Int.reduceAdd, Int.reduceMul, Int.reduceToNat, Option.map_some, ↓reduceIte, ite_not, beq_iff_eq, bne_iff_ne, ne_eq, beq_self_eq_true, beq_eq_false_iff_ne, bne_eq_false_iff_eq, resAll, resL, resV, reduceCtorEq, Option.some.injEq, exists_eq_left', blkAt, Nat.reduceLeDiff, Nat.reduceMul, eq_self, Nat.reduceLT, undef, fillV, evParts, footOp, wrOp, chk, disj, Nat.reduceBEq] | split | ((first | apply ck_call | apply cfk_call); (first | (apply call_pure (rtwo_C (digF d salt i) salt) cll cl)))))
    exact hJ _ _ _ _ _ (by omega) ⟨i + 1, by omega, rfl, rfl, rfl⟩ (by refine .ren _ _ _ [0, 1, 2] (by decide) (by intro k h; first | exact absurd h (Nat.not_lt_zero k) | (simp at h; done) | (match k, h with | 0, _ => rfl)) ?_ ?_ <;> simp [KeepS, KeepH, ArgRel, ArgRelL, argL_cl, arg_cl, row_l_of, row_l_nil, bn_len, blkAt, digF])
  · obtain rfl : i = N := by omega
    have d1 : ¬ (i : Int) - i > 0 := by omega
    have d2 : ¬ 0 < (i : Int) - i := by omega
    (repeat' (first | simp (maxSteps := 2000000) -implicitDefEqProofs only [A_clavigerref2_Digits_L0, K_clavigerref2_Digits_L0, d1, d2, lr, lr2, oO, oN, oG, oNG, oM, oF, oL, rg, ci, Nat.reduceEqDiff, Nat.reduceAdd, Nat.reduceSub, Int.reduceTDiv, Int.reduceTMod, ge_iff_le, Int.reduceGE, Nat.reducePow, Int.reduceEq, Int.reduceNeg, Int.reduceLE, Int.reducePow, Int.reduceLT, Int.reduceSub, Int.reduceAdd, Int.reduceMul, Int.reduceToNat, Option.map_some, ↓reduceIte, ite_not, beq_iff_eq, bne_iff_ne, ne_eq, beq_self_eq_true, beq_eq_false_iff_ne, bne_eq_false_iff_eq, resAll, resL, resV, reduceCtorEq, Option.some.injEq, exists_eq_left', blkAt, Nat.reduceLeDiff, Nat.reduceMul, eq_self, Nat.reduceLT, undef, fillV, evParts, footOp, wrOp, chk, disj, Nat.reduceBEq] | split))
    exact out_eq rfl cl
def saltF (id : Bn 4) : Bn 16 := sumF id.1
theorem salt_C (id : Bn 4) : C Try.prog 26 [.agg (dg id)] [] (.agg (dg (saltF id))) [] := by
  refine C_of mixed Try.func26 A_stretch_Salt_ok A_stretch_Salt_res _ A_stretch_Salt_nt ?_
  (repeat' (first | simp (maxSteps := 2000000) -implicitDefEqProofs only [A_stretch_Salt, saltF, lr, lr2, oO, oN, oG, oNG, oM, oF, oL, rg, ci, Nat.reduceEqDiff, Nat.reduceAdd, Nat.reduceSub, Int.reduceTDiv, Int.reduceTMod, ge_iff_le, Int.reduceGE, Nat.reducePow, Int.reduceEq, Int.reduceNeg, Int.reduceLE, Int.reducePow, Int.reduceLT, Int.reduceSub, Int.reduceAdd, Int.reduceMul, Int.reduceToNat, Option.map_some, ↓reduceIte, ite_not, beq_iff_eq, bne_iff_ne, ne_eq, beq_self_eq_true, beq_eq_false_iff_ne, bne_eq_false_iff_eq, resAll, resL, resV, reduceCtorEq, Option.some.injEq, exists_eq_left', blkAt, Nat.reduceLeDiff, Nat.reduceMul, eq_self, Nat.reduceLT, undef, fillV, evParts, footOp, wrOp, chk, disj, Nat.reduceBEq] | split | ((first | apply ck_call | apply cfk_call); (first | (apply call_roA (sum_C (.of id.1) (by rw [row_l_of, bn_len]; decide)); (simp [ids_nil, ids_cons, ids_sc, ids_agg, ids_dg, ids_bs, ids_row, ids_ints, ids_sref, ids_ref, ids_sl, blkAt] <;> fail); (repeat' (first | exact args_n | apply args_c | (first | exact arg_closed _ cl | (refine arg_rowA rfl mem ?_; (first | rfl | omega | (simp <;> fail) | (simp; omega))) | (refine arg_row rfl mem ?_; (first | rfl | omega | (simp <;> fail) | (simp; omega))) | (refine arg_fld mem ?_ ?_; (first | rfl | omega | (simp <;> fail) | (simp; omega)); (simp only [blkAt, List.getD_cons_zero, List.getD_cons_succ, Option.bind_some, rd_sE] <;> fail))))); (first | exact cl | exact cll); (first | exact nr | exact nrl))))))
  exact out_eq rfl cl
theorem rsalt_C (id : Bn 4) : C Try.prog 27 [.agg (dg id)] [] (.agg (dg (saltF id))) [] := by
  refine C_of mixed Try.func27 A_clavigerref2_Salt_ok A_clavigerref2_Salt_res _ A_clavigerref2_Salt_nt ?_
  (repeat' (first | simp (maxSteps := 2000000) -implicitDefEqProofs only [A_clavigerref2_Salt, saltF, lr, lr2, oO, oN, oG, oNG, oM, oF, oL, rg, ci, Nat.reduceEqDiff, Nat.reduceAdd, Nat.reduceSub, Int.reduceTDiv, Int.reduceTMod, ge_iff_le, Int.reduceGE, Nat.reducePow, Int.reduceEq, Int.reduceNeg, Int.reduceLE, Int.reducePow, Int.reduceLT, Int.reduceSub, Int.reduceAdd, Int.reduceMul, Int.reduceToNat, Option.map_some, ↓reduceIte, ite_not, beq_iff_eq, bne_iff_ne, ne_eq, beq_self_eq_true, beq_eq_false_iff_ne, bne_eq_false_iff_eq, resAll, resL, resV, reduceCtorEq, Option.some.injEq, exists_eq_left', blkAt, Nat.reduceLeDiff, Nat.reduceMul, eq_self, Nat.reduceLT, undef, fillV, evParts, footOp, wrOp, chk, disj, Nat.reduceBEq] | split | ((first | apply ck_call | apply cfk_call); (first | (apply call_roA (rsum_C (.of id.1) (by rw [row_l_of, bn_len]; decide)); (simp [ids_nil, ids_cons, ids_sc, ids_agg, ids_dg, ids_bs, ids_row, ids_ints, ids_sref, ids_ref, ids_sl, blkAt] <;> fail); (repeat' (first | exact args_n | apply args_c | (first | exact arg_closed _ cl | (refine arg_rowA rfl mem ?_; (first | rfl | omega | (simp <;> fail) | (simp; omega))) | (refine arg_row rfl mem ?_; (first | rfl | omega | (simp <;> fail) | (simp; omega))) | (refine arg_fld mem ?_ ?_; (first | rfl | omega | (simp <;> fail) | (simp; omega)); (simp only [blkAt, List.getD_cons_zero, List.getD_cons_succ, Option.bind_some, rd_sE] <;> fail))))); (first | exact cl | exact cll); (first | exact nr | exact nrl))))))
  exact out_eq rfl cl
def spinR (s : List UInt8) (id : Bn 4) : V := match normF s with
  | some d => .tup [.agg (dg (digF d (saltF id) 16)), vi .i64 0]
  | none => .tup [.agg (dg (Bn.zero 16)), vi .i64 23]
theorem normR_some (l d : List UInt8) (h : normF l = some d) : normR l = .tup [st d, vb true] := by unfold normR; rw [h]; rfl
theorem normR_no (l : List UInt8) (h : normF l = none) : normR l = .tup [st [], vb false] := by unfold normR; rw [h]; rfl
theorem normF_le (l d : List UInt8) (h : normF l = some d) : d.length ≤ 12 := by
  unfold normF normL at h
  split at h
  · split at h
    · rename_i h2; cases h; exact h2.2
    · cases h
  · cases h
theorem rnd_16 : rnd 16 = 16 := rfl
theorem spin_C (s : List UInt8) (id : Bn 4) (hs : s.length ≤ 1000000) : C Try.prog 29 [st s, .agg (dg id)] [] (spinR s id) [] := by
  have hn := normal_C s hs
  unfold spinR
  cases h : normF s with
  | none =>
    rw [normR_no s h] at hn
    refine C_of mixed Try.func29 A_stretch_Pin_ok A_stretch_Pin_res _ A_stretch_Pin_nt ?_
    (repeat' (first | simp (maxSteps := 2000000) -implicitDefEqProofs only [A_stretch_Pin, lr, lr2, oO, oN, oG, oNG, oM, oF, oL, rg, ci, Nat.reduceEqDiff, Nat.reduceAdd, Nat.reduceSub, Int.reduceTDiv, Int.reduceTMod, ge_iff_le, Int.reduceGE, Nat.reducePow, Int.reduceEq, Int.reduceNeg, Int.reduceLE, Int.reducePow, Int.reduceLT, Int.reduceSub, Int.reduceAdd, Int.reduceMul, Int.reduceToNat, Option.map_some, ↓reduceIte, ite_not, beq_iff_eq, bne_iff_ne, ne_eq, beq_self_eq_true, beq_eq_false_iff_ne, bne_eq_false_iff_eq, resAll, resL, resV, reduceCtorEq, Option.some.injEq, exists_eq_left', blkAt, Nat.reduceLeDiff, Nat.reduceMul, eq_self, Nat.reduceLT, undef, fillV, evParts, footOp, wrOp, chk, disj, Nat.reduceBEq] | split | ((first | apply ck_call | apply cfk_call); (first | (apply call_pure (hn) cll cl)))))
    exact out_eq rfl cl
  | some d =>
    have hd := normF_le s d h
    have h16 := digits_C d (saltF id) 16 (by omega)
    rw [rnd_16] at h16
    rw [normR_some s d h] at hn
    refine C_of mixed Try.func29 A_stretch_Pin_ok A_stretch_Pin_res _ A_stretch_Pin_nt ?_
    (repeat' (first | simp (maxSteps := 2000000) -implicitDefEqProofs only [A_stretch_Pin, lr, lr2, oO, oN, oG, oNG, oM, oF, oL, rg, ci, Nat.reduceEqDiff, Nat.reduceAdd, Nat.reduceSub, Int.reduceTDiv, Int.reduceTMod, ge_iff_le, Int.reduceGE, Nat.reducePow, Int.reduceEq, Int.reduceNeg, Int.reduceLE, Int.reducePow, Int.reduceLT, Int.reduceSub, Int.reduceAdd, Int.reduceMul, Int.reduceToNat, Option.map_some, ↓reduceIte, ite_not, beq_iff_eq, bne_iff_ne, ne_eq, beq_self_eq_true, beq_eq_false_iff_ne, bne_eq_false_iff_eq, resAll, resL, resV, reduceCtorEq, Option.some.injEq, exists_eq_left', blkAt, Nat.reduceLeDiff, Nat.reduceMul, eq_self, Nat.reduceLT, undef, fillV, evParts, footOp, wrOp, chk, disj, Nat.reduceBEq] | split | ((first | apply ck_call | apply cfk_call); (first | (apply call_pure (hn) cll cl) | (apply call_pure (salt_C id) cll cl) | (apply call_pure (h16) cll cl)))))
    exact out_eq rfl cl
theorem spin_ok : normF [49, 50, 51, 52] = some [49, 50, 51, 52] := by decide +kernel
theorem spin_ok2 : normF [49, 50, 32, 51, 52] = some [49, 50, 51, 52] := by decide +kernel
theorem spin_no : normF [49, 50] = none := by decide +kernel
theorem digF_1 : ¬ digF [49, 50, 51, 52] (saltF ((Bn.zero 4).set 0 (by8 1))) 16 = Bn.zero 16 := by decide +kernel
def id1 : Bn 4 := (Bn.zero 4).set 0 (by8 1)
theorem known3_C : C Try.prog 24 [] [] (vb true) [] := by
  have k1 : C Try.prog 29 [st [49, 50, 51, 52], .agg (dg id1)] [] (.tup [.agg (dg (digF [49, 50, 51, 52] (saltF id1) 16)), vi .i64 0]) [] := by
    have := spin_C [49, 50, 51, 52] id1 (by decide)
    rwa [spinR, spin_ok] at this
  have k2 : C Try.prog 29 [st [49, 50, 32, 51, 52], .agg (dg id1)] [] (.tup [.agg (dg (digF [49, 50, 51, 52] (saltF id1) 16)), vi .i64 0]) [] := by
    have := spin_C [49, 50, 32, 51, 52] id1 (by decide)
    rwa [spinR, spin_ok2] at this
  have k3 : C Try.prog 29 [st [49, 50], .agg (dg id1)] [] (.tup [.agg (dg (Bn.zero 16)), vi .i64 23]) [] := by
    have := spin_C [49, 50] id1 (by decide)
    rwa [spinR, spin_no] at this
  have hz := digF_1
  refine C_of mixed Try.func24 A_clavigerlaw3_known_ok A_clavigerlaw3_known_res _ A_clavigerlaw3_known_nt ?_
  unfold id1 at *
  generalize digF [49, 50, 51, 52] (saltF ((Bn.zero 4).set 0 (by8 1))) 16 = X at *
  (repeat' (first | simp (maxSteps := 2000000) -implicitDefEqProofs only [A_clavigerlaw3_known, hz, lr, lr2, oO, oN, oG, oNG, oM, oF, oL, rg, ci, Nat.reduceEqDiff, Nat.reduceAdd, Nat.reduceSub, Int.reduceTDiv, Int.reduceTMod, ge_iff_le, Int.reduceGE, Nat.reducePow, Int.reduceEq, Int.reduceNeg, Int.reduceLE, Int.reducePow, Int.reduceLT, Int.reduceSub, Int.reduceAdd, Int.reduceMul, Int.reduceToNat, Option.map_some, ↓reduceIte, ite_not, beq_iff_eq, bne_iff_ne, ne_eq, beq_self_eq_true, beq_eq_false_iff_ne, bne_eq_false_iff_eq, resAll, resL, resV, reduceCtorEq, Option.some.injEq, exists_eq_left', blkAt, Nat.reduceLeDiff, Nat.reduceMul, eq_self, Nat.reduceLT, undef, fillV, evParts, footOp, wrOp, chk, disj, Nat.reduceBEq] | split | ((first | apply ck_call | apply cfk_call); (first | (apply call_pure (k1) cll cl) | (apply call_pure (k2) cll cl) | (apply call_pure (k3) cll cl)))))
  all_goals trace_state
  all_goals (refine out_eq ?_ (cl); first | rfl | (simp_all []; done) | (simp_all []; intros; omega) | (simp []; (repeat' split) <;> first | rfl | omega | (simp_all; done) | (simp_all; intros; omega)))
theorem same3_C (s : List UInt8) (id : Bn 4) (hs : s.length ≤ 1000000) : C Try.prog 23 [st s, .agg (dg id)] [] (vb true) [] := by
  have hn := rnormal_C s hs
  have hp := spin_C s id hs
  unfold spinR at hp
  cases h : normF s with
  | none =>
    rw [normR_no s h] at hn
    rw [h] at hp
    refine C_of mixed Try.func23 A_clavigerlaw3_same_ok A_clavigerlaw3_same_res _ A_clavigerlaw3_same_nt ?_
    (repeat' (first | simp (maxSteps := 2000000) -implicitDefEqProofs only [A_clavigerlaw3_same, lr, lr2, oO, oN, oG, oNG, oM, oF, oL, rg, ci, Nat.reduceEqDiff, Nat.reduceAdd, Nat.reduceSub, Int.reduceTDiv, Int.reduceTMod, ge_iff_le, Int.reduceGE, Nat.reducePow, Int.reduceEq, Int.reduceNeg, Int.reduceLE, Int.reducePow, Int.reduceLT, Int.reduceSub, Int.reduceAdd, Int.reduceMul, Int.reduceToNat, Option.map_some, ↓reduceIte, ite_not, beq_iff_eq, bne_iff_ne, ne_eq, beq_self_eq_true, beq_eq_false_iff_ne, bne_eq_false_iff_eq, resAll, resL, resV, reduceCtorEq, Option.some.injEq, exists_eq_left', blkAt, Nat.reduceLeDiff, Nat.reduceMul, eq_self, Nat.reduceLT, undef, fillV, evParts, footOp, wrOp, chk, disj, Nat.reduceBEq] | split | ((first | apply ck_call | apply cfk_call); (first | (apply call_pure (hn) cll cl) | (apply call_pure (hp) cll cl)))))
    exact out_eq rfl cl
  | some d =>
    have hd := normF_le s d h
    have h16 := rdigits_C d (saltF id) 16 (by omega)
    rw [rnd_16] at h16
    rw [normR_some s d h] at hn
    rw [h] at hp
    refine C_of mixed Try.func23 A_clavigerlaw3_same_ok A_clavigerlaw3_same_res _ A_clavigerlaw3_same_nt ?_
    (repeat' (first | simp (maxSteps := 2000000) -implicitDefEqProofs only [A_clavigerlaw3_same, lr, lr2, oO, oN, oG, oNG, oM, oF, oL, rg, ci, Nat.reduceEqDiff, Nat.reduceAdd, Nat.reduceSub, Int.reduceTDiv, Int.reduceTMod, ge_iff_le, Int.reduceGE, Nat.reducePow, Int.reduceEq, Int.reduceNeg, Int.reduceLE, Int.reducePow, Int.reduceLT, Int.reduceSub, Int.reduceAdd, Int.reduceMul, Int.reduceToNat, Option.map_some, ↓reduceIte, ite_not, beq_iff_eq, bne_iff_ne, ne_eq, beq_self_eq_true, beq_eq_false_iff_ne, bne_eq_false_iff_eq, resAll, resL, resV, reduceCtorEq, Option.some.injEq, exists_eq_left', blkAt, Nat.reduceLeDiff, Nat.reduceMul, eq_self, Nat.reduceLT, undef, fillV, evParts, footOp, wrOp, chk, disj, Nat.reduceBEq] | split | ((first | apply ck_call | apply cfk_call); (first | (apply call_pure (hn) cll cl) | (apply call_pure (hp) cll cl) | (apply call_pure (rsalt_C id) cll cl) | (apply call_pure (h16) cll cl)))))
    exact out_eq rfl cl
end Go.Proofs.Ytmmaenfjnkoknaa.VA
