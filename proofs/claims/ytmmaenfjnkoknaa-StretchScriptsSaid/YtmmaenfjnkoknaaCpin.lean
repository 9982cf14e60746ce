/- PINs: which digit a sign is, what a PIN's digits are, how they are stretched. -/
import Derived.Test.YtmmaenfjnkoknaaLpin
import Derived.Test.YtmmaenfjnkoknaaUtf
import Derived.Test.YtmmaenfjnkoknaaPB
import Derived.Test.YtmmaenfjnkoknaaVC
set_option linter.unusedVariables false
set_option linter.unusedSimpArgs false
set_option maxRecDepth 100000
namespace Go.Proofs.Ytmmaenfjnkoknaa.VA
open Go
attribute [local irreducible] WK NK XK TK RK FK CK CFK CallRel C
def digB (r : Int) : Int := if 0 ≤ pinDig r then 48 + pinDig r else 0
def inZ (r z : Int) : Prop := z ≤ r ∧ r ≤ z + 9
theorem digB_in (r z : Int) (hz : isBase z) (h : inZ r z) : digB r = 48 + r - z ∧ 0 ≤ pinDig r := by
  obtain ⟨h1, h2⟩ := h
  have := pinDig_base z (r - z) hz (by omega) (by omega)
  rw [show z + (r - z) = r by omega] at this
  unfold digB
  rw [this, if_pos (by omega)]
  omega
theorem dig_none (r : Int) (h : ¬ inZ r 48 ∧ ¬ inZ r 65296 ∧ ¬ inZ r 1632 ∧ ¬ inZ r 1776) : pinDig r < 0 := by
  unfold inZ at h
  unfold pinDig
  (repeat' split) <;> omega
def zAt : Nat → Int
  | 0 => 48
  | 1 => 65296
  | 2 => 1632
  | _ => 1776
set_option maxHeartbeats 4000000 in
theorem digit_C (r : Int) : C Try.prog 166 [vi .i32 r] [] (.tup [vi .u8 (digB r), vb (decide (0 ≤ pinDig r))]) [] := by
  refine C_of mixed Try.func166 A_pin_digit_ok A_pin_digit_res _ A_pin_digit_nt ?_
  (repeat' (first | simp (maxSteps := 2000000) -implicitDefEqProofs only [A_pin_digit, lr, lr2, oO, oN, oG, oNG, oM, oF, oL, rg, ci, Nat.reduceEqDiff, Nat.reduceAdd, Nat.reduceSub, Int.reduceTDiv, Int.reduceTMod, ge_iff_le, Int.reduceGE, Nat.reducePow, Int.reduceEq, Int.reduceNeg, Int.reduceLE, Int.reducePow, Int.reduceLT, Int.reduceSub, Int.reduceAdd, Int.reduceMul, Int.reduceToNat, Option.map_some, ↓reduceIte, ite_not, beq_iff_eq, bne_iff_ne, ne_eq, beq_self_eq_true, beq_eq_false_iff_ne, bne_eq_false_iff_eq, resAll, resL, resV, reduceCtorEq, Option.some.injEq, exists_eq_left', blkAt, Nat.reduceLeDiff, Nat.reduceMul, eq_self, Nat.reduceLT, undef, fillV, evParts, footOp, wrOp, chk, disj, Nat.reduceBEq] | split))
  refine wk_loop (fun m S H => ∃ i : Nat, i ≤ 4 ∧ (∀ j, j < i → ¬ inZ r (zAt j)) ∧ m = 4 - i ∧ S = (vi .i32 r :: .dead :: vi .u8 0 :: vb false :: .dead :: .dead :: .sref 0 0 4 1 :: vi .i64 4 :: vi .i64 i :: .dead :: .dead :: .dead :: .dead :: .dead :: .dead :: .dead :: .dead :: .dead :: .dead :: .dead :: .dead :: .dead :: .dead :: .dead :: .dead :: .dead :: .dead :: []) ∧ H = [some [vi .i32 48, vi .i32 65296, vi .i32 1632, vi .i32 1776]]) (4) ⟨0, Nat.zero_le _, fun j hj => by omega, rfl, rfl, rfl⟩ (by refine .ren _ _ _ [0] (by decide) (by intro k h; first | exact absurd h (Nat.not_lt_zero k) | (simp at h; done) | (match k, h with | 0, _ => rfl)) ?_ ?_ <;> simp [KeepS, KeepH, ArgRel, ArgRelL, argL_cl, arg_cl, row_l_of, row_l_nil, bn_len, blkAt]) ?_
  rintro m S H ⟨i, hi, hP, rfl, rfl, rfl⟩ J hJ
  have d0 : (0 : Int) ≤ i := by omega
  by_cases hin : i < 4
  · rcases (by omega : i = 0 ∨ i = 1 ∨ i = 2 ∨ i = 3) with rfl | rfl | rfl | rfl
    ·   have c6 : IntKind.i32.wrap 57 = 57 := rfl
        by_cases hz : inZ r 48
        · obtain ⟨e1, e2⟩ := digB_in r 48 (.inl rfl) hz
          obtain ⟨c1, c2⟩ := hz
          have c2 : r ≤ 57 := by omega
          rw [e1, decide_eq_true e2]
          have c3 : IntKind.i32.wrap (48 + r) = 48 + r := IntWalk.i32_in _ ⟨by omega, by omega⟩
          have c4 : IntKind.i32.wrap (48 + r - 48) = 48 + r - 48 := IntWalk.i32_in _ ⟨by omega, by omega⟩
          have c5 : IntKind.u8.wrap (48 + r - 48) = 48 + r - 48 := IntWalk.u8_in _ ⟨by omega, by omega⟩
          (repeat' (first | simp (maxSteps := 2000000) -implicitDefEqProofs only [A_pin_digit_L0, c1, c2, c3, c4, c5, c6, lr, lr2, oO, oN, oG, oNG, oM, oF, oL, rg, ci, Nat.reduceEqDiff, Nat.reduceAdd, Nat.reduceSub, Int.reduceTDiv, Int.reduceTMod, ge_iff_le, Int.reduceGE, Nat.reducePow, Int.reduceEq, Int.reduceNeg, Int.reduceLE, Int.reducePow, Int.reduceLT, Int.reduceSub, Int.reduceAdd, Int.reduceMul, Int.reduceToNat, Option.map_some, ↓reduceIte, ite_not, beq_iff_eq, bne_iff_ne, ne_eq, beq_self_eq_true, beq_eq_false_iff_ne, bne_eq_false_iff_eq, resAll, resL, resV, reduceCtorEq, Option.some.injEq, exists_eq_left', blkAt, Nat.reduceLeDiff, Nat.reduceMul, eq_self, Nat.reduceLT, undef, fillV, evParts, footOp, wrOp, chk, disj, Nat.reduceBEq] | split))
          all_goals (refine out_eq rfl cl)
        · rcases (by unfold inZ at hz; omega : ¬ 48 ≤ r ∨ (48 ≤ r ∧ ¬ r ≤ 57)) with c1 | ⟨c1, c2⟩
          · (repeat' (first | simp (maxSteps := 2000000) -implicitDefEqProofs only [A_pin_digit_L0, c1, lr, lr2, oO, oN, oG, oNG, oM, oF, oL, rg, ci, Nat.reduceEqDiff, Nat.reduceAdd, Nat.reduceSub, Int.reduceTDiv, Int.reduceTMod, ge_iff_le, Int.reduceGE, Nat.reducePow, Int.reduceEq, Int.reduceNeg, Int.reduceLE, Int.reducePow, Int.reduceLT, Int.reduceSub, Int.reduceAdd, Int.reduceMul, Int.reduceToNat, Option.map_some, ↓reduceIte, ite_not, beq_iff_eq, bne_iff_ne, ne_eq, beq_self_eq_true, beq_eq_false_iff_ne, bne_eq_false_iff_eq, resAll, resL, resV, reduceCtorEq, Option.some.injEq, exists_eq_left', blkAt, Nat.reduceLeDiff, Nat.reduceMul, eq_self, Nat.reduceLT, undef, fillV, evParts, footOp, wrOp, chk, disj, Nat.reduceBEq] | split))
            exact hJ _ _ _ _ _ (by omega) ⟨0 + 1, by omega, (by intro j hj; rcases (by omega : j < 0 ∨ j = 0) with h | h; exact hP j h; subst h; exact hz), rfl, rfl, rfl⟩ (by refine .ren _ _ _ [0] (by decide) (by intro k h; first | exact absurd h (Nat.not_lt_zero k) | (simp at h; done) | (match k, h with | 0, _ => rfl)) ?_ ?_ <;> simp [KeepS, KeepH, ArgRel, ArgRelL, argL_cl, arg_cl, row_l_of, row_l_nil, bn_len, blkAt])
          · (repeat' (first | simp (maxSteps := 2000000) -implicitDefEqProofs only [A_pin_digit_L0, c1, c2, c6, lr, lr2, oO, oN, oG, oNG, oM, oF, oL, rg, ci, Nat.reduceEqDiff, Nat.reduceAdd, Nat.reduceSub, Int.reduceTDiv, Int.reduceTMod, ge_iff_le, Int.reduceGE, Nat.reducePow, Int.reduceEq, Int.reduceNeg, Int.reduceLE, Int.reducePow, Int.reduceLT, Int.reduceSub, Int.reduceAdd, Int.reduceMul, Int.reduceToNat, Option.map_some, ↓reduceIte, ite_not, beq_iff_eq, bne_iff_ne, ne_eq, beq_self_eq_true, beq_eq_false_iff_ne, bne_eq_false_iff_eq, resAll, resL, resV, reduceCtorEq, Option.some.injEq, exists_eq_left', blkAt, Nat.reduceLeDiff, Nat.reduceMul, eq_self, Nat.reduceLT, undef, fillV, evParts, footOp, wrOp, chk, disj, Nat.reduceBEq] | split))
            exact hJ _ _ _ _ _ (by omega) ⟨0 + 1, by omega, (by intro j hj; rcases (by omega : j < 0 ∨ j = 0) with h | h; exact hP j h; subst h; exact hz), rfl, rfl, rfl⟩ (by refine .ren _ _ _ [0] (by decide) (by intro k h; first | exact absurd h (Nat.not_lt_zero k) | (simp at h; done) | (match k, h with | 0, _ => rfl)) ?_ ?_ <;> simp [KeepS, KeepH, ArgRel, ArgRelL, argL_cl, arg_cl, row_l_of, row_l_nil, bn_len, blkAt])
    ·   have c6 : IntKind.i32.wrap 65305 = 65305 := rfl
        by_cases hz : inZ r 65296
        · obtain ⟨e1, e2⟩ := digB_in r 65296 (.inr (.inl rfl)) hz
          obtain ⟨c1, c2⟩ := hz
          have c2 : r ≤ 65305 := by omega
          rw [e1, decide_eq_true e2]
          have c3 : IntKind.i32.wrap (48 + r) = 48 + r := IntWalk.i32_in _ ⟨by omega, by omega⟩
          have c4 : IntKind.i32.wrap (48 + r - 65296) = 48 + r - 65296 := IntWalk.i32_in _ ⟨by omega, by omega⟩
          have c5 : IntKind.u8.wrap (48 + r - 65296) = 48 + r - 65296 := IntWalk.u8_in _ ⟨by omega, by omega⟩
          (repeat' (first | simp (maxSteps := 2000000) -implicitDefEqProofs only [A_pin_digit_L0, c1, c2, c3, c4, c5, c6, lr, lr2, oO, oN, oG, oNG, oM, oF, oL, rg, ci, Nat.reduceEqDiff, Nat.reduceAdd, Nat.reduceSub, Int.reduceTDiv, Int.reduceTMod, ge_iff_le, Int.reduceGE, Nat.reducePow, Int.reduceEq, Int.reduceNeg, Int.reduceLE, Int.reducePow, Int.reduceLT, Int.reduceSub, Int.reduceAdd, Int.reduceMul, Int.reduceToNat, Option.map_some, ↓reduceIte, ite_not, beq_iff_eq, bne_iff_ne, ne_eq, beq_self_eq_true, beq_eq_false_iff_ne, bne_eq_false_iff_eq, resAll, resL, resV, reduceCtorEq, Option.some.injEq, exists_eq_left', blkAt, Nat.reduceLeDiff, Nat.reduceMul, eq_self, Nat.reduceLT, undef, fillV, evParts, footOp, wrOp, chk, disj, Nat.reduceBEq] | split))
          all_goals (refine out_eq rfl cl)
        · rcases (by unfold inZ at hz; omega : ¬ 65296 ≤ r ∨ (65296 ≤ r ∧ ¬ r ≤ 65305)) with c1 | ⟨c1, c2⟩
          · (repeat' (first | simp (maxSteps := 2000000) -implicitDefEqProofs only [A_pin_digit_L0, c1, lr, lr2, oO, oN, oG, oNG, oM, oF, oL, rg, ci, Nat.reduceEqDiff, Nat.reduceAdd, Nat.reduceSub, Int.reduceTDiv, Int.reduceTMod, ge_iff_le, Int.reduceGE, Nat.reducePow, Int.reduceEq, Int.reduceNeg, Int.reduceLE, Int.reducePow, Int.reduceLT, Int.reduceSub, Int.reduceAdd, Int.reduceMul, Int.reduceToNat, Option.map_some, ↓reduceIte, ite_not, beq_iff_eq, bne_iff_ne, ne_eq, beq_self_eq_true, beq_eq_false_iff_ne, bne_eq_false_iff_eq, resAll, resL, resV, reduceCtorEq, Option.some.injEq, exists_eq_left', blkAt, Nat.reduceLeDiff, Nat.reduceMul, eq_self, Nat.reduceLT, undef, fillV, evParts, footOp, wrOp, chk, disj, Nat.reduceBEq] | split))
            exact hJ _ _ _ _ _ (by omega) ⟨1 + 1, by omega, (by intro j hj; rcases (by omega : j < 1 ∨ j = 1) with h | h; exact hP j h; subst h; exact hz), rfl, rfl, rfl⟩ (by refine .ren _ _ _ [0] (by decide) (by intro k h; first | exact absurd h (Nat.not_lt_zero k) | (simp at h; done) | (match k, h with | 0, _ => rfl)) ?_ ?_ <;> simp [KeepS, KeepH, ArgRel, ArgRelL, argL_cl, arg_cl, row_l_of, row_l_nil, bn_len, blkAt])
          · (repeat' (first | simp (maxSteps := 2000000) -implicitDefEqProofs only [A_pin_digit_L0, c1, c2, c6, lr, lr2, oO, oN, oG, oNG, oM, oF, oL, rg, ci, Nat.reduceEqDiff, Nat.reduceAdd, Nat.reduceSub, Int.reduceTDiv, Int.reduceTMod, ge_iff_le, Int.reduceGE, Nat.reducePow, Int.reduceEq, Int.reduceNeg, Int.reduceLE, Int.reducePow, Int.reduceLT, Int.reduceSub, Int.reduceAdd, Int.reduceMul, Int.reduceToNat, Option.map_some, ↓reduceIte, ite_not, beq_iff_eq, bne_iff_ne, ne_eq, beq_self_eq_true, beq_eq_false_iff_ne, bne_eq_false_iff_eq, resAll, resL, resV, reduceCtorEq, Option.some.injEq, exists_eq_left', blkAt, Nat.reduceLeDiff, Nat.reduceMul, eq_self, Nat.reduceLT, undef, fillV, evParts, footOp, wrOp, chk, disj, Nat.reduceBEq] | split))
            exact hJ _ _ _ _ _ (by omega) ⟨1 + 1, by omega, (by intro j hj; rcases (by omega : j < 1 ∨ j = 1) with h | h; exact hP j h; subst h; exact hz), rfl, rfl, rfl⟩ (by refine .ren _ _ _ [0] (by decide) (by intro k h; first | exact absurd h (Nat.not_lt_zero k) | (simp at h; done) | (match k, h with | 0, _ => rfl)) ?_ ?_ <;> simp [KeepS, KeepH, ArgRel, ArgRelL, argL_cl, arg_cl, row_l_of, row_l_nil, bn_len, blkAt])
    ·   have c6 : IntKind.i32.wrap 1641 = 1641 := rfl
        by_cases hz : inZ r 1632
        · obtain ⟨e1, e2⟩ := digB_in r 1632 (.inr (.inr (.inl rfl))) hz
          obtain ⟨c1, c2⟩ := hz
          have c2 : r ≤ 1641 := by omega
          rw [e1, decide_eq_true e2]
          have c3 : IntKind.i32.wrap (48 + r) = 48 + r := IntWalk.i32_in _ ⟨by omega, by omega⟩
          have c4 : IntKind.i32.wrap (48 + r - 1632) = 48 + r - 1632 := IntWalk.i32_in _ ⟨by omega, by omega⟩
          have c5 : IntKind.u8.wrap (48 + r - 1632) = 48 + r - 1632 := IntWalk.u8_in _ ⟨by omega, by omega⟩
          (repeat' (first | simp (maxSteps := 2000000) -implicitDefEqProofs only [A_pin_digit_L0, c1, c2, c3, c4, c5, c6, lr, lr2, oO, oN, oG, oNG, oM, oF, oL, rg, ci, Nat.reduceEqDiff, Nat.reduceAdd, Nat.reduceSub, Int.reduceTDiv, Int.reduceTMod, ge_iff_le, Int.reduceGE, Nat.reducePow, Int.reduceEq, Int.reduceNeg, Int.reduceLE, Int.reducePow, Int.reduceLT, Int.reduceSub, Int.reduceAdd, Int.reduceMul, Int.reduceToNat, Option.map_some, ↓reduceIte, ite_not, beq_iff_eq, bne_iff_ne, ne_eq, beq_self_eq_true, beq_eq_false_iff_ne, bne_eq_false_iff_eq, resAll, resL, resV, reduceCtorEq, Option.some.injEq, exists_eq_left', blkAt, Nat.reduceLeDiff, Nat.reduceMul, eq_self, Nat.reduceLT, undef, fillV, evParts, footOp, wrOp, chk, disj, Nat.reduceBEq] | split))
          all_goals (refine out_eq rfl cl)
        · rcases (by unfold inZ at hz; omega : ¬ 1632 ≤ r ∨ (1632 ≤ r ∧ ¬ r ≤ 1641)) with c1 | ⟨c1, c2⟩
          · (repeat' (first | simp (maxSteps := 2000000) -implicitDefEqProofs only [A_pin_digit_L0, c1, lr, lr2, oO, oN, oG, oNG, oM, oF, oL, rg, ci, Nat.reduceEqDiff, Nat.reduceAdd, Nat.reduceSub, Int.reduceTDiv, Int.reduceTMod, ge_iff_le, Int.reduceGE, Nat.reducePow, Int.reduceEq, Int.reduceNeg, Int.reduceLE, Int.reducePow, Int.reduceLT, Int.reduceSub, Int.reduceAdd, Int.reduceMul, Int.reduceToNat, Option.map_some, ↓reduceIte, ite_not, beq_iff_eq, bne_iff_ne, ne_eq, beq_self_eq_true, beq_eq_false_iff_ne, bne_eq_false_iff_eq, resAll, resL, resV, reduceCtorEq, Option.some.injEq, exists_eq_left', blkAt, Nat.reduceLeDiff, Nat.reduceMul, eq_self, Nat.reduceLT, undef, fillV, evParts, footOp, wrOp, chk, disj, Nat.reduceBEq] | split))
            exact hJ _ _ _ _ _ (by omega) ⟨2 + 1, by omega, (by intro j hj; rcases (by omega : j < 2 ∨ j = 2) with h | h; exact hP j h; subst h; exact hz), rfl, rfl, rfl⟩ (by refine .ren _ _ _ [0] (by decide) (by intro k h; first | exact absurd h (Nat.not_lt_zero k) | (simp at h; done) | (match k, h with | 0, _ => rfl)) ?_ ?_ <;> simp [KeepS, KeepH, ArgRel, ArgRelL, argL_cl, arg_cl, row_l_of, row_l_nil, bn_len, blkAt])
          · (repeat' (first | simp (maxSteps := 2000000) -implicitDefEqProofs only [A_pin_digit_L0, c1, c2, c6, lr, lr2, oO, oN, oG, oNG, oM, oF, oL, rg, ci, Nat.reduceEqDiff, Nat.reduceAdd, Nat.reduceSub, Int.reduceTDiv, Int.reduceTMod, ge_iff_le, Int.reduceGE, Nat.reducePow, Int.reduceEq, Int.reduceNeg, Int.reduceLE, Int.reducePow, Int.reduceLT, Int.reduceSub, Int.reduceAdd, Int.reduceMul, Int.reduceToNat, Option.map_some, ↓reduceIte, ite_not, beq_iff_eq, bne_iff_ne, ne_eq, beq_self_eq_true, beq_eq_false_iff_ne, bne_eq_false_iff_eq, resAll, resL, resV, reduceCtorEq, Option.some.injEq, exists_eq_left', blkAt, Nat.reduceLeDiff, Nat.reduceMul, eq_self, Nat.reduceLT, undef, fillV, evParts, footOp, wrOp, chk, disj, Nat.reduceBEq] | split))
            exact hJ _ _ _ _ _ (by omega) ⟨2 + 1, by omega, (by intro j hj; rcases (by omega : j < 2 ∨ j = 2) with h | h; exact hP j h; subst h; exact hz), rfl, rfl, rfl⟩ (by refine .ren _ _ _ [0] (by decide) (by intro k h; first | exact absurd h (Nat.not_lt_zero k) | (simp at h; done) | (match k, h with | 0, _ => rfl)) ?_ ?_ <;> simp [KeepS, KeepH, ArgRel, ArgRelL, argL_cl, arg_cl, row_l_of, row_l_nil, bn_len, blkAt])
    ·   have c6 : IntKind.i32.wrap 1785 = 1785 := rfl
        by_cases hz : inZ r 1776
        · obtain ⟨e1, e2⟩ := digB_in r 1776 (.inr (.inr (.inr rfl))) hz
          obtain ⟨c1, c2⟩ := hz
          have c2 : r ≤ 1785 := by omega
          rw [e1, decide_eq_true e2]
          have c3 : IntKind.i32.wrap (48 + r) = 48 + r := IntWalk.i32_in _ ⟨by omega, by omega⟩
          have c4 : IntKind.i32.wrap (48 + r - 1776) = 48 + r - 1776 := IntWalk.i32_in _ ⟨by omega, by omega⟩
          have c5 : IntKind.u8.wrap (48 + r - 1776) = 48 + r - 1776 := IntWalk.u8_in _ ⟨by omega, by omega⟩
          (repeat' (first | simp (maxSteps := 2000000) -implicitDefEqProofs only [A_pin_digit_L0, c1, c2, c3, c4, c5, c6, lr, lr2, oO, oN, oG, oNG, oM, oF, oL, rg, ci, Nat.reduceEqDiff, Nat.reduceAdd, Nat.reduceSub, Int.reduceTDiv, Int.reduceTMod, ge_iff_le, Int.reduceGE, Nat.reducePow, Int.reduceEq, Int.reduceNeg, Int.reduceLE, Int.reducePow, Int.reduceLT, Int.reduceSub, Int.reduceAdd, Int.reduceMul, Int.reduceToNat, Option.map_some, ↓reduceIte, ite_not, beq_iff_eq, bne_iff_ne, ne_eq, beq_self_eq_true, beq_eq_false_iff_ne, bne_eq_false_iff_eq, resAll, resL, resV, reduceCtorEq, Option.some.injEq, exists_eq_left', blkAt, Nat.reduceLeDiff, Nat.reduceMul, eq_self, Nat.reduceLT, undef, fillV, evParts, footOp, wrOp, chk, disj, Nat.reduceBEq] | split))
          all_goals (refine out_eq rfl cl)
        · rcases (by unfold inZ at hz; omega : ¬ 1776 ≤ r ∨ (1776 ≤ r ∧ ¬ r ≤ 1785)) with c1 | ⟨c1, c2⟩
          · (repeat' (first | simp (maxSteps := 2000000) -implicitDefEqProofs only [A_pin_digit_L0, c1, lr, lr2, oO, oN, oG, oNG, oM, oF, oL, rg, ci, Nat.reduceEqDiff, Nat.reduceAdd, Nat.reduceSub, Int.reduceTDiv, Int.reduceTMod, ge_iff_le, Int.reduceGE, Nat.reducePow, Int.reduceEq, Int.reduceNeg, Int.reduceLE, Int.reducePow, Int.reduceLT, Int.reduceSub, Int.reduceAdd, Int.reduceMul, Int.reduceToNat, Option.map_some, ↓reduceIte, ite_not, beq_iff_eq, bne_iff_ne, ne_eq, beq_self_eq_true, beq_eq_false_iff_ne, bne_eq_false_iff_eq, resAll, resL, resV, reduceCtorEq, Option.some.injEq, exists_eq_left', blkAt, Nat.reduceLeDiff, Nat.reduceMul, eq_self, Nat.reduceLT, undef, fillV, evParts, footOp, wrOp, chk, disj, Nat.reduceBEq] | split))
            exact hJ _ _ _ _ _ (by omega) ⟨3 + 1, by omega, (by intro j hj; rcases (by omega : j < 3 ∨ j = 3) with h | h; exact hP j h; subst h; exact hz), rfl, rfl, rfl⟩ (by refine .ren _ _ _ [0] (by decide) (by intro k h; first | exact absurd h (Nat.not_lt_zero k) | (simp at h; done) | (match k, h with | 0, _ => rfl)) ?_ ?_ <;> simp [KeepS, KeepH, ArgRel, ArgRelL, argL_cl, arg_cl, row_l_of, row_l_nil, bn_len, blkAt])
          · (repeat' (first | simp (maxSteps := 2000000) -implicitDefEqProofs only [A_pin_digit_L0, c1, c2, c6, lr, lr2, oO, oN, oG, oNG, oM, oF, oL, rg, ci, Nat.reduceEqDiff, Nat.reduceAdd, Nat.reduceSub, Int.reduceTDiv, Int.reduceTMod, ge_iff_le, Int.reduceGE, Nat.reducePow, Int.reduceEq, Int.reduceNeg, Int.reduceLE, Int.reducePow, Int.reduceLT, Int.reduceSub, Int.reduceAdd, Int.reduceMul, Int.reduceToNat, Option.map_some, ↓reduceIte, ite_not, beq_iff_eq, bne_iff_ne, ne_eq, beq_self_eq_true, beq_eq_false_iff_ne, bne_eq_false_iff_eq, resAll, resL, resV, reduceCtorEq, Option.some.injEq, exists_eq_left', blkAt, Nat.reduceLeDiff, Nat.reduceMul, eq_self, Nat.reduceLT, undef, fillV, evParts, footOp, wrOp, chk, disj, Nat.reduceBEq] | split))
            exact hJ _ _ _ _ _ (by omega) ⟨3 + 1, by omega, (by intro j hj; rcases (by omega : j < 3 ∨ j = 3) with h | h; exact hP j h; subst h; exact hz), rfl, rfl, rfl⟩ (by refine .ren _ _ _ [0] (by decide) (by intro k h; first | exact absurd h (Nat.not_lt_zero k) | (simp at h; done) | (match k, h with | 0, _ => rfl)) ?_ ?_ <;> simp [KeepS, KeepH, ArgRel, ArgRelL, argL_cl, arg_cl, row_l_of, row_l_nil, bn_len, blkAt])
  · obtain rfl : i = 4 := by omega
    have hn := dig_none r ⟨hP 0 (by omega), hP 1 (by omega), hP 2 (by omega), hP 3 (by omega)⟩
    have e1 : digB r = 0 := by unfold digB; rw [if_neg (by omega)]
    rw [e1, decide_eq_false (by omega)]
    (repeat' (first | simp (maxSteps := 2000000) -implicitDefEqProofs only [A_pin_digit_L0, K_pin_digit_L0, lr, lr2, oO, oN, oG, oNG, oM, oF, oL, rg, ci, Nat.reduceEqDiff, Nat.reduceAdd, Nat.reduceSub, Int.reduceTDiv, Int.reduceTMod, ge_iff_le, Int.reduceGE, Nat.reducePow, Int.reduceEq, Int.reduceNeg, Int.reduceLE, Int.reducePow, Int.reduceLT, Int.reduceSub, Int.reduceAdd, Int.reduceMul, Int.reduceToNat, Option.map_some, ↓reduceIte, ite_not, beq_iff_eq, bne_iff_ne, ne_eq, beq_self_eq_true, beq_eq_false_iff_ne, bne_eq_false_iff_eq, resAll, resL, resV, reduceCtorEq, Option.some.injEq, exists_eq_left', blkAt, Nat.reduceLeDiff, Nat.reduceMul, eq_self, Nat.reduceLT, undef, fillV, evParts, footOp, wrOp, chk, disj, Nat.reduceBEq] | split))
    all_goals (refine out_eq rfl cl)
set_option maxHeartbeats 4000000 in
theorem rdigit_C (r : Int) : C Try.prog 161 [vi .i32 r] [] (vi .i64 (pinDig r)) [] := by
  refine C_of mixed Try.func161 A_clavigerref1_Digit_ok A_clavigerref1_Digit_res _ A_clavigerref1_Digit_nt ?_
  have hc : (r = 32) ∨ (r = 45) ∨ (r < 48 ∧ r ≠ 32 ∧ r ≠ 45) ∨ (48 ≤ r ∧ r ≤ 57) ∨ (r = 160) ∨ (57 < r ∧ r < 1632 ∧ r ≠ 160) ∨ (1632 ≤ r ∧ r ≤ 1641) ∨ (1641 < r ∧ r < 1776) ∨ (1776 ≤ r ∧ r ≤ 1785) ∨ (1785 < r ∧ r < 65296) ∨ (65296 ≤ r ∧ r ≤ 65305) ∨ (65305 < r) := by omega
  rcases hc with hc | hc | hc | hc | hc | hc | hc | hc | hc | hc | hc | hc
  · subst hc
    (repeat' (first | simp (maxSteps := 2000000) -implicitDefEqProofs only [A_clavigerref1_Digit, lr, lr2, oO, oN, oG, oNG, oM, oF, oL, rg, ci, Nat.reduceEqDiff, Nat.reduceAdd, Nat.reduceSub, Int.reduceTDiv, Int.reduceTMod, ge_iff_le, Int.reduceGE, Nat.reducePow, Int.reduceEq, Int.reduceNeg, Int.reduceLE, Int.reducePow, Int.reduceLT, Int.reduceSub, Int.reduceAdd, Int.reduceMul, Int.reduceToNat, Option.map_some, ↓reduceIte, ite_not, beq_iff_eq, bne_iff_ne, ne_eq, beq_self_eq_true, beq_eq_false_iff_ne, bne_eq_false_iff_eq, resAll, resL, resV, reduceCtorEq, Option.some.injEq, exists_eq_left', blkAt, Nat.reduceLeDiff, Nat.reduceMul, eq_self, Nat.reduceLT, undef, fillV, evParts, footOp, wrOp, chk, disj, Nat.reduceBEq] | split))
    all_goals (refine out_eq rfl cl)
  · subst hc
    (repeat' (first | simp (maxSteps := 2000000) -implicitDefEqProofs only [A_clavigerref1_Digit, lr, lr2, oO, oN, oG, oNG, oM, oF, oL, rg, ci, Nat.reduceEqDiff, Nat.reduceAdd, Nat.reduceSub, Int.reduceTDiv, Int.reduceTMod, ge_iff_le, Int.reduceGE, Nat.reducePow, Int.reduceEq, Int.reduceNeg, Int.reduceLE, Int.reducePow, Int.reduceLT, Int.reduceSub, Int.reduceAdd, Int.reduceMul, Int.reduceToNat, Option.map_some, ↓reduceIte, ite_not, beq_iff_eq, bne_iff_ne, ne_eq, beq_self_eq_true, beq_eq_false_iff_ne, bne_eq_false_iff_eq, resAll, resL, resV, reduceCtorEq, Option.some.injEq, exists_eq_left', blkAt, Nat.reduceLeDiff, Nat.reduceMul, eq_self, Nat.reduceLT, undef, fillV, evParts, footOp, wrOp, chk, disj, Nat.reduceBEq] | split))
    all_goals (refine out_eq rfl cl)
  · have a0 : ¬ 48 ≤ r := by omega
    have a1 : r ≤ 57 := by omega
    have a2 : ¬ 65296 ≤ r := by omega
    have a3 : r ≤ 65305 := by omega
    have a4 : ¬ 1632 ≤ r := by omega
    have a5 : r ≤ 1641 := by omega
    have a6 : ¬ 1776 ≤ r := by omega
    have a7 : r ≤ 1785 := by omega
    have a8 : ¬ r = 32 := by omega
    have a9 : ¬ r = 45 := by omega
    have a10 : ¬ r = 160 := by omega
    have e : pinDig r = -1 := by unfold pinDig; (repeat' split) <;> omega
    rw [e]
    (repeat' (first | simp (maxSteps := 2000000) -implicitDefEqProofs only [A_clavigerref1_Digit, a0, a1, a2, a3, a4, a5, a6, a7, a8, a9, a10, lr, lr2, oO, oN, oG, oNG, oM, oF, oL, rg, ci, Nat.reduceEqDiff, Nat.reduceAdd, Nat.reduceSub, Int.reduceTDiv, Int.reduceTMod, ge_iff_le, Int.reduceGE, Nat.reducePow, Int.reduceEq, Int.reduceNeg, Int.reduceLE, Int.reducePow, Int.reduceLT, Int.reduceSub, Int.reduceAdd, Int.reduceMul, Int.reduceToNat, Option.map_some, ↓reduceIte, ite_not, beq_iff_eq, bne_iff_ne, ne_eq, beq_self_eq_true, beq_eq_false_iff_ne, bne_eq_false_iff_eq, resAll, resL, resV, reduceCtorEq, Option.some.injEq, exists_eq_left', blkAt, Nat.reduceLeDiff, Nat.reduceMul, eq_self, Nat.reduceLT, undef, fillV, evParts, footOp, wrOp, chk, disj, Nat.reduceBEq] | split))
    all_goals (refine out_eq rfl cl)
  · have a0 : 48 ≤ r := by omega
    have a1 : r ≤ 57 := by omega
    have a2 : ¬ 65296 ≤ r := by omega
    have a3 : r ≤ 65305 := by omega
    have a4 : ¬ 1632 ≤ r := by omega
    have a5 : r ≤ 1641 := by omega
    have a6 : ¬ 1776 ≤ r := by omega
    have a7 : r ≤ 1785 := by omega
    have a8 : ¬ r = 32 := by omega
    have a9 : ¬ r = 45 := by omega
    have a10 : ¬ r = 160 := by omega
    have w1 : IntKind.i32.wrap (r - 48) = r - 48 := IntWalk.i32_in _ ⟨by omega, by omega⟩
    have w2 : IntKind.i64.wrap (r - 48) = r - 48 := IntWalk.i64_in _ ⟨by omega, by omega⟩
    have e : pinDig r = r - 48 := by unfold pinDig; (repeat' split) <;> omega
    rw [e]
    (repeat' (first | simp (maxSteps := 2000000) -implicitDefEqProofs only [A_clavigerref1_Digit, a0, a1, a2, a3, a4, a5, a6, a7, a8, a9, a10, w1, w2, lr, lr2, oO, oN, oG, oNG, oM, oF, oL, rg, ci, Nat.reduceEqDiff, Nat.reduceAdd, Nat.reduceSub, Int.reduceTDiv, Int.reduceTMod, ge_iff_le, Int.reduceGE, Nat.reducePow, Int.reduceEq, Int.reduceNeg, Int.reduceLE, Int.reducePow, Int.reduceLT, Int.reduceSub, Int.reduceAdd, Int.reduceMul, Int.reduceToNat, Option.map_some, ↓reduceIte, ite_not, beq_iff_eq, bne_iff_ne, ne_eq, beq_self_eq_true, beq_eq_false_iff_ne, bne_eq_false_iff_eq, resAll, resL, resV, reduceCtorEq, Option.some.injEq, exists_eq_left', blkAt, Nat.reduceLeDiff, Nat.reduceMul, eq_self, Nat.reduceLT, undef, fillV, evParts, footOp, wrOp, chk, disj, Nat.reduceBEq] | split))
    all_goals (refine out_eq rfl cl)
  · subst hc
    (repeat' (first | simp (maxSteps := 2000000) -implicitDefEqProofs only [A_clavigerref1_Digit, lr, lr2, oO, oN, oG, oNG, oM, oF, oL, rg, ci, Nat.reduceEqDiff, Nat.reduceAdd, Nat.reduceSub, Int.reduceTDiv, Int.reduceTMod, ge_iff_le, Int.reduceGE, Nat.reducePow, Int.reduceEq, Int.reduceNeg, Int.reduceLE, Int.reducePow, Int.reduceLT, Int.reduceSub, Int.reduceAdd, Int.reduceMul, Int.reduceToNat, Option.map_some, ↓reduceIte, ite_not, beq_iff_eq, bne_iff_ne, ne_eq, beq_self_eq_true, beq_eq_false_iff_ne, bne_eq_false_iff_eq, resAll, resL, resV, reduceCtorEq, Option.some.injEq, exists_eq_left', blkAt, Nat.reduceLeDiff, Nat.reduceMul, eq_self, Nat.reduceLT, undef, fillV, evParts, footOp, wrOp, chk, disj, Nat.reduceBEq] | split))
    all_goals (refine out_eq rfl cl)
  · have a0 : 48 ≤ r := by omega
    have a1 : ¬ r ≤ 57 := by omega
    have a2 : ¬ 65296 ≤ r := by omega
    have a3 : r ≤ 65305 := by omega
    have a4 : ¬ 1632 ≤ r := by omega
    have a5 : r ≤ 1641 := by omega
    have a6 : ¬ 1776 ≤ r := by omega
    have a7 : r ≤ 1785 := by omega
    have a8 : ¬ r = 32 := by omega
    have a9 : ¬ r = 45 := by omega
    have a10 : ¬ r = 160 := by omega
    have e : pinDig r = -1 := by unfold pinDig; (repeat' split) <;> omega
    rw [e]
    (repeat' (first | simp (maxSteps := 2000000) -implicitDefEqProofs only [A_clavigerref1_Digit, a0, a1, a2, a3, a4, a5, a6, a7, a8, a9, a10, lr, lr2, oO, oN, oG, oNG, oM, oF, oL, rg, ci, Nat.reduceEqDiff, Nat.reduceAdd, Nat.reduceSub, Int.reduceTDiv, Int.reduceTMod, ge_iff_le, Int.reduceGE, Nat.reducePow, Int.reduceEq, Int.reduceNeg, Int.reduceLE, Int.reducePow, Int.reduceLT, Int.reduceSub, Int.reduceAdd, Int.reduceMul, Int.reduceToNat, Option.map_some, ↓reduceIte, ite_not, beq_iff_eq, bne_iff_ne, ne_eq, beq_self_eq_true, beq_eq_false_iff_ne, bne_eq_false_iff_eq, resAll, resL, resV, reduceCtorEq, Option.some.injEq, exists_eq_left', blkAt, Nat.reduceLeDiff, Nat.reduceMul, eq_self, Nat.reduceLT, undef, fillV, evParts, footOp, wrOp, chk, disj, Nat.reduceBEq] | split))
    all_goals (refine out_eq rfl cl)
  · have a0 : 48 ≤ r := by omega
    have a1 : ¬ r ≤ 57 := by omega
    have a2 : ¬ 65296 ≤ r := by omega
    have a3 : r ≤ 65305 := by omega
    have a4 : 1632 ≤ r := by omega
    have a5 : r ≤ 1641 := by omega
    have a6 : ¬ 1776 ≤ r := by omega
    have a7 : r ≤ 1785 := by omega
    have a8 : ¬ r = 32 := by omega
    have a9 : ¬ r = 45 := by omega
    have a10 : ¬ r = 160 := by omega
    have w1 : IntKind.i32.wrap (r - 1632) = r - 1632 := IntWalk.i32_in _ ⟨by omega, by omega⟩
    have w2 : IntKind.i64.wrap (r - 1632) = r - 1632 := IntWalk.i64_in _ ⟨by omega, by omega⟩
    have e : pinDig r = r - 1632 := by unfold pinDig; (repeat' split) <;> omega
    rw [e]
    (repeat' (first | simp (maxSteps := 2000000) -implicitDefEqProofs only [A_clavigerref1_Digit, a0, a1, a2, a3, a4, a5, a6, a7, a8, a9, a10, w1, w2, lr, lr2, oO, oN, oG, oNG, oM, oF, oL, rg, ci, Nat.reduceEqDiff, Nat.reduceAdd, Nat.reduceSub, Int.reduceTDiv, Int.reduceTMod, ge_iff_le, Int.reduceGE, Nat.reducePow, Int.reduceEq, Int.reduceNeg, Int.reduceLE, Int.reducePow, Int.reduceLT, Int.reduceSub, Int.reduceAdd, Int.reduceMul, Int.reduceToNat, Option.map_some, ↓reduceIte, ite_not, beq_iff_eq, bne_iff_ne, ne_eq, beq_self_eq_true, beq_eq_false_iff_ne, bne_eq_false_iff_eq, resAll, resL, resV, reduceCtorEq, Option.some.injEq, exists_eq_left', blkAt, Nat.reduceLeDiff, Nat.reduceMul, eq_self, Nat.reduceLT, undef, fillV, evParts, footOp, wrOp, chk, disj, Nat.reduceBEq] | split))
    all_goals (refine out_eq rfl cl)
  · have a0 : 48 ≤ r := by omega
    have a1 : ¬ r ≤ 57 := by omega
    have a2 : ¬ 65296 ≤ r := by omega
    have a3 : r ≤ 65305 := by omega
    have a4 : 1632 ≤ r := by omega
    have a5 : ¬ r ≤ 1641 := by omega
    have a6 : ¬ 1776 ≤ r := by omega
    have a7 : r ≤ 1785 := by omega
    have a8 : ¬ r = 32 := by omega
    have a9 : ¬ r = 45 := by omega
    have a10 : ¬ r = 160 := by omega
    have e : pinDig r = -1 := by unfold pinDig; (repeat' split) <;> omega
    rw [e]
    (repeat' (first | simp (maxSteps := 2000000) -implicitDefEqProofs only [A_clavigerref1_Digit, a0, a1, a2, a3, a4, a5, a6, a7, a8, a9, a10, lr, lr2, oO, oN, oG, oNG, oM, oF, oL, rg, ci, Nat.reduceEqDiff, Nat.reduceAdd, Nat.reduceSub, Int.reduceTDiv, Int.reduceTMod, ge_iff_le, Int.reduceGE, Nat.reducePow, Int.reduceEq, Int.reduceNeg, Int.reduceLE, Int.reducePow, Int.reduceLT, Int.reduceSub, Int.reduceAdd, Int.reduceMul, Int.reduceToNat, Option.map_some, ↓reduceIte, ite_not, beq_iff_eq, bne_iff_ne, ne_eq, beq_self_eq_true, beq_eq_false_iff_ne, bne_eq_false_iff_eq, resAll, resL, resV, reduceCtorEq, Option.some.injEq, exists_eq_left', blkAt, Nat.reduceLeDiff, Nat.reduceMul, eq_self, Nat.reduceLT, undef, fillV, evParts, footOp, wrOp, chk, disj, Nat.reduceBEq] | split))
    all_goals (refine out_eq rfl cl)
  · have a0 : 48 ≤ r := by omega
    have a1 : ¬ r ≤ 57 := by omega
    have a2 : ¬ 65296 ≤ r := by omega
    have a3 : r ≤ 65305 := by omega
    have a4 : 1632 ≤ r := by omega
    have a5 : ¬ r ≤ 1641 := by omega
    have a6 : 1776 ≤ r := by omega
    have a7 : r ≤ 1785 := by omega
    have a8 : ¬ r = 32 := by omega
    have a9 : ¬ r = 45 := by omega
    have a10 : ¬ r = 160 := by omega
    have w1 : IntKind.i32.wrap (r - 1776) = r - 1776 := IntWalk.i32_in _ ⟨by omega, by omega⟩
    have w2 : IntKind.i64.wrap (r - 1776) = r - 1776 := IntWalk.i64_in _ ⟨by omega, by omega⟩
    have e : pinDig r = r - 1776 := by unfold pinDig; (repeat' split) <;> omega
    rw [e]
    (repeat' (first | simp (maxSteps := 2000000) -implicitDefEqProofs only [A_clavigerref1_Digit, a0, a1, a2, a3, a4, a5, a6, a7, a8, a9, a10, w1, w2, lr, lr2, oO, oN, oG, oNG, oM, oF, oL, rg, ci, Nat.reduceEqDiff, Nat.reduceAdd, Nat.reduceSub, Int.reduceTDiv, Int.reduceTMod, ge_iff_le, Int.reduceGE, Nat.reducePow, Int.reduceEq, Int.reduceNeg, Int.reduceLE, Int.reducePow, Int.reduceLT, Int.reduceSub, Int.reduceAdd, Int.reduceMul, Int.reduceToNat, Option.map_some, ↓reduceIte, ite_not, beq_iff_eq, bne_iff_ne, ne_eq, beq_self_eq_true, beq_eq_false_iff_ne, bne_eq_false_iff_eq, resAll, resL, resV, reduceCtorEq, Option.some.injEq, exists_eq_left', blkAt, Nat.reduceLeDiff, Nat.reduceMul, eq_self, Nat.reduceLT, undef, fillV, evParts, footOp, wrOp, chk, disj, Nat.reduceBEq] | split))
    all_goals (refine out_eq rfl cl)
  · have a0 : 48 ≤ r := by omega
    have a1 : ¬ r ≤ 57 := by omega
    have a2 : ¬ 65296 ≤ r := by omega
    have a3 : r ≤ 65305 := by omega
    have a4 : 1632 ≤ r := by omega
    have a5 : ¬ r ≤ 1641 := by omega
    have a6 : 1776 ≤ r := by omega
    have a7 : ¬ r ≤ 1785 := by omega
    have a8 : ¬ r = 32 := by omega
    have a9 : ¬ r = 45 := by omega
    have a10 : ¬ r = 160 := by omega
    have e : pinDig r = -1 := by unfold pinDig; (repeat' split) <;> omega
    rw [e]
    (repeat' (first | simp (maxSteps := 2000000) -implicitDefEqProofs only [A_clavigerref1_Digit, a0, a1, a2, a3, a4, a5, a6, a7, a8, a9, a10, lr, lr2, oO, oN, oG, oNG, oM, oF, oL, rg, ci, Nat.reduceEqDiff, Nat.reduceAdd, Nat.reduceSub, Int.reduceTDiv, Int.reduceTMod, ge_iff_le, Int.reduceGE, Nat.reducePow, Int.reduceEq, Int.reduceNeg, Int.reduceLE, Int.reducePow, Int.reduceLT, Int.reduceSub, Int.reduceAdd, Int.reduceMul, Int.reduceToNat, Option.map_some, ↓reduceIte, ite_not, beq_iff_eq, bne_iff_ne, ne_eq, beq_self_eq_true, beq_eq_false_iff_ne, bne_eq_false_iff_eq, resAll, resL, resV, reduceCtorEq, Option.some.injEq, exists_eq_left', blkAt, Nat.reduceLeDiff, Nat.reduceMul, eq_self, Nat.reduceLT, undef, fillV, evParts, footOp, wrOp, chk, disj, Nat.reduceBEq] | split))
    all_goals (refine out_eq rfl cl)
  · have a0 : 48 ≤ r := by omega
    have a1 : ¬ r ≤ 57 := by omega
    have a2 : 65296 ≤ r := by omega
    have a3 : r ≤ 65305 := by omega
    have a4 : 1632 ≤ r := by omega
    have a5 : ¬ r ≤ 1641 := by omega
    have a6 : 1776 ≤ r := by omega
    have a7 : ¬ r ≤ 1785 := by omega
    have a8 : ¬ r = 32 := by omega
    have a9 : ¬ r = 45 := by omega
    have a10 : ¬ r = 160 := by omega
    have w1 : IntKind.i32.wrap (r - 65296) = r - 65296 := IntWalk.i32_in _ ⟨by omega, by omega⟩
    have w2 : IntKind.i64.wrap (r - 65296) = r - 65296 := IntWalk.i64_in _ ⟨by omega, by omega⟩
    have e : pinDig r = r - 65296 := by unfold pinDig; (repeat' split) <;> omega
    rw [e]
    (repeat' (first | simp (maxSteps := 2000000) -implicitDefEqProofs only [A_clavigerref1_Digit, a0, a1, a2, a3, a4, a5, a6, a7, a8, a9, a10, w1, w2, lr, lr2, oO, oN, oG, oNG, oM, oF, oL, rg, ci, Nat.reduceEqDiff, Nat.reduceAdd, Nat.reduceSub, Int.reduceTDiv, Int.reduceTMod, ge_iff_le, Int.reduceGE, Nat.reducePow, Int.reduceEq, Int.reduceNeg, Int.reduceLE, Int.reducePow, Int.reduceLT, Int.reduceSub, Int.reduceAdd, Int.reduceMul, Int.reduceToNat, Option.map_some, ↓reduceIte, ite_not, beq_iff_eq, bne_iff_ne, ne_eq, beq_self_eq_true, beq_eq_false_iff_ne, bne_eq_false_iff_eq, resAll, resL, resV, reduceCtorEq, Option.some.injEq, exists_eq_left', blkAt, Nat.reduceLeDiff, Nat.reduceMul, eq_self, Nat.reduceLT, undef, fillV, evParts, footOp, wrOp, chk, disj, Nat.reduceBEq] | split))
    all_goals (refine out_eq rfl cl)
  · have a0 : 48 ≤ r := by omega
    have a1 : ¬ r ≤ 57 := by omega
    have a2 : 65296 ≤ r := by omega
    have a3 : ¬ r ≤ 65305 := by omega
    have a4 : 1632 ≤ r := by omega
    have a5 : ¬ r ≤ 1641 := by omega
    have a6 : 1776 ≤ r := by omega
    have a7 : ¬ r ≤ 1785 := by omega
    have a8 : ¬ r = 32 := by omega
    have a9 : ¬ r = 45 := by omega
    have a10 : ¬ r = 160 := by omega
    have e : pinDig r = -1 := by unfold pinDig; (repeat' split) <;> omega
    rw [e]
    (repeat' (first | simp (maxSteps := 2000000) -implicitDefEqProofs only [A_clavigerref1_Digit, a0, a1, a2, a3, a4, a5, a6, a7, a8, a9, a10, lr, lr2, oO, oN, oG, oNG, oM, oF, oL, rg, ci, Nat.reduceEqDiff, Nat.reduceAdd, Nat.reduceSub, Int.reduceTDiv, Int.reduceTMod, ge_iff_le, Int.reduceGE, Nat.reducePow, Int.reduceEq, Int.reduceNeg, Int.reduceLE, Int.reducePow, Int.reduceLT, Int.reduceSub, Int.reduceAdd, Int.reduceMul, Int.reduceToNat, Option.map_some, ↓reduceIte, ite_not, beq_iff_eq, bne_iff_ne, ne_eq, beq_self_eq_true, beq_eq_false_iff_ne, bne_eq_false_iff_eq, resAll, resL, resV, reduceCtorEq, Option.some.injEq, exists_eq_left', blkAt, Nat.reduceLeDiff, Nat.reduceMul, eq_self, Nat.reduceLT, undef, fillV, evParts, footOp, wrOp, chk, disj, Nat.reduceBEq] | split))
    all_goals (refine out_eq rfl cl)
def dg8 (r : Int) : UInt8 := if 0 ≤ pinDig r then UInt8.ofNat (48 + (pinDig r).toNat) else 0
theorem pinDig_le (r : Int) : pinDig r ≤ 9 := by unfold pinDig; (repeat' split) <;> omega
theorem pinDig_ge (r : Int) : -2 ≤ pinDig r := by unfold pinDig; (repeat' split) <;> omega
theorem dg8_eq (r : Int) : digB r = ((dg8 r).toNat : Int) := by
  have := pinDig_le r
  unfold digB dg8
  by_cases h : 0 ≤ pinDig r
  · rw [if_pos h, if_pos h, u8n _ (by omega)]; omega
  · rw [if_neg h, if_neg h]; rfl
theorem digit8_C (r : Int) : C Try.prog 166 [vi .i32 r] [] (.tup [vi .u8 ((dg8 r).toNat : Int), vb (decide (0 ≤ pinDig r))]) [] := by
  rw [← dg8_eq]; exact digit_C r
theorem skip_iff (r : Int) : pinDig r = -2 ↔ r = 32 ∨ r = 45 ∨ r = 160 := by
  unfold pinDig
  (repeat' split) <;> omega
theorem normGo_S (r : Int) (rs : List Int) (acc : List UInt8) : normGo (r :: rs) acc = if pinDig r = -2 then normGo rs acc else if pinDig r = -1 then none else normGo rs (acc ++ [dg8 r]) := by
  rw [normGo]
  by_cases h1 : pinDig r = -2
  · rw [if_pos h1, if_pos h1]
  by_cases h2 : pinDig r = -1
  · rw [if_neg h1, if_neg h1, if_pos h2, if_pos h2]
  · have := pinDig_ge r
    rw [if_neg h1, if_neg h1, if_neg h2, if_neg h2, dg8, if_pos (by omega)]
def normR (l : List UInt8) : V := .tup [st ((normF l).getD []), vb (normF l).isSome]
theorem normR_none (l : List UInt8) (h : normGo (runesA ⟨l.toArray⟩ 0) [] = none) : normR l = .tup [st [], vb false] := by
  unfold normR normF normL; rw [h]; rfl
theorem normR_out (l acc : List UInt8) (h : normGo (runesA ⟨l.toArray⟩ 0) [] = some acc) (hl : ¬ (4 ≤ acc.length ∧ acc.length ≤ 12)) : normR l = .tup [st [], vb false] := by
  unfold normR normF normL; rw [h]; simp only [if_neg hl]; rfl
theorem normR_in (l acc : List UInt8) (h : normGo (runesA ⟨l.toArray⟩ 0) [] = some acc) (hl : 4 ≤ acc.length ∧ acc.length ≤ 12) : normR l = .tup [st acc, vb true] := by
  unfold normR normF normL; rw [h]; simp only [if_pos hl]; rfl
theorem st_len2 (l : List UInt8) (x : UInt8) : (l ++ [x]).length = l.length + 1 := by simp
set_option maxHeartbeats 4000000 in
theorem normal_C (l : List UInt8) (hl : l.length ≤ 1000000) : C Try.prog 91 [st l] [] (normR l) [] := by
  refine C_range mixed Try.func91 R_pin_Normal_ok R_pin_Normal_res 45 R_pin_Normal_nt (s := ⟨l.toArray⟩) (fun b pos S H => ∃ acc : List UInt8, acc.length ≤ pos ∧ normGo (runesA ⟨l.toArray⟩ pos) acc = normGo (runesA ⟨l.toArray⟩ 0) [] ∧
    (acc = [] ∧ S = (st l :: .dead :: st [] :: vb false :: vnil :: .dead :: .dead :: .dead :: .dead :: .dead :: ptrV b :: .dead :: .dead :: .dead :: .dead :: .dead :: .dead :: .dead :: .dead :: .dead :: .dead :: .dead :: .dead :: .dead :: .dead :: .dead :: .dead :: .dead :: .dead :: .dead :: .dead :: .dead :: .dead :: .dead :: .dead :: .dead :: .dead :: .dead :: .dead :: .dead :: .dead :: .dead :: .dead :: .dead :: .dead :: []) ∧ H = [] ∨ 0 < acc.length ∧ S = (st l :: .dead :: st [] :: vb false :: .sref 0 0 acc.length 1 :: .dead :: .dead :: .dead :: .dead :: .dead :: ptrV b :: .dead :: .dead :: .dead :: .dead :: .dead :: .dead :: .dead :: .dead :: .dead :: .dead :: .dead :: .dead :: .dead :: .dead :: .dead :: .dead :: .dead :: .dead :: .dead :: .dead :: .dead :: .dead :: .dead :: .dead :: .dead :: .dead :: .dead :: .dead :: .dead :: .dead :: .dead :: .dead :: .dead :: .dead :: []) ∧ H = [some (bs acc)])) ?_ ?_ ?_ ?_
  · refine wpA_of fun Q hQ => ?_
    (repeat' (first | simp (maxSteps := 2000000) -implicitDefEqProofs only [P0_pin_Normal, lr, lr2, oO, oN, oG, oNG, oM, oF, oL, rg, ci, Nat.reduceEqDiff, Nat.reduceAdd, Nat.reduceSub, Int.reduceTDiv, Int.reduceTMod, ge_iff_le, Int.reduceGE, Nat.reducePow, Int.reduceEq, Int.reduceNeg, Int.reduceLE, Int.reducePow, Int.reduceLT, Int.reduceSub, Int.reduceAdd, Int.reduceMul, Int.reduceToNat, Option.map_some, ↓reduceIte, ite_not, beq_iff_eq, bne_iff_ne, ne_eq, beq_self_eq_true, beq_eq_false_iff_ne, bne_eq_false_iff_eq, resAll, resL, resV, reduceCtorEq, Option.some.injEq, exists_eq_left', blkAt, Nat.reduceLeDiff, Nat.reduceMul, eq_self, Nat.reduceLT, undef, fillV, evParts, footOp, wrOp, chk, disj, Nat.reduceBEq] | split))
    refine hQ _ _ _ ⟨rfl, wpA_of fun Q hQ => ?_⟩
    (repeat' (first | simp (maxSteps := 2000000) -implicitDefEqProofs only [P1_pin_Normal, lr, lr2, oO, oN, oG, oNG, oM, oF, oL, rg, ci, Nat.reduceEqDiff, Nat.reduceAdd, Nat.reduceSub, Int.reduceTDiv, Int.reduceTMod, ge_iff_le, Int.reduceGE, Nat.reducePow, Int.reduceEq, Int.reduceNeg, Int.reduceLE, Int.reducePow, Int.reduceLT, Int.reduceSub, Int.reduceAdd, Int.reduceMul, Int.reduceToNat, Option.map_some, ↓reduceIte, ite_not, beq_iff_eq, bne_iff_ne, ne_eq, beq_self_eq_true, beq_eq_false_iff_ne, bne_eq_false_iff_eq, resAll, resL, resV, reduceCtorEq, Option.some.injEq, exists_eq_left', blkAt, Nat.reduceLeDiff, Nat.reduceMul, eq_self, Nat.reduceLT, undef, fillV, evParts, footOp, wrOp, chk, disj, Nat.reduceBEq] | split))
    refine hQ _ _ _ ⟨rfl, rfl, Nat.lt_of_sub_pos (by decide : 0 < 45 - 9), fun b => ⟨⟨(st l :: .dead :: st [] :: vb false :: vnil :: .dead :: .dead :: .dead :: .dead :: .dead :: ptrV b :: .dead :: .dead :: .dead :: .dead :: .dead :: .dead :: .dead :: .dead :: .dead :: .dead :: .dead :: .dead :: .dead :: .dead :: .dead :: .dead :: .dead :: .dead :: .dead :: .dead :: .dead :: .dead :: .dead :: .dead :: .dead :: .dead :: .dead :: .dead :: .dead :: .dead :: .dead :: .dead :: .dead :: .dead :: []), []⟩, (by refine .ren _ _ _ [] (by decide) (by intro k h; first | exact absurd h (Nat.not_lt_zero k) | (simp at h; done) | (match k, h with | 0, _ => rfl)) ?_ ?_ <;> simp [KeepS, KeepH, ArgRel, ArgRelL, argL_cl, arg_cl, row_l_of, row_l_nil, bn_len, blkAt]), [], Nat.zero_le _, rfl, .inl ⟨rfl, rfl, rfl⟩⟩⟩
  · rintro b pos S H ⟨acc, _, _, ⟨_, rfl, rfl⟩ | ⟨_, rfl, rfl⟩⟩ <;> exact ⟨rfl, Nat.lt_of_sub_pos (by decide : 0 < 45 - 11), Nat.lt_of_sub_pos (by decide : 0 < 45 - 12)⟩
  · rintro b pos S H ⟨acc, ha, hn, hS⟩ hp
    have hsz : pos < l.length := by simpa [ByteArray.size] using hp
    have hw := width_pos ⟨l.toArray⟩ pos
    rw [runesA_step _ pos hp, normGo_S] at hn
    unfold nextV
    generalize ((Utf8.decode ⟨l.toArray⟩ pos).1 : Int) = r at *
    generalize (Utf8.decode ⟨l.toArray⟩ pos).2 = w at *
    by_cases h2 : pinDig r = -2
    · rw [if_pos h2] at hn
      rcases (skip_iff r).1 h2 with rfl | rfl | rfl
      all_goals (rcases hS with ⟨h0, rfl, rfl⟩ | ⟨h0, rfl, rfl⟩)
      all_goals (refine wpA_of fun Q hQ => ?_; (repeat' (first | simp (maxSteps := 2000000) -implicitDefEqProofs only [B_pin_Normal, lr, lr2, oO, oN, oG, oNG, oM, oF, oL, rg, ci, Nat.reduceEqDiff, Nat.reduceAdd, Nat.reduceSub, Int.reduceTDiv, Int.reduceTMod, ge_iff_le, Int.reduceGE, Nat.reducePow, Int.reduceEq, Int.reduceNeg, Int.reduceLE, Int.reducePow, Int.reduceLT, Int.reduceSub, Int.reduceAdd, Int.reduceMul, Int.reduceToNat, Option.map_some, ↓reduceIte, ite_not, beq_iff_eq, bne_iff_ne, ne_eq, beq_self_eq_true, beq_eq_false_iff_ne, bne_eq_false_iff_eq, resAll, resL, resV, reduceCtorEq, Option.some.injEq, exists_eq_left', blkAt, Nat.reduceLeDiff, Nat.reduceMul, eq_self, Nat.reduceLT, undef, fillV, evParts, footOp, wrOp, chk, disj, Nat.reduceBEq] | split)))
      all_goals first
        | exact hQ _ _ _ ⟨⟨(st l :: .dead :: st [] :: vb false :: vnil :: .dead :: .dead :: .dead :: .dead :: .dead :: ptrV b :: .dead :: .dead :: .dead :: .dead :: .dead :: .dead :: .dead :: .dead :: .dead :: .dead :: .dead :: .dead :: .dead :: .dead :: .dead :: .dead :: .dead :: .dead :: .dead :: .dead :: .dead :: .dead :: .dead :: .dead :: .dead :: .dead :: .dead :: .dead :: .dead :: .dead :: .dead :: .dead :: .dead :: .dead :: []), []⟩, (by refine .ren _ _ _ [] (by decide) (by intro k h; first | exact absurd h (Nat.not_lt_zero k) | (simp at h; done) | (match k, h with | 0, _ => rfl)) ?_ ?_ <;> simp [KeepS, KeepH, ArgRel, ArgRelL, argL_cl, arg_cl, row_l_of, row_l_nil, bn_len, blkAt]), acc, by omega, hn, .inl ⟨h0, rfl, rfl⟩⟩
        | exact hQ _ _ _ ⟨⟨(st l :: .dead :: st [] :: vb false :: .sref 0 0 acc.length 1 :: .dead :: .dead :: .dead :: .dead :: .dead :: ptrV b :: .dead :: .dead :: .dead :: .dead :: .dead :: .dead :: .dead :: .dead :: .dead :: .dead :: .dead :: .dead :: .dead :: .dead :: .dead :: .dead :: .dead :: .dead :: .dead :: .dead :: .dead :: .dead :: .dead :: .dead :: .dead :: .dead :: .dead :: .dead :: .dead :: .dead :: .dead :: .dead :: .dead :: .dead :: []), [some (bs acc)]⟩, (by refine .ren _ _ _ [0] (by decide) (by intro k h; first | exact absurd h (Nat.not_lt_zero k) | (simp at h; done) | (match k, h with | 0, _ => rfl)) ?_ ?_ <;> simp [KeepS, KeepH, ArgRel, ArgRelL, argL_cl, arg_cl, row_l_of, row_l_nil, bn_len, blkAt]), acc, by omega, hn, .inr ⟨h0, rfl, rfl⟩⟩
    · have n1 : ¬ r = 32 := fun h => h2 ((skip_iff r).2 (.inl h))
      have n2 : ¬ r = 45 := fun h => h2 ((skip_iff r).2 (.inr (.inl h)))
      have n3 : ¬ r = 160 := fun h => h2 ((skip_iff r).2 (.inr (.inr h)))
      rw [if_neg h2] at hn
      by_cases h1 : pinDig r = -1
      · rw [if_pos h1] at hn
        have hd : ¬ 0 ≤ pinDig r := by omega
        rw [normR_none l hn.symm]
        rcases hS with ⟨h0, rfl, rfl⟩ | ⟨h0, rfl, rfl⟩
        all_goals (refine wpA_of fun Q hQ => ?_; (repeat' (first | simp (maxSteps := 2000000) -implicitDefEqProofs only [B_pin_Normal, n1, n2, n3, hd, lr, lr2, oO, oN, oG, oNG, oM, oF, oL, rg, ci, Nat.reduceEqDiff, Nat.reduceAdd, Nat.reduceSub, Int.reduceTDiv, Int.reduceTMod, ge_iff_le, Int.reduceGE, Nat.reducePow, Int.reduceEq, Int.reduceNeg, Int.reduceLE, Int.reducePow, Int.reduceLT, Int.reduceSub, Int.reduceAdd, Int.reduceMul, Int.reduceToNat, Option.map_some, ↓reduceIte, ite_not, beq_iff_eq, bne_iff_ne, ne_eq, beq_self_eq_true, beq_eq_false_iff_ne, bne_eq_false_iff_eq, resAll, resL, resV, reduceCtorEq, Option.some.injEq, exists_eq_left', blkAt, Nat.reduceLeDiff, Nat.reduceMul, eq_self, Nat.reduceLT, undef, fillV, evParts, footOp, wrOp, chk, disj, Nat.reduceBEq] | split | ((first | apply ck_call | apply cfk_call); (first | (apply call_pure (digit8_C r) cll cl))))))
        all_goals (refine hQ _ _ _ ⟨_, rfl, out_eq rfl cl⟩)
      · rw [if_neg h1] at hn
        have hge := pinDig_ge r
        have hd : 0 ≤ pinDig r := by omega
        have e8 : by8 ((dg8 r).toNat : Int) = dg8 r := by8_nat (dg8 r)
        rcases hS with ⟨h0, rfl, rfl⟩ | ⟨h0, rfl, rfl⟩
        · rw [h0, List.nil_append] at hn
          refine wpA_of fun Q hQ => ?_
          (repeat' (first | simp (maxSteps := 2000000) -implicitDefEqProofs only [B_pin_Normal, n1, n2, n3, hd, e8, lr, lr2, oO, oN, oG, oNG, oM, oF, oL, rg, ci, Nat.reduceEqDiff, Nat.reduceAdd, Nat.reduceSub, Int.reduceTDiv, Int.reduceTMod, ge_iff_le, Int.reduceGE, Nat.reducePow, Int.reduceEq, Int.reduceNeg, Int.reduceLE, Int.reducePow, Int.reduceLT, Int.reduceSub, Int.reduceAdd, Int.reduceMul, Int.reduceToNat, Option.map_some, ↓reduceIte, ite_not, beq_iff_eq, bne_iff_ne, ne_eq, beq_self_eq_true, beq_eq_false_iff_ne, bne_eq_false_iff_eq, resAll, resL, resV, reduceCtorEq, Option.some.injEq, exists_eq_left', blkAt, Nat.reduceLeDiff, Nat.reduceMul, eq_self, Nat.reduceLT, undef, fillV, evParts, footOp, wrOp, chk, disj, Nat.reduceBEq] | split | ((first | apply ck_call | apply cfk_call); (first | (apply call_pure (digit8_C r) cll cl)))))
          exact hQ _ _ _ ⟨⟨(st l :: .dead :: st [] :: vb false :: .sref 0 0 ([dg8 r] : List UInt8).length 1 :: .dead :: .dead :: .dead :: .dead :: .dead :: ptrV b :: .dead :: .dead :: .dead :: .dead :: .dead :: .dead :: .dead :: .dead :: .dead :: .dead :: .dead :: .dead :: .dead :: .dead :: .dead :: .dead :: .dead :: .dead :: .dead :: .dead :: .dead :: .dead :: .dead :: .dead :: .dead :: .dead :: .dead :: .dead :: .dead :: .dead :: .dead :: .dead :: .dead :: .dead :: []), [some (bs [dg8 r])]⟩, (by refine .ren _ _ _ [1] (by decide) (by intro k h; first | exact absurd h (Nat.not_lt_zero k) | (simp at h; done) | (match k, h with | 0, _ => rfl)) ?_ ?_ <;> simp [KeepS, KeepH, ArgRel, ArgRelL, argL_cl, arg_cl, row_l_of, row_l_nil, bn_len, blkAt]), [dg8 r], by rw [List.length_singleton]; omega, hn, .inr ⟨by rw [List.length_singleton]; omega, rfl, rfl⟩⟩
        · have sm : Sm acc 1 := by unfold Sm; omega
          have hlen := st_len2 acc (dg8 r)
          refine wpA_of fun Q hQ => ?_
          (repeat' (first | simp (maxSteps := 2000000) -implicitDefEqProofs only [B_pin_Normal, n1, n2, n3, hd, sm, e8, lr, lr2, oO, oN, oG, oNG, oM, oF, oL, rg, ci, Nat.reduceEqDiff, Nat.reduceAdd, Nat.reduceSub, Int.reduceTDiv, Int.reduceTMod, ge_iff_le, Int.reduceGE, Nat.reducePow, Int.reduceEq, Int.reduceNeg, Int.reduceLE, Int.reducePow, Int.reduceLT, Int.reduceSub, Int.reduceAdd, Int.reduceMul, Int.reduceToNat, Option.map_some, ↓reduceIte, ite_not, beq_iff_eq, bne_iff_ne, ne_eq, beq_self_eq_true, beq_eq_false_iff_ne, bne_eq_false_iff_eq, resAll, resL, resV, reduceCtorEq, Option.some.injEq, exists_eq_left', blkAt, Nat.reduceLeDiff, Nat.reduceMul, eq_self, Nat.reduceLT, undef, fillV, evParts, footOp, wrOp, chk, disj, Nat.reduceBEq] | split | ((first | apply ck_call | apply cfk_call); (first | (apply call_pure (digit8_C r) cll cl)))))
          exact hQ _ _ _ ⟨⟨(st l :: .dead :: st [] :: vb false :: .sref 0 0 (acc ++ [dg8 r]).length 1 :: .dead :: .dead :: .dead :: .dead :: .dead :: ptrV b :: .dead :: .dead :: .dead :: .dead :: .dead :: .dead :: .dead :: .dead :: .dead :: .dead :: .dead :: .dead :: .dead :: .dead :: .dead :: .dead :: .dead :: .dead :: .dead :: .dead :: .dead :: .dead :: .dead :: .dead :: .dead :: .dead :: .dead :: .dead :: .dead :: .dead :: .dead :: .dead :: .dead :: .dead :: []), [some (bs (acc ++ [dg8 r]))]⟩, (by refine .ren _ _ _ [2] (by decide) (by intro k h; first | exact absurd h (Nat.not_lt_zero k) | (simp at h; done) | (match k, h with | 0, _ => rfl)) ?_ ?_ <;> simp [KeepS, KeepH, ArgRel, ArgRelL, argL_cl, arg_cl, row_l_of, row_l_nil, bn_len, blkAt, hlen]), acc ++ [dg8 r], by omega, hn, .inr ⟨by omega, rfl, rfl⟩⟩
  · rintro b pos S H ⟨acc, ha, hn, hS⟩ hp
    rw [runesA_end _ pos hp, normGo] at hn
    unfold overV
    by_cases h4 : 4 ≤ acc.length
    · by_cases h12 : acc.length ≤ 12
      · rw [normR_in l acc hn.symm ⟨h4, h12⟩]
        have c1 : ¬ (acc.length : Int) < 4 := by omega
        have c2 : ¬ 12 < (acc.length : Int) := by omega
        rcases hS with ⟨h0, rfl, rfl⟩ | ⟨h0, rfl, rfl⟩
        · rw [h0] at h4; simp at h4
        · refine wpA_of fun Q hQ => ?_
          (repeat' (first | simp (maxSteps := 2000000) -implicitDefEqProofs only [Z_pin_Normal, c1, c2, lr, lr2, oO, oN, oG, oNG, oM, oF, oL, rg, ci, Nat.reduceEqDiff, Nat.reduceAdd, Nat.reduceSub, Int.reduceTDiv, Int.reduceTMod, ge_iff_le, Int.reduceGE, Nat.reducePow, Int.reduceEq, Int.reduceNeg, Int.reduceLE, Int.reducePow, Int.reduceLT, Int.reduceSub, Int.reduceAdd, Int.reduceMul, Int.reduceToNat, Option.map_some, ↓reduceIte, ite_not, beq_iff_eq, bne_iff_ne, ne_eq, beq_self_eq_true, beq_eq_false_iff_ne, bne_eq_false_iff_eq, resAll, resL, resV, reduceCtorEq, Option.some.injEq, exists_eq_left', blkAt, Nat.reduceLeDiff, Nat.reduceMul, eq_self, Nat.reduceLT, undef, fillV, evParts, footOp, wrOp, chk, disj, Nat.reduceBEq] | split))
          exact hQ _ _ _ ⟨.inr rfl, _, rfl, out_eq rfl cl⟩
      · rw [normR_out l acc hn.symm fun h => h12 h.2]
        have c1 : ¬ (acc.length : Int) < 4 := by omega
        have c2 : 12 < (acc.length : Int) := by omega
        rcases hS with ⟨h0, rfl, rfl⟩ | ⟨h0, rfl, rfl⟩
        · rw [h0] at h4; simp at h4
        · refine wpA_of fun Q hQ => ?_
          (repeat' (first | simp (maxSteps := 2000000) -implicitDefEqProofs only [Z_pin_Normal, c1, c2, lr, lr2, oO, oN, oG, oNG, oM, oF, oL, rg, ci, Nat.reduceEqDiff, Nat.reduceAdd, Nat.reduceSub, Int.reduceTDiv, Int.reduceTMod, ge_iff_le, Int.reduceGE, Nat.reducePow, Int.reduceEq, Int.reduceNeg, Int.reduceLE, Int.reducePow, Int.reduceLT, Int.reduceSub, Int.reduceAdd, Int.reduceMul, Int.reduceToNat, Option.map_some, ↓reduceIte, ite_not, beq_iff_eq, bne_iff_ne, ne_eq, beq_self_eq_true, beq_eq_false_iff_ne, bne_eq_false_iff_eq, resAll, resL, resV, reduceCtorEq, Option.some.injEq, exists_eq_left', blkAt, Nat.reduceLeDiff, Nat.reduceMul, eq_self, Nat.reduceLT, undef, fillV, evParts, footOp, wrOp, chk, disj, Nat.reduceBEq] | split))
          exact hQ _ _ _ ⟨.inr rfl, _, rfl, out_eq rfl cl⟩
    · rw [normR_out l acc hn.symm fun h => h4 h.1]
      have c1 : (acc.length : Int) < 4 := by omega
      rcases hS with ⟨h0, rfl, rfl⟩ | ⟨h0, rfl, rfl⟩
      · refine wpA_of fun Q hQ => ?_
        (repeat' (first | simp (maxSteps := 2000000) -implicitDefEqProofs only [Z_pin_Normal, c1, lr, lr2, oO, oN, oG, oNG, oM, oF, oL, rg, ci, Nat.reduceEqDiff, Nat.reduceAdd, Nat.reduceSub, Int.reduceTDiv, Int.reduceTMod, ge_iff_le, Int.reduceGE, Nat.reducePow, Int.reduceEq, Int.reduceNeg, Int.reduceLE, Int.reducePow, Int.reduceLT, Int.reduceSub, Int.reduceAdd, Int.reduceMul, Int.reduceToNat, Option.map_some, ↓reduceIte, ite_not, beq_iff_eq, bne_iff_ne, ne_eq, beq_self_eq_true, beq_eq_false_iff_ne, bne_eq_false_iff_eq, resAll, resL, resV, reduceCtorEq, Option.some.injEq, exists_eq_left', blkAt, Nat.reduceLeDiff, Nat.reduceMul, eq_self, Nat.reduceLT, undef, fillV, evParts, footOp, wrOp, chk, disj, Nat.reduceBEq] | split))
        exact hQ _ _ _ ⟨.inr rfl, _, rfl, out_eq rfl cl⟩
      · refine wpA_of fun Q hQ => ?_
        (repeat' (first | simp (maxSteps := 2000000) -implicitDefEqProofs only [Z_pin_Normal, c1, lr, lr2, oO, oN, oG, oNG, oM, oF, oL, rg, ci, Nat.reduceEqDiff, Nat.reduceAdd, Nat.reduceSub, Int.reduceTDiv, Int.reduceTMod, ge_iff_le, Int.reduceGE, Nat.reducePow, Int.reduceEq, Int.reduceNeg, Int.reduceLE, Int.reducePow, Int.reduceLT, Int.reduceSub, Int.reduceAdd, Int.reduceMul, Int.reduceToNat, Option.map_some, ↓reduceIte, ite_not, beq_iff_eq, bne_iff_ne, ne_eq, beq_self_eq_true, beq_eq_false_iff_ne, bne_eq_false_iff_eq, resAll, resL, resV, reduceCtorEq, Option.some.injEq, exists_eq_left', blkAt, Nat.reduceLeDiff, Nat.reduceMul, eq_self, Nat.reduceLT, undef, fillV, evParts, footOp, wrOp, chk, disj, Nat.reduceBEq] | split))
        exact hQ _ _ _ ⟨.inr rfl, _, rfl, out_eq rfl cl⟩
theorem dg8_add (r : Int) (h : 0 ≤ pinDig r) : IntKind.i64.wrap (48 + pinDig r) = ((dg8 r).toNat : Int) ∧ IntKind.u8.wrap ((dg8 r).toNat : Int) = ((dg8 r).toNat : Int) := by
  have := pinDig_le r
  have hu := (dg8 r).toNat_lt
  refine ⟨?_, IntWalk.u8_in _ ⟨by omega, by omega⟩⟩
  rw [← dg8_eq, digB, if_pos h, IntWalk.i64_in _ ⟨by omega, by omega⟩]
set_option maxHeartbeats 4000000 in
theorem rnormal_C (l : List UInt8) (hl : l.length ≤ 1000000) : C Try.prog 88 [st l] [] (normR l) [] := by
  refine C_range mixed Try.func88 R_clavigerref1_Normal_ok R_clavigerref1_Normal_res 35 R_clavigerref1_Normal_nt (s := ⟨l.toArray⟩) (fun b pos S H => ∃ acc : List UInt8, acc.length ≤ pos ∧ normGo (runesA ⟨l.toArray⟩ pos) acc = normGo (runesA ⟨l.toArray⟩ 0) [] ∧
    (acc = [] ∧ S = (st l :: .dead :: st [] :: vb false :: vnil :: .dead :: .dead :: .dead :: .dead :: ptrV b :: .dead :: .dead :: .dead :: .dead :: .dead :: .dead :: .dead :: .dead :: .dead :: .dead :: .dead :: .dead :: .dead :: .dead :: .dead :: .dead :: .dead :: .dead :: .dead :: .dead :: .dead :: .dead :: .dead :: .dead :: .dead :: []) ∧ H = [] ∨ 0 < acc.length ∧ S = (st l :: .dead :: st [] :: vb false :: .sref 0 0 acc.length 1 :: .dead :: .dead :: .dead :: .dead :: ptrV b :: .dead :: .dead :: .dead :: .dead :: .dead :: .dead :: .dead :: .dead :: .dead :: .dead :: .dead :: .dead :: .dead :: .dead :: .dead :: .dead :: .dead :: .dead :: .dead :: .dead :: .dead :: .dead :: .dead :: .dead :: .dead :: []) ∧ H = [some (bs acc)])) ?_ ?_ ?_ ?_
  · refine wpA_of fun Q hQ => ?_
    (repeat' (first | simp (maxSteps := 2000000) -implicitDefEqProofs only [P0_clavigerref1_Normal, lr, lr2, oO, oN, oG, oNG, oM, oF, oL, rg, ci, Nat.reduceEqDiff, Nat.reduceAdd, Nat.reduceSub, Int.reduceTDiv, Int.reduceTMod, ge_iff_le, Int.reduceGE, Nat.reducePow, Int.reduceEq, Int.reduceNeg, Int.reduceLE, Int.reducePow, Int.reduceLT, Int.reduceSub, Int.reduceAdd, Int.reduceMul, Int.reduceToNat, Option.map_some, ↓reduceIte, ite_not, beq_iff_eq, bne_iff_ne, ne_eq, beq_self_eq_true, beq_eq_false_iff_ne, bne_eq_false_iff_eq, resAll, resL, resV, reduceCtorEq, Option.some.injEq, exists_eq_left', blkAt, Nat.reduceLeDiff, Nat.reduceMul, eq_self, Nat.reduceLT, undef, fillV, evParts, footOp, wrOp, chk, disj, Nat.reduceBEq] | split))
    refine hQ _ _ _ ⟨rfl, wpA_of fun Q hQ => ?_⟩
    (repeat' (first | simp (maxSteps := 2000000) -implicitDefEqProofs only [P1_clavigerref1_Normal, lr, lr2, oO, oN, oG, oNG, oM, oF, oL, rg, ci, Nat.reduceEqDiff, Nat.reduceAdd, Nat.reduceSub, Int.reduceTDiv, Int.reduceTMod, ge_iff_le, Int.reduceGE, Nat.reducePow, Int.reduceEq, Int.reduceNeg, Int.reduceLE, Int.reducePow, Int.reduceLT, Int.reduceSub, Int.reduceAdd, Int.reduceMul, Int.reduceToNat, Option.map_some, ↓reduceIte, ite_not, beq_iff_eq, bne_iff_ne, ne_eq, beq_self_eq_true, beq_eq_false_iff_ne, bne_eq_false_iff_eq, resAll, resL, resV, reduceCtorEq, Option.some.injEq, exists_eq_left', blkAt, Nat.reduceLeDiff, Nat.reduceMul, eq_self, Nat.reduceLT, undef, fillV, evParts, footOp, wrOp, chk, disj, Nat.reduceBEq] | split))
    refine hQ _ _ _ ⟨rfl, rfl, Nat.lt_of_sub_pos (by decide : 0 < 35 - 8), fun b => ⟨⟨(st l :: .dead :: st [] :: vb false :: vnil :: .dead :: .dead :: .dead :: .dead :: ptrV b :: .dead :: .dead :: .dead :: .dead :: .dead :: .dead :: .dead :: .dead :: .dead :: .dead :: .dead :: .dead :: .dead :: .dead :: .dead :: .dead :: .dead :: .dead :: .dead :: .dead :: .dead :: .dead :: .dead :: .dead :: .dead :: []), []⟩, (by refine .ren _ _ _ [] (by decide) (by intro k h; first | exact absurd h (Nat.not_lt_zero k) | (simp at h; done) | (match k, h with | 0, _ => rfl)) ?_ ?_ <;> simp [KeepS, KeepH, ArgRel, ArgRelL, argL_cl, arg_cl, row_l_of, row_l_nil, bn_len, blkAt]), [], Nat.zero_le _, rfl, .inl ⟨rfl, rfl, rfl⟩⟩⟩
  · rintro b pos S H ⟨acc, _, _, ⟨_, rfl, rfl⟩ | ⟨_, rfl, rfl⟩⟩ <;> exact ⟨rfl, Nat.lt_of_sub_pos (by decide : 0 < 35 - 10), Nat.lt_of_sub_pos (by decide : 0 < 35 - 11)⟩
  · rintro b pos S H ⟨acc, ha, hn, hS⟩ hp
    have hsz : pos < l.length := by simpa [ByteArray.size] using hp
    have hw := width_pos ⟨l.toArray⟩ pos
    rw [runesA_step _ pos hp, normGo_S] at hn
    unfold nextV
    generalize ((Utf8.decode ⟨l.toArray⟩ pos).1 : Int) = r at *
    generalize (Utf8.decode ⟨l.toArray⟩ pos).2 = w at *
    by_cases h2 : pinDig r = -2
    · rw [if_pos h2] at hn
      have n1 : ¬ pinDig r = -1 := by omega
      have n2 : ¬ 0 ≤ pinDig r := by omega
      rcases hS with ⟨h0, rfl, rfl⟩ | ⟨h0, rfl, rfl⟩
      all_goals (refine wpA_of fun Q hQ => ?_; (repeat' (first | simp (maxSteps := 2000000) -implicitDefEqProofs only [B_clavigerref1_Normal, n1, n2, lr, lr2, oO, oN, oG, oNG, oM, oF, oL, rg, ci, Nat.reduceEqDiff, Nat.reduceAdd, Nat.reduceSub, Int.reduceTDiv, Int.reduceTMod, ge_iff_le, Int.reduceGE, Nat.reducePow, Int.reduceEq, Int.reduceNeg, Int.reduceLE, Int.reducePow, Int.reduceLT, Int.reduceSub, Int.reduceAdd, Int.reduceMul, Int.reduceToNat, Option.map_some, ↓reduceIte, ite_not, beq_iff_eq, bne_iff_ne, ne_eq, beq_self_eq_true, beq_eq_false_iff_ne, bne_eq_false_iff_eq, resAll, resL, resV, reduceCtorEq, Option.some.injEq, exists_eq_left', blkAt, Nat.reduceLeDiff, Nat.reduceMul, eq_self, Nat.reduceLT, undef, fillV, evParts, footOp, wrOp, chk, disj, Nat.reduceBEq] | split | ((first | apply ck_call | apply cfk_call); (first | (apply call_pure (rdigit_C r) cll cl))))))
      all_goals first
        | exact hQ _ _ _ ⟨⟨(st l :: .dead :: st [] :: vb false :: vnil :: .dead :: .dead :: .dead :: .dead :: ptrV b :: .dead :: .dead :: .dead :: .dead :: .dead :: .dead :: .dead :: .dead :: .dead :: .dead :: .dead :: .dead :: .dead :: .dead :: .dead :: .dead :: .dead :: .dead :: .dead :: .dead :: .dead :: .dead :: .dead :: .dead :: .dead :: []), []⟩, (by refine .ren _ _ _ [] (by decide) (by intro k h; first | exact absurd h (Nat.not_lt_zero k) | (simp at h; done) | (match k, h with | 0, _ => rfl)) ?_ ?_ <;> simp [KeepS, KeepH, ArgRel, ArgRelL, argL_cl, arg_cl, row_l_of, row_l_nil, bn_len, blkAt]), acc, by omega, hn, .inl ⟨h0, rfl, rfl⟩⟩
        | exact hQ _ _ _ ⟨⟨(st l :: .dead :: st [] :: vb false :: .sref 0 0 acc.length 1 :: .dead :: .dead :: .dead :: .dead :: ptrV b :: .dead :: .dead :: .dead :: .dead :: .dead :: .dead :: .dead :: .dead :: .dead :: .dead :: .dead :: .dead :: .dead :: .dead :: .dead :: .dead :: .dead :: .dead :: .dead :: .dead :: .dead :: .dead :: .dead :: .dead :: .dead :: []), [some (bs acc)]⟩, (by refine .ren _ _ _ [0] (by decide) (by intro k h; first | exact absurd h (Nat.not_lt_zero k) | (simp at h; done) | (match k, h with | 0, _ => rfl)) ?_ ?_ <;> simp [KeepS, KeepH, ArgRel, ArgRelL, argL_cl, arg_cl, row_l_of, row_l_nil, bn_len, blkAt]), acc, by omega, hn, .inr ⟨h0, rfl, rfl⟩⟩
    · rw [if_neg h2] at hn
      by_cases h1 : pinDig r = -1
      · rw [if_pos h1] at hn
        rw [normR_none l hn.symm]
        rcases hS with ⟨h0, rfl, rfl⟩ | ⟨h0, rfl, rfl⟩
        all_goals (refine wpA_of fun Q hQ => ?_; (repeat' (first | simp (maxSteps := 2000000) -implicitDefEqProofs only [B_clavigerref1_Normal, h1, lr, lr2, oO, oN, oG, oNG, oM, oF, oL, rg, ci, Nat.reduceEqDiff, Nat.reduceAdd, Nat.reduceSub, Int.reduceTDiv, Int.reduceTMod, ge_iff_le, Int.reduceGE, Nat.reducePow, Int.reduceEq, Int.reduceNeg, Int.reduceLE, Int.reducePow, Int.reduceLT, Int.reduceSub, Int.reduceAdd, Int.reduceMul, Int.reduceToNat, Option.map_some, ↓reduceIte, ite_not, beq_iff_eq, bne_iff_ne, ne_eq, beq_self_eq_true, beq_eq_false_iff_ne, bne_eq_false_iff_eq, resAll, resL, resV, reduceCtorEq, Option.some.injEq, exists_eq_left', blkAt, Nat.reduceLeDiff, Nat.reduceMul, eq_self, Nat.reduceLT, undef, fillV, evParts, footOp, wrOp, chk, disj, Nat.reduceBEq] | split | ((first | apply ck_call | apply cfk_call); (first | (apply call_pure (rdigit_C r) cll cl))))))
        all_goals (refine hQ _ _ _ ⟨_, rfl, out_eq rfl cl⟩)
      · rw [if_neg h1] at hn
        have hge := pinDig_ge r
        have hd : 0 ≤ pinDig r := by omega
        have e8 : by8 ((dg8 r).toNat : Int) = dg8 r := by8_nat (dg8 r)
        obtain ⟨w1, w2⟩ := dg8_add r hd
        rcases hS with ⟨h0, rfl, rfl⟩ | ⟨h0, rfl, rfl⟩
        · rw [h0, List.nil_append] at hn
          refine wpA_of fun Q hQ => ?_
          (repeat' (first | simp (maxSteps := 2000000) -implicitDefEqProofs only [B_clavigerref1_Normal, h1, hd, e8, w1, w2, lr, lr2, oO, oN, oG, oNG, oM, oF, oL, rg, ci, Nat.reduceEqDiff, Nat.reduceAdd, Nat.reduceSub, Int.reduceTDiv, Int.reduceTMod, ge_iff_le, Int.reduceGE, Nat.reducePow, Int.reduceEq, Int.reduceNeg, Int.reduceLE, Int.reducePow, Int.reduceLT, Int.reduceSub, Int.reduceAdd, Int.reduceMul, Int.reduceToNat, Option.map_some, ↓reduceIte, ite_not, beq_iff_eq, bne_iff_ne, ne_eq, beq_self_eq_true, beq_eq_false_iff_ne, bne_eq_false_iff_eq, resAll, resL, resV, reduceCtorEq, Option.some.injEq, exists_eq_left', blkAt, Nat.reduceLeDiff, Nat.reduceMul, eq_self, Nat.reduceLT, undef, fillV, evParts, footOp, wrOp, chk, disj, Nat.reduceBEq] | split | ((first | apply ck_call | apply cfk_call); (first | (apply call_pure (rdigit_C r) cll cl)))))
          exact hQ _ _ _ ⟨⟨(st l :: .dead :: st [] :: vb false :: .sref 0 0 ([dg8 r] : List UInt8).length 1 :: .dead :: .dead :: .dead :: .dead :: ptrV b :: .dead :: .dead :: .dead :: .dead :: .dead :: .dead :: .dead :: .dead :: .dead :: .dead :: .dead :: .dead :: .dead :: .dead :: .dead :: .dead :: .dead :: .dead :: .dead :: .dead :: .dead :: .dead :: .dead :: .dead :: .dead :: []), [some (bs [dg8 r])]⟩, (by refine .ren _ _ _ [1] (by decide) (by intro k h; first | exact absurd h (Nat.not_lt_zero k) | (simp at h; done) | (match k, h with | 0, _ => rfl)) ?_ ?_ <;> simp [KeepS, KeepH, ArgRel, ArgRelL, argL_cl, arg_cl, row_l_of, row_l_nil, bn_len, blkAt]), [dg8 r], by rw [List.length_singleton]; omega, hn, .inr ⟨by rw [List.length_singleton]; omega, rfl, rfl⟩⟩
        · have sm : Sm acc 1 := by unfold Sm; omega
          have hlen := st_len2 acc (dg8 r)
          refine wpA_of fun Q hQ => ?_
          (repeat' (first | simp (maxSteps := 2000000) -implicitDefEqProofs only [B_clavigerref1_Normal, h1, hd, sm, e8, w1, w2, lr, lr2, oO, oN, oG, oNG, oM, oF, oL, rg, ci, Nat.reduceEqDiff, Nat.reduceAdd, Nat.reduceSub, Int.reduceTDiv, Int.reduceTMod, ge_iff_le, Int.reduceGE, Nat.reducePow, Int.reduceEq, Int.reduceNeg, Int.reduceLE, Int.reducePow, Int.reduceLT, Int.reduceSub, Int.reduceAdd, Int.reduceMul, Int.reduceToNat, Option.map_some, ↓reduceIte, ite_not, beq_iff_eq, bne_iff_ne, ne_eq, beq_self_eq_true, beq_eq_false_iff_ne, bne_eq_false_iff_eq, resAll, resL, resV, reduceCtorEq, Option.some.injEq, exists_eq_left', blkAt, Nat.reduceLeDiff, Nat.reduceMul, eq_self, Nat.reduceLT, undef, fillV, evParts, footOp, wrOp, chk, disj, Nat.reduceBEq] | split | ((first | apply ck_call | apply cfk_call); (first | (apply call_pure (rdigit_C r) cll cl)))))
          exact hQ _ _ _ ⟨⟨(st l :: .dead :: st [] :: vb false :: .sref 0 0 (acc ++ [dg8 r]).length 1 :: .dead :: .dead :: .dead :: .dead :: ptrV b :: .dead :: .dead :: .dead :: .dead :: .dead :: .dead :: .dead :: .dead :: .dead :: .dead :: .dead :: .dead :: .dead :: .dead :: .dead :: .dead :: .dead :: .dead :: .dead :: .dead :: .dead :: .dead :: .dead :: .dead :: .dead :: []), [some (bs (acc ++ [dg8 r]))]⟩, (by refine .ren _ _ _ [2] (by decide) (by intro k h; first | exact absurd h (Nat.not_lt_zero k) | (simp at h; done) | (match k, h with | 0, _ => rfl)) ?_ ?_ <;> simp [KeepS, KeepH, ArgRel, ArgRelL, argL_cl, arg_cl, row_l_of, row_l_nil, bn_len, blkAt, hlen]), acc ++ [dg8 r], by omega, hn, .inr ⟨by omega, rfl, rfl⟩⟩
  · rintro b pos S H ⟨acc, ha, hn, hS⟩ hp
    rw [runesA_end _ pos hp, normGo] at hn
    unfold overV
    by_cases h4 : 4 ≤ acc.length
    · by_cases h12 : acc.length ≤ 12
      · rw [normR_in l acc hn.symm ⟨h4, h12⟩]
        have c1 : ¬ (acc.length : Int) < 4 := by omega
        have c2 : ¬ 12 < (acc.length : Int) := by omega
        rcases hS with ⟨h0, rfl, rfl⟩ | ⟨h0, rfl, rfl⟩
        · rw [h0] at h4; simp at h4
        · refine wpA_of fun Q hQ => ?_
          (repeat' (first | simp (maxSteps := 2000000) -implicitDefEqProofs only [Z_clavigerref1_Normal, c1, c2, lr, lr2, oO, oN, oG, oNG, oM, oF, oL, rg, ci, Nat.reduceEqDiff, Nat.reduceAdd, Nat.reduceSub, Int.reduceTDiv, Int.reduceTMod, ge_iff_le, Int.reduceGE, Nat.reducePow, Int.reduceEq, Int.reduceNeg, Int.reduceLE, Int.reducePow, Int.reduceLT, Int.reduceSub, Int.reduceAdd, Int.reduceMul, Int.reduceToNat, Option.map_some, ↓reduceIte, ite_not, beq_iff_eq, bne_iff_ne, ne_eq, beq_self_eq_true, beq_eq_false_iff_ne, bne_eq_false_iff_eq, resAll, resL, resV, reduceCtorEq, Option.some.injEq, exists_eq_left', blkAt, Nat.reduceLeDiff, Nat.reduceMul, eq_self, Nat.reduceLT, undef, fillV, evParts, footOp, wrOp, chk, disj, Nat.reduceBEq] | split))
          exact hQ _ _ _ ⟨.inr rfl, _, rfl, out_eq rfl cl⟩
      · rw [normR_out l acc hn.symm fun h => h12 h.2]
        have c1 : ¬ (acc.length : Int) < 4 := by omega
        have c2 : 12 < (acc.length : Int) := by omega
        rcases hS with ⟨h0, rfl, rfl⟩ | ⟨h0, rfl, rfl⟩
        · rw [h0] at h4; simp at h4
        · refine wpA_of fun Q hQ => ?_
          (repeat' (first | simp (maxSteps := 2000000) -implicitDefEqProofs only [Z_clavigerref1_Normal, c1, c2, lr, lr2, oO, oN, oG, oNG, oM, oF, oL, rg, ci, Nat.reduceEqDiff, Nat.reduceAdd, Nat.reduceSub, Int.reduceTDiv, Int.reduceTMod, ge_iff_le, Int.reduceGE, Nat.reducePow, Int.reduceEq, Int.reduceNeg, Int.reduceLE, Int.reducePow, Int.reduceLT, Int.reduceSub, Int.reduceAdd, Int.reduceMul, Int.reduceToNat, Option.map_some, ↓reduceIte, ite_not, beq_iff_eq, bne_iff_ne, ne_eq, beq_self_eq_true, beq_eq_false_iff_ne, bne_eq_false_iff_eq, resAll, resL, resV, reduceCtorEq, Option.some.injEq, exists_eq_left', blkAt, Nat.reduceLeDiff, Nat.reduceMul, eq_self, Nat.reduceLT, undef, fillV, evParts, footOp, wrOp, chk, disj, Nat.reduceBEq] | split))
          exact hQ _ _ _ ⟨.inr rfl, _, rfl, out_eq rfl cl⟩
    · rw [normR_out l acc hn.symm fun h => h4 h.1]
      have c1 : (acc.length : Int) < 4 := by omega
      rcases hS with ⟨h0, rfl, rfl⟩ | ⟨h0, rfl, rfl⟩
      · refine wpA_of fun Q hQ => ?_
        (repeat' (first | simp (maxSteps := 2000000) -implicitDefEqProofs only [Z_clavigerref1_Normal, c1, lr, lr2, oO, oN, oG, oNG, oM, oF, oL, rg, ci, Nat.reduceEqDiff, Nat.reduceAdd, Nat.reduceSub, Int.reduceTDiv, Int.reduceTMod, ge_iff_le, Int.reduceGE, Nat.reducePow, Int.reduceEq, Int.reduceNeg, Int.reduceLE, Int.reducePow, Int.reduceLT, Int.reduceSub, Int.reduceAdd, Int.reduceMul, Int.reduceToNat, Option.map_some, ↓reduceIte, ite_not, beq_iff_eq, bne_iff_ne, ne_eq, beq_self_eq_true, beq_eq_false_iff_ne, bne_eq_false_iff_eq, resAll, resL, resV, reduceCtorEq, Option.some.injEq, exists_eq_left', blkAt, Nat.reduceLeDiff, Nat.reduceMul, eq_self, Nat.reduceLT, undef, fillV, evParts, footOp, wrOp, chk, disj, Nat.reduceBEq] | split))
        exact hQ _ _ _ ⟨.inr rfl, _, rfl, out_eq rfl cl⟩
      · refine wpA_of fun Q hQ => ?_
        (repeat' (first | simp (maxSteps := 2000000) -implicitDefEqProofs only [Z_clavigerref1_Normal, c1, lr, lr2, oO, oN, oG, oNG, oM, oF, oL, rg, ci, Nat.reduceEqDiff, Nat.reduceAdd, Nat.reduceSub, Int.reduceTDiv, Int.reduceTMod, ge_iff_le, Int.reduceGE, Nat.reducePow, Int.reduceEq, Int.reduceNeg, Int.reduceLE, Int.reducePow, Int.reduceLT, Int.reduceSub, Int.reduceAdd, Int.reduceMul, Int.reduceToNat, Option.map_some, ↓reduceIte, ite_not, beq_iff_eq, bne_iff_ne, ne_eq, beq_self_eq_true, beq_eq_false_iff_ne, bne_eq_false_iff_eq, resAll, resL, resV, reduceCtorEq, Option.some.injEq, exists_eq_left', blkAt, Nat.reduceLeDiff, Nat.reduceMul, eq_self, Nat.reduceLT, undef, fillV, evParts, footOp, wrOp, chk, disj, Nat.reduceBEq] | split))
        exact hQ _ _ _ ⟨.inr rfl, _, rfl, out_eq rfl cl⟩
end Go.Proofs.Ytmmaenfjnkoknaa.VA
