/- The other laws of stretched PINs. -/
import Derived.Test.YtmmaenfjnkoknaaEpin
import Derived.Test.YtmmaenfjnkoknaaVC
set_option linter.unusedVariables false
set_option linter.unusedSimpArgs false
set_option maxRecDepth 100000
namespace Go.Proofs.Ytmmaenfjnkoknaa.VA
open Go
attribute [local irreducible] WK NK XK TK RK FK CK CFK CallRel C
theorem rnd_in (k : Int) (h0 : 0 ≤ k) (h1 : k ≤ 40) : rnd (k + 1) = rnd k + 1 := by unfold rnd; omega
theorem within_in (n lo hi : Int) (h : lo ≤ hi) : lo ≤ within n lo hi ∧ within n lo hi ≤ hi := by
  unfold within
  have hr := Int.tmod_lt_of_pos n (show 0 < hi - lo + 1 by omega)
  have hr2 := Int.lt_tmod_of_pos n (show 0 < hi - lo + 1 by omega)
  split
  · omega
  · split <;> omega
set_option maxHeartbeats 4000000 in
theorem rounds3_C (s : List UInt8) (salt : Bn 16) (n : Int) : C Try.prog 5 [st s, .agg (dg salt), vi .i64 n] [] (vb true) [] := by
  obtain ⟨u, hu, e⟩ : ∃ u : List UInt8, u.length ≤ 20 ∧ u = s.take 20 := ⟨_, by simp; omega, rfl⟩
  obtain ⟨hk0, hk1⟩ := within_in n 0 40 (by decide)
  have wc := within_C n 0 40 (by decide) (by decide) (by decide)
  generalize within n 0 40 = k at *
  have hr := rnd_in k hk0 hk1
  have w1 : IntKind.i64.wrap (k + 1) = k + 1 := wrap_id _ (by omega) (by omega)
  have key : ∀ x : List UInt8, x.length ≤ 20 → C Try.prog 21 [st x, .agg (dg salt), vi .i64 (k + 1)] [] (.agg (dg (twoF (digF x salt (rnd k)) salt))) [] := by
    intro x hx
    have := digits_C x salt (k + 1) (by omega)
    rwa [hr] at this
  refine C_of mixed Try.func5 A_clavigerlaw3_StretchRounds_ok A_clavigerlaw3_StretchRounds_res _ A_clavigerlaw3_StretchRounds_nt ?_
  by_cases h20 : (s.length : Int) > 20
  · have h20' : 20 < (s.length : Int) := h20
    have evCut20 : ∀ H, evCutStr 20 H (st s) = some (st u, H) := fun H => by rw [evCut_st 20 H s (by decide) (by omega), e]; rfl
    (repeat' (first | simp (maxSteps := 2000000) -implicitDefEqProofs only [A_clavigerlaw3_StretchRounds, op_lenStr2, evLen_st, op_slStr, evSl_cut, evCut20, h20, h20', w1, lr, lr2, oO, oN, oG, oNG, oM, oF, oL, rg, ci, Nat.reduceEqDiff, Nat.reduceAdd, Nat.reduceSub, Int.reduceTDiv, Int.reduceTMod, ge_iff_le, Int.reduceGE, Nat.reducePow, Int.reduceEq, Int.reduceNeg, Int.reduceLE, Int.reducePow, Int.reduceLT, Int.reduceSub, Int.reduceAdd, Int.reduceMul, Int.reduceToNat, Option.map_some, ↓reduceIte, ite_not, beq_iff_eq, bne_iff_ne, ne_eq, beq_self_eq_true, beq_eq_false_iff_ne, bne_eq_false_iff_eq, resAll, resL, resV, reduceCtorEq, Option.some.injEq, exists_eq_left', blkAt, Nat.reduceLeDiff, Nat.reduceMul, eq_self, Nat.reduceLT, undef, fillV, evParts, footOp, wrOp, chk, disj, Nat.reduceBEq] | split | ((first | apply ck_call | apply cfk_call); (first | (apply call_pure (wc) cll cl) | (apply call_pure (digits_C u salt k (by omega)) cll cl) | (apply call_pure (key u hu) cll cl) | (apply call_pure (rtwo_C (digF u salt (rnd k)) salt) cll cl) | (apply call_pure (known3_C) cll cl)))))
    exact out_eq rfl cl
  · have h20' : ¬ 20 < (s.length : Int) := h20
    (repeat' (first | simp (maxSteps := 2000000) -implicitDefEqProofs only [A_clavigerlaw3_StretchRounds, op_lenStr2, evLen_st, op_slStr, evSl_cut, h20, h20', w1, lr, lr2, oO, oN, oG, oNG, oM, oF, oL, rg, ci, Nat.reduceEqDiff, Nat.reduceAdd, Nat.reduceSub, Int.reduceTDiv, Int.reduceTMod, ge_iff_le, Int.reduceGE, Nat.reducePow, Int.reduceEq, Int.reduceNeg, Int.reduceLE, Int.reducePow, Int.reduceLT, Int.reduceSub, Int.reduceAdd, Int.reduceMul, Int.reduceToNat, Option.map_some, ↓reduceIte, ite_not, beq_iff_eq, bne_iff_ne, ne_eq, beq_self_eq_true, beq_eq_false_iff_ne, bne_eq_false_iff_eq, resAll, resL, resV, reduceCtorEq, Option.some.injEq, exists_eq_left', blkAt, Nat.reduceLeDiff, Nat.reduceMul, eq_self, Nat.reduceLT, undef, fillV, evParts, footOp, wrOp, chk, disj, Nat.reduceBEq] | split | ((first | apply ck_call | apply cfk_call); (first | (apply call_pure (wc) cll cl) | (apply call_pure (digits_C s salt k (by omega)) cll cl) | (apply call_pure (key s (by omega)) cll cl) | (apply call_pure (rtwo_C (digF s salt (rnd k)) salt) cll cl) | (apply call_pure (known3_C) cll cl)))))
    exact out_eq rfl cl
def L9 : List Int := [-5, 0, 1, 2, 16, 1023, 1024, 1025, 1099511627776]
def M8 : List (List UInt8) := [[], [49, 50, 51], [49, 50, 51, 52], [49, 50, 51, 52, 53, 54, 55, 56, 57, 48, 49, 50], [49, 50, 51, 52, 53, 54, 55, 56, 57, 48, 49, 50, 51], [49, 50, 45, 51, 52], [97, 98, 99, 100], [239, 188, 145, 239, 188, 146, 239, 188, 147, 239, 188, 148]]
def rL9 : List V := L9.map (vi .i64)
def rM8 : List V := M8.map st
theorem rd_L9 (i : Nat) (h : i < 9) : rd none rL9 i = some (vi .i64 (L9.getD i 0)) := by
  rcases (by omega : i = 0 ∨ i = 1 ∨ i = 2 ∨ i = 3 ∨ i = 4 ∨ i = 5 ∨ i = 6 ∨ i = 7 ∨ i = 8) with rfl | rfl | rfl | rfl | rfl | rfl | rfl | rfl | rfl <;> rfl
theorem rd_M8 (i : Nat) (h : i < 8) : rd none rM8 i = some (st (M8.getD i [])) := by
  rcases (by omega : i = 0 ∨ i = 1 ∨ i = 2 ∨ i = 3 ∨ i = 4 ∨ i = 5 ∨ i = 6 ∨ i = 7) with rfl | rfl | rfl | rfl | rfl | rfl | rfl | rfl <;> rfl
theorem M8_le (i : Nat) (h : i < 8) : (M8.getD i []).length ≤ 1000000 := by
  rcases (by omega : i = 0 ∨ i = 1 ∨ i = 2 ∨ i = 3 ∨ i = 4 ∨ i = 5 ∨ i = 6 ∨ i = 7) with rfl | rfl | rfl | rfl | rfl | rfl | rfl | rfl <;> decide
theorem L9_arg {H : Heap} {ids bs : List Nat} : ArgRelL H ids bs rL9 rL9 := argL_closed _ (by simp [rL9, L9, ClosedL, Closed])
theorem M8_arg {H : Heap} {ids bs : List Nat} : ArgRelL H ids bs rM8 rM8 := argL_closed _ (by simp [rM8, M8, ClosedL, Closed, st])
theorem L9_eq : [vi .i64 (-5), vi .i64 0, vi .i64 1, vi .i64 2, vi .i64 16, vi .i64 1023, vi .i64 1024, vi .i64 1025, vi .i64 1099511627776] = rL9 := rfl
theorem M8_eq : [st [], st [49, 50, 51], st [49, 50, 51, 52], st [49, 50, 51, 52, 53, 54, 55, 56, 57, 48, 49, 50], st [49, 50, 51, 52, 53, 54, 55, 56, 57, 48, 49, 50, 51], st [49, 50, 45, 51, 52], st [97, 98, 99, 100], st [239, 188, 145, 239, 188, 146, 239, 188, 147, 239, 188, 148]] = rM8 := rfl
theorem cellsV_st (l : List UInt8) : cellsV (st l) = some [st l] := rfl
attribute [local irreducible] rL9 rM8
def d1s : Bn 16 := (Bn.zero 16).set 0 (by8 1)
def i4s : Bn 4 := ((((Bn.zero 4).set 0 (by8 1)).set 1 (by8 2)).set 2 (by8 3)).set 3 (by8 4)
set_option maxHeartbeats 4000000 in
theorem numbers3_C : C Try.prog 3 [] [] (vb true) [] := by
  refine C_of mixed Try.func3 A_clavigerlaw3_StretchNumbers_ok A_clavigerlaw3_StretchNumbers_res _ A_clavigerlaw3_StretchNumbers_nt ?_
  (repeat' (first | simp (maxSteps := 2000000) -implicitDefEqProofs only [A_clavigerlaw3_StretchNumbers, L9_eq, lr, lr2, oO, oN, oG, oNG, oM, oF, oL, rg, ci, Nat.reduceEqDiff, Nat.reduceAdd, Nat.reduceSub, Int.reduceTDiv, Int.reduceTMod, ge_iff_le, Int.reduceGE, Nat.reducePow, Int.reduceEq, Int.reduceNeg, Int.reduceLE, Int.reducePow, Int.reduceLT, Int.reduceSub, Int.reduceAdd, Int.reduceMul, Int.reduceToNat, Option.map_some, ↓reduceIte, ite_not, beq_iff_eq, bne_iff_ne, ne_eq, beq_self_eq_true, beq_eq_false_iff_ne, bne_eq_false_iff_eq, resAll, resL, resV, reduceCtorEq, Option.some.injEq, exists_eq_left', blkAt, Nat.reduceLeDiff, Nat.reduceMul, eq_self, Nat.reduceLT, undef, fillV, evParts, footOp, wrOp, chk, disj, Nat.reduceBEq] | split))
  refine wk_loop (fun m S H => ∃ i : Nat, i ≤ 9 ∧ m = 9 - i ∧ S = (vb false :: .dead :: .dead :: .dead :: .dead :: .sref 0 0 9 1 :: vi .i64 9 :: vi .i64 i :: .dead :: .dead :: .dead :: .dead :: .dead :: .dead :: .dead :: .dead :: .dead :: .dead :: .dead :: .dead :: .dead :: .dead :: .dead :: .dead :: .dead :: .dead :: .dead :: .dead :: .dead :: .dead :: .dead :: .dead :: .dead :: .dead :: .dead :: .dead :: .dead :: []) ∧ H = [some rL9]) (9) ⟨0, Nat.zero_le _, rfl, rfl, rfl⟩ (by refine .ren _ _ _ [0] (by decide) (by intro k h; first | exact absurd h (Nat.not_lt_zero k) | (simp at h; done) | (match k, h with | 0, _ => rfl)) ?_ ?_ <;> simp [KeepS, KeepH, ArgRel, ArgRelL, argL_cl, arg_cl, row_l_of, row_l_nil, bn_len, blkAt, L9_eq, L9_arg]) ?_
  rintro m S H ⟨i, hi, rfl, rfl, rfl⟩ J hJ
  have d0 : (0 : Int) ≤ i := by omega
  by_cases hin : i < 9
  · have c1 : (i : Int) < 9 := by omega
    have g1 := rd_L9 i hin
    have w1 : IntKind.i64.wrap ((i : Int) + 1) = ((i + 1 : Nat) : Int) := by rw [wrap_id _ (by omega) (by omega)]; omega
    generalize L9.getD i 0 = x at *
    (repeat' (first | simp (maxSteps := 2000000) -implicitDefEqProofs only [A_clavigerlaw3_StretchNumbers_L0, c1, d0, g1, w1, lr, lr2, oO, oN, oG, oNG, oM, oF, oL, rg, ci, Nat.reduceEqDiff, Nat.reduceAdd, Nat.reduceSub, Int.reduceTDiv, Int.reduceTMod, ge_iff_le, Int.reduceGE, Nat.reducePow, Int.reduceEq, Int.reduceNeg, Int.reduceLE, Int.reducePow, Int.reduceLT, Int.reduceSub, Int.reduceAdd, Int.reduceMul, Int.reduceToNat, Option.map_some, ↓reduceIte, ite_not, beq_iff_eq, bne_iff_ne, ne_eq, beq_self_eq_true, beq_eq_false_iff_ne, bne_eq_false_iff_eq, resAll, resL, resV, reduceCtorEq, Option.some.injEq, exists_eq_left', blkAt, Nat.reduceLeDiff, Nat.reduceMul, eq_self, Nat.reduceLT, undef, fillV, evParts, footOp, wrOp, chk, disj, Nat.reduceBEq] | split | ((first | apply ck_call | apply cfk_call); (first | (apply call_pure (digits_C [49, 50, 51, 52] d1s x (by decide)) cll cl) | (apply call_pure (rdigits_C [49, 50, 51, 52] d1s x (by decide)) cll cl)))))
    exact hJ _ _ _ _ _ (by omega) ⟨i + 1, by omega, rfl, rfl, rfl⟩ (by refine .ren _ _ _ [0] (by decide) (by intro k h; first | exact absurd h (Nat.not_lt_zero k) | (simp at h; done) | (match k, h with | 0, _ => rfl)) ?_ ?_ <;> simp [KeepS, KeepH, ArgRel, ArgRelL, argL_cl, arg_cl, row_l_of, row_l_nil, bn_len, blkAt, L9_arg])
  · obtain rfl : i = 9 := by omega
    (repeat' (first | simp (maxSteps := 2000000) -implicitDefEqProofs only [A_clavigerlaw3_StretchNumbers_L0, K_clavigerlaw3_StretchNumbers_L0, cellsV_st, M8_eq, lr, lr2, oO, oN, oG, oNG, oM, oF, oL, rg, ci, Nat.reduceEqDiff, Nat.reduceAdd, Nat.reduceSub, Int.reduceTDiv, Int.reduceTMod, ge_iff_le, Int.reduceGE, Nat.reducePow, Int.reduceEq, Int.reduceNeg, Int.reduceLE, Int.reducePow, Int.reduceLT, Int.reduceSub, Int.reduceAdd, Int.reduceMul, Int.reduceToNat, Option.map_some, ↓reduceIte, ite_not, beq_iff_eq, bne_iff_ne, ne_eq, beq_self_eq_true, beq_eq_false_iff_ne, bne_eq_false_iff_eq, resAll, resL, resV, reduceCtorEq, Option.some.injEq, exists_eq_left', blkAt, Nat.reduceLeDiff, Nat.reduceMul, eq_self, Nat.reduceLT, undef, fillV, evParts, footOp, wrOp, chk, disj, Nat.reduceBEq] | split))
    refine wk_loop (fun m S H => ∃ i : Nat, i ≤ 8 ∧ m = 8 - i ∧ S = (vb false :: .dead :: .dead :: .dead :: .dead :: .dead :: .dead :: .dead :: .dead :: .dead :: .dead :: .dead :: .dead :: .dead :: .dead :: .dead :: .dead :: .dead :: .dead :: .sref 0 0 8 1 :: vi .i64 8 :: vi .i64 i :: .dead :: .dead :: .dead :: .dead :: .dead :: .dead :: .dead :: .dead :: .dead :: .dead :: .dead :: .dead :: .dead :: .dead :: .dead :: []) ∧ H = [some rM8]) (8) ⟨0, Nat.zero_le _, rfl, rfl, rfl⟩ (by refine .ren _ _ _ [1] (by decide) (by intro k h; first | exact absurd h (Nat.not_lt_zero k) | (simp at h; done) | (match k, h with | 0, _ => rfl)) ?_ ?_ <;> simp [KeepS, KeepH, ArgRel, ArgRelL, argL_cl, arg_cl, row_l_of, row_l_nil, bn_len, blkAt, M8_eq, M8_arg]) ?_
    rintro m S H ⟨i, hi, rfl, rfl, rfl⟩ J hJ
    have d0 : (0 : Int) ≤ i := by omega
    by_cases hin : i < 8
    · have c1 : (i : Int) < 8 := by omega
      have g1 := rd_M8 i hin
      have hl := M8_le i hin
      have w1 : IntKind.i64.wrap ((i : Int) + 1) = ((i + 1 : Nat) : Int) := by rw [wrap_id _ (by omega) (by omega)]; omega
      generalize M8.getD i [] = x at *
      (repeat' (first | simp (maxSteps := 2000000) -implicitDefEqProofs only [A_clavigerlaw3_StretchNumbers_L1, c1, d0, g1, w1, lr, lr2, oO, oN, oG, oNG, oM, oF, oL, rg, ci, Nat.reduceEqDiff, Nat.reduceAdd, Nat.reduceSub, Int.reduceTDiv, Int.reduceTMod, ge_iff_le, Int.reduceGE, Nat.reducePow, Int.reduceEq, Int.reduceNeg, Int.reduceLE, Int.reducePow, Int.reduceLT, Int.reduceSub, Int.reduceAdd, Int.reduceMul, Int.reduceToNat, Option.map_some, ↓reduceIte, ite_not, beq_iff_eq, bne_iff_ne, ne_eq, beq_self_eq_true, beq_eq_false_iff_ne, bne_eq_false_iff_eq, resAll, resL, resV, reduceCtorEq, Option.some.injEq, exists_eq_left', blkAt, Nat.reduceLeDiff, Nat.reduceMul, eq_self, Nat.reduceLT, undef, fillV, evParts, footOp, wrOp, chk, disj, Nat.reduceBEq] | split | ((first | apply ck_call | apply cfk_call); (first | (apply call_pure (same3_C x (Bn.zero 4) hl) cll cl) | (apply call_pure (same3_C x i4s hl) cll cl)))))
      exact hJ _ _ _ _ _ (by omega) ⟨i + 1, by omega, rfl, rfl, rfl⟩ (by refine .ren _ _ _ [0] (by decide) (by intro k h; first | exact absurd h (Nat.not_lt_zero k) | (simp at h; done) | (match k, h with | 0, _ => rfl)) ?_ ?_ <;> simp [KeepS, KeepH, ArgRel, ArgRelL, argL_cl, arg_cl, row_l_of, row_l_nil, bn_len, blkAt, M8_arg])
    · obtain rfl : i = 8 := by omega
      (repeat' (first | simp (maxSteps := 2000000) -implicitDefEqProofs only [A_clavigerlaw3_StretchNumbers_L1, K_clavigerlaw3_StretchNumbers_L1, lr, lr2, oO, oN, oG, oNG, oM, oF, oL, rg, ci, Nat.reduceEqDiff, Nat.reduceAdd, Nat.reduceSub, Int.reduceTDiv, Int.reduceTMod, ge_iff_le, Int.reduceGE, Nat.reducePow, Int.reduceEq, Int.reduceNeg, Int.reduceLE, Int.reducePow, Int.reduceLT, Int.reduceSub, Int.reduceAdd, Int.reduceMul, Int.reduceToNat, Option.map_some, ↓reduceIte, ite_not, beq_iff_eq, bne_iff_ne, ne_eq, beq_self_eq_true, beq_eq_false_iff_ne, bne_eq_false_iff_eq, resAll, resL, resV, reduceCtorEq, Option.some.injEq, exists_eq_left', blkAt, Nat.reduceLeDiff, Nat.reduceMul, eq_self, Nat.reduceLT, undef, fillV, evParts, footOp, wrOp, chk, disj, Nat.reduceBEq] | split | ((first | apply ck_call | apply cfk_call); (first | (apply call_pure (known3_C) cll cl)))))
      exact out_eq rfl cl
theorem enc45 : encL 45 = [45] := by decide +kernel
theorem encL_le (r : Int) (h : okR r) : (encL r).length ≤ 3 := by
  obtain ⟨h0, h1, hv⟩ := h
  by_cases a : r < 128
  · rw [encL_1 r h0 a]; simp
  by_cases b : r < 2048
  · rw [encL_2 r (by omega) b]; simp
  · rw [encL_3 r (by omega) h1 hv]; simp
theorem flat_le : ∀ (rs : List Int), (∀ r ∈ rs, okR r) → (rs.flatMap encL).length ≤ 3 * rs.length
  | [], _ => by simp
  | r :: rs, h => by
    have h1 := encL_le r (h r (by simp))
    have h2 := flat_le rs fun x hx => h x (by simp [hx])
    rw [List.flatMap_cons, List.length_append, List.length_cons]
    omega
theorem plain_ok (ds : List Int) (h : okDs ds) : ∀ r ∈ plainR ds, okR r := fun r hr => by
  obtain ⟨d, hd, rfl⟩ := List.mem_map.1 hr
  exact okR_base 48 d (.inl rfl) (h d hd).1 (h d hd).2
theorem odd_ok (b : Int) (hb : isBase b) (ds : List Int) (h : okDs ds) : ∀ r ∈ oddR b ds, okR r := fun r hr => by
  rcases List.mem_cons.1 hr with rfl | hr
  · exact ⟨by omega, by omega, rfl⟩
  · obtain ⟨d, hd, hr⟩ := List.mem_flatMap.1 hr
    simp only [List.mem_cons, List.not_mem_nil, or_false] at hr
    rcases hr with rfl | rfl
    · exact okR_base b d hb (h d hd).1 (h d hd).2
    · exact ⟨by omega, by omega, rfl⟩
theorem plain_len (ds : List Int) : (plainR ds).length = ds.length := by simp [plainR]
theorem odd_len (b : Int) : ∀ (ds : List Int), (oddR b ds).length = 1 + 2 * ds.length := by
  intro ds
  unfold oddR
  induction ds with
  | nil => rfl
  | cons d ds ih => simp only [List.flatMap_cons, List.length_cons, List.length_append, List.length_nil] at ih ⊢; omega
theorem pow_6 (n k : Nat) (h : 10 ^ k ≤ n) (hn : n ≤ 900999) : k ≤ 5 := by
  by_cases hk : k ≤ 5
  · exact hk
  · have : 10 ^ 6 ≤ 10 ^ k := Nat.pow_le_pow_right (by decide) (by omega)
    omega
theorem pow_4 (n k : Nat) (h : n < 10 ^ k) (hn : 1000 ≤ n) : 4 ≤ k := by
  by_cases hk : 4 ≤ k
  · exact hk
  · have : 10 ^ k ≤ 10 ^ 3 := Nat.pow_le_pow_right (by decide) (by omega)
    omega
def plT (ds : List Int) : List UInt8 := (plainR ds).flatMap encL
def odT (b : Int) (ds : List Int) : List UInt8 := (oddR b ds).flatMap encL
theorem odT_S (b : Int) (ds : List Int) (d : Int) : odT b ds ++ (encL (b + d) ++ [45]) = odT b (ds ++ [d]) := by
  unfold odT; rw [odd_snoc, enc45, List.append_assoc]
theorem plT_S (ds : List Int) (d : Int) : plT ds ++ encL (48 + d) = plT (ds ++ [d]) := by
  unfold plT; rw [plain_snoc]
theorem plT_ds (ds : List Int) (h : okDs ds) : plT ds = ds8 ds := by
  unfold plT plainR ds8
  induction ds with
  | nil => rfl
  | cons d ds ih =>
    obtain ⟨h0, h9⟩ := h d (by simp)
    rw [List.map_cons, List.flatMap_cons, ih fun x hx => h x (by simp [hx]), encL_1 _ (by omega) (by omega), List.map_cons]
    have : (48 + d).toNat = 48 + d.toNat := by omega
    rw [this]; rfl
theorem spinR_of (s d : List UInt8) (id : Bn 4) (h : normF s = some d) : spinR s id = .tup [.agg (dg (digF d (saltF id) 16)), vi .i64 0] := by
  unfold spinR; rw [h]
set_option maxHeartbeats 4000000 in
theorem scripts3_C (n : Int) (id other : Bn 4) (script : Int) (hd : 0 ≤ n ∧ n ≤ 4294967295) : C Try.prog 6 [vi .u32 n, .agg (dg id), .agg (dg other), vi .i64 script] [] (vb true) [] := by
  refine C_of mixed Try.func6 A_clavigerlaw3_StretchScripts_ok A_clavigerlaw3_StretchScripts_res _ A_clavigerlaw3_StretchScripts_nt ?_
  have r9 := rem9_wrap n hd
  have w0 : IntKind.u32.wrap (n % 900000 + 1000) = n % 900000 + 1000 := IntWalk.u32_in _ ⟨by omega, by omega⟩
  obtain ⟨D0, hD⟩ : ∃ D : Nat, (D : Int) = n % 900000 + 1000 := ⟨(n % 900000 + 1000).toNat, by omega⟩
  rw [← hD] at w0
  have hDle : 1000 ≤ D0 ∧ D0 ≤ 900999 := by omega
  have key : ∀ (b : Int) S H, isBase b → Weak 0 ⟨S, H⟩ ⟨(.dead :: .dead :: .dead :: .dead :: .dead :: .ref 0 0 :: .ref 1 0 :: .dead :: vb false :: st [] :: st [32] :: vi .i32 b :: vi .u32 D0 :: .dead :: .dead :: .dead :: .dead :: .dead :: .dead :: .dead :: .dead :: .dead :: .dead :: .dead :: .dead :: .dead :: .dead :: .dead :: .dead :: .dead :: .dead :: .dead :: .dead :: .dead :: .dead :: .dead :: .dead :: .dead :: .dead :: .dead :: .dead :: .dead :: .dead :: .dead :: .dead :: .dead :: .dead :: .dead :: .dead :: .dead :: .dead :: .dead :: .dead :: .dead :: .dead :: .dead :: .dead :: .dead :: .dead :: .dead :: .dead :: .dead :: .dead :: .dead :: .dead :: .dead :: .dead :: .dead :: .dead :: .dead :: .dead :: .dead :: .dead :: .dead :: .dead :: .dead :: .dead :: .dead :: .dead :: .dead :: .dead :: .dead :: .dead :: .dead :: .dead :: .dead :: .dead :: .dead :: .dead :: .dead :: .dead :: .dead :: .dead :: []), [some (dg id), some (dg other)]⟩ →
     WK Try.prog 0 (Post [.tmp 8] 0 (vb true) []) (.loop A_clavigerlaw3_StretchScripts_L0) K_clavigerlaw3_StretchScripts_L0 S H := by
    intro b S H hb hweak
    have hbr : 48 ≤ b ∧ b ≤ 65296 := by unfold isBase at hb; omega
    refine wk_loop (fun m S H => ∃ (D : Nat) (ds : List Int), m = D ∧ okDs ds ∧ ds.length ≤ 6 ∧ D = D0 / 10 ^ ds.length ∧ S = (.dead :: .dead :: .dead :: .dead :: .dead :: .ref 0 0 :: .ref 1 0 :: .dead :: vb false :: st (plT ds) :: st (odT b ds) :: vi .i32 b :: vi .u32 D :: .dead :: .dead :: .dead :: .dead :: .dead :: .dead :: .dead :: .dead :: .dead :: .dead :: .dead :: .dead :: .dead :: .dead :: .dead :: .dead :: .dead :: .dead :: .dead :: .dead :: .dead :: .dead :: .dead :: .dead :: .dead :: .dead :: .dead :: .dead :: .dead :: .dead :: .dead :: .dead :: .dead :: .dead :: .dead :: .dead :: .dead :: .dead :: .dead :: .dead :: .dead :: .dead :: .dead :: .dead :: .dead :: .dead :: .dead :: .dead :: .dead :: .dead :: .dead :: .dead :: .dead :: .dead :: .dead :: .dead :: .dead :: .dead :: .dead :: .dead :: .dead :: .dead :: .dead :: .dead :: .dead :: .dead :: .dead :: .dead :: .dead :: .dead :: .dead :: .dead :: .dead :: .dead :: .dead :: .dead :: .dead :: .dead :: .dead :: .dead :: []) ∧ H = [some (dg id), some (dg other)]) D0 ⟨D0, [], rfl, (fun x hx => by cases hx), Nat.zero_le _, by simp, rfl, rfl⟩ hweak ?_
    rintro D S H ⟨_, ds, rfl, hds, h6, hdiv, rfl, rfl⟩ J hJ
    have hpl : (plT ds).length ≤ 18 := by
      have := flat_le _ (plain_ok ds hds)
      rw [plain_len] at this
      unfold plT; omega
    have hol : (odT b ds).length ≤ 39 := by
      have := flat_le _ (odd_ok b hb ds hds)
      rw [odd_len] at this
      unfold odT; omega
    by_cases hpos : 0 < D
    · have c1 : (0 : Int) < D := by omega
      have c1' : (D : Int) > 0 := by omega
      have hD9 : D ≤ 900999 := by rw [hdiv]; exact Nat.le_trans (Nat.div_le_self _ _) hDle.2
      have h10 : 10 ^ ds.length ≤ D0 := by
        by_cases hlt : D0 < 10 ^ ds.length
        · rw [Nat.div_eq_of_lt hlt] at hdiv; omega
        · omega
      have h5 := pow_6 D0 ds.length h10 hDle.2
      have q1 := quo_wrap D ⟨by omega, by omega⟩
      have q2 := rem_wrap D ⟨by omega, by omega⟩
      have q3 : ((D : Int)) / 10 = ((D / 10 : Nat) : Int) := by omega
      rw [q3] at q1
      obtain ⟨r, hr⟩ : ∃ r : Int, r = (D : Int) % 10 := ⟨_, rfl⟩
      have hr0 : 0 ≤ r ∧ r ≤ 9 := by omega
      rw [← hr] at q2
      have w1 : IntKind.u32.wrap (48 + r) = 48 + r := IntWalk.u32_in _ ⟨by omega, by omega⟩
      have w2 : IntKind.i32.wrap (48 + r) = 48 + r := IntWalk.i32_in _ ⟨by omega, by omega⟩
      have w3 : IntKind.i32.wrap r = r := IntWalk.i32_in _ ⟨by omega, by omega⟩
      have w4 : IntKind.i32.wrap (b + r) = b + r := IntWalk.i32_in _ ⟨by omega, by omega⟩
      have e1 := encL_le _ (okR_base 48 r (.inl rfl) hr0.1 hr0.2)
      have e2 := encL_le _ (okR_base b r hb hr0.1 hr0.2)
      have a1 := st_add (plT ds) (encL (48 + r)) (by omega)
      rw [plT_S] at a1
      have a2 := st_add (encL (b + r)) [45] (by simp; omega)
      have a3 := st_add (odT b ds) (encL (b + r) ++ [45]) (by simp; omega)
      rw [odT_S] at a3
      (repeat' (first | simp (maxSteps := 2000000) -implicitDefEqProofs only [A_clavigerlaw3_StretchScripts_L0, c1, c1', q1, q2, w1, w2, w3, w4, rune_st, a1, a2, a3, lr, lr2, oO, oN, oG, oNG, oM, oF, oL, rg, ci, Nat.reduceEqDiff, Nat.reduceAdd, Nat.reduceSub, Int.reduceTDiv, Int.reduceTMod, ge_iff_le, Int.reduceGE, Nat.reducePow, Int.reduceEq, Int.reduceNeg, Int.reduceLE, Int.reducePow, Int.reduceLT, Int.reduceSub, Int.reduceAdd, Int.reduceMul, Int.reduceToNat, Option.map_some, ↓reduceIte, ite_not, beq_iff_eq, bne_iff_ne, ne_eq, beq_self_eq_true, beq_eq_false_iff_ne, bne_eq_false_iff_eq, resAll, resL, resV, reduceCtorEq, Option.some.injEq, exists_eq_left', blkAt, Nat.reduceLeDiff, Nat.reduceMul, eq_self, Nat.reduceLT, undef, fillV, evParts, footOp, wrOp, chk, disj, Nat.reduceBEq] | split))
      exact hJ _ _ _ _ _ (by omega) ⟨D / 10, ds ++ [r], rfl, (fun x hx => by rcases List.mem_append.1 hx with h | h; exact hds x h; rw [List.mem_singleton.1 h]; exact hr0), by simp; omega, by rw [hdiv, Nat.div_div_eq_div_mul, List.length_append, List.length_singleton, Nat.pow_succ], rfl, rfl⟩ (by refine .ren _ _ _ [0, 1] (by decide) (by intro k h; first | exact absurd h (Nat.not_lt_zero k) | (simp at h; done) | (match k, h with | 0, _ => rfl)) ?_ ?_ <;> simp [KeepS, KeepH, ArgRel, ArgRelL, argL_cl, arg_cl, row_l_of, row_l_nil, bn_len, blkAt])
    · obtain rfl : D = 0 := by omega
      have c1 : ¬ (0 : Int) > 0 := by omega
      have c2 : ¬ (0 : Int) < 0 := by omega
      have hlt : D0 < 10 ^ ds.length := by
        by_cases hlt : D0 < 10 ^ ds.length
        · exact hlt
        · have := Nat.div_pos (Nat.le_of_not_lt hlt) (Nat.pow_pos (by decide : 0 < 10))
          omega
      have h4 := pow_4 D0 ds.length hlt hDle.1
      have n1 : normF (plT ds) = some (ds8 ds) := norm_plain ds hds h4 (by omega)
      have n2 : normF (odT b ds) = some (ds8 ds) := norm_odd b hb ds hds h4 (by omega)
      have s1 := spin_C (plT ds) id (by omega)
      have s2 := spin_C (odT b ds) id (by omega)
      have s3 := spin_C (odT b ds) other (by omega)
      rw [spinR_of _ _ _ n1] at s1
      rw [spinR_of _ _ _ n2] at s2 s3
      have s4 := rdigits_C (plT ds) (saltF other) 16 (by omega)
      rw [rnd_16, plT_ds ds hds] at s4
      rw [plT_ds ds hds] at s1
      rw [plT_ds ds hds]
      (repeat' (first | simp (maxSteps := 2000000) -implicitDefEqProofs only [A_clavigerlaw3_StretchScripts_L0, K_clavigerlaw3_StretchScripts_L0, c1, c2, lr, lr2, oO, oN, oG, oNG, oM, oF, oL, rg, ci, Nat.reduceEqDiff, Nat.reduceAdd, Nat.reduceSub, Int.reduceTDiv, Int.reduceTMod, ge_iff_le, Int.reduceGE, Nat.reducePow, Int.reduceEq, Int.reduceNeg, Int.reduceLE, Int.reducePow, Int.reduceLT, Int.reduceSub, Int.reduceAdd, Int.reduceMul, Int.reduceToNat, Option.map_some, ↓reduceIte, ite_not, beq_iff_eq, bne_iff_ne, ne_eq, beq_self_eq_true, beq_eq_false_iff_ne, bne_eq_false_iff_eq, resAll, resL, resV, reduceCtorEq, Option.some.injEq, exists_eq_left', blkAt, Nat.reduceLeDiff, Nat.reduceMul, eq_self, Nat.reduceLT, undef, fillV, evParts, footOp, wrOp, chk, disj, Nat.reduceBEq] | split | ((first | apply ck_call | apply cfk_call); (first | (apply call_pure (s1) cll cl) | (apply call_pure (s2) cll cl) | (apply call_pure (s3) cll cl) | (apply call_pure (rsalt_C other) cll cl) | (apply call_pure (s4) cll cl) | (apply call_pure (known3_C) cll cl)))))
      exact out_eq rfl cl
  obtain ⟨j, hj, hq⟩ : ∃ j : Nat, j ≤ 3 ∧ (script.tmod 4 + 4).tmod 4 = (j : Int) := by
    have h1 := Int.tmod_lt_of_pos script (show (0 : Int) < 4 by decide)
    have h2 := Int.lt_tmod_of_pos script (show (0 : Int) < 4 by decide)
    refine ⟨((script.tmod 4 + 4).tmod 4).toNat, ?_, ?_⟩
    · rw [Int.tmod_eq_emod_of_nonneg (by omega)]; omega
    · rw [Int.tmod_eq_emod_of_nonneg (by omega)]; omega
  have w5 : IntKind.i64.wrap (script.tmod 4 + 4) = script.tmod 4 + 4 := by
    have h1 := Int.tmod_lt_of_pos script (show (0 : Int) < 4 by decide)
    have h2 := Int.lt_tmod_of_pos script (show (0 : Int) < 4 by decide)
    exact wrap_id _ (by omega) (by omega)
  have q5 := bin_rem .i64 script 4 (by decide)
  have q6 := bin_rem .i64 (script.tmod 4 + 4) 4 (by decide)
  rw [hq] at q6
  generalize script.tmod 4 = Y' at *
  rcases (by omega : j = 0 ∨ j = 1 ∨ j = 2 ∨ j = 3) with rfl | rfl | rfl | rfl
  · (repeat' (first | simp (maxSteps := 2000000) -implicitDefEqProofs only [A_clavigerlaw3_StretchScripts, r9, hD.symm, w0, w5, q5, q6, lr, lr2, oO, oN, oG, oNG, oM, oF, oL, rg, ci, Nat.reduceEqDiff, Nat.reduceAdd, Nat.reduceSub, Int.reduceTDiv, Int.reduceTMod, ge_iff_le, Int.reduceGE, Nat.reducePow, Int.reduceEq, Int.reduceNeg, Int.reduceLE, Int.reducePow, Int.reduceLT, Int.reduceSub, Int.reduceAdd, Int.reduceMul, Int.reduceToNat, Option.map_some, ↓reduceIte, ite_not, beq_iff_eq, bne_iff_ne, ne_eq, beq_self_eq_true, beq_eq_false_iff_ne, bne_eq_false_iff_eq, resAll, resL, resV, reduceCtorEq, Option.some.injEq, exists_eq_left', blkAt, Nat.reduceLeDiff, Nat.reduceMul, eq_self, Nat.reduceLT, undef, fillV, evParts, footOp, wrOp, chk, disj, Nat.reduceBEq] | split))
    exact key 48 _ _ (.inl rfl) (by refine .ren _ _ _ [0, 1] (by decide) (by intro k h; first | exact absurd h (Nat.not_lt_zero k) | (simp at h; done) | (match k, h with | 0, _ => rfl)) ?_ ?_ <;> simp [KeepS, KeepH, ArgRel, ArgRelL, argL_cl, arg_cl, row_l_of, row_l_nil, bn_len, blkAt])
  · (repeat' (first | simp (maxSteps := 2000000) -implicitDefEqProofs only [A_clavigerlaw3_StretchScripts, r9, hD.symm, w0, w5, q5, q6, lr, lr2, oO, oN, oG, oNG, oM, oF, oL, rg, ci, Nat.reduceEqDiff, Nat.reduceAdd, Nat.reduceSub, Int.reduceTDiv, Int.reduceTMod, ge_iff_le, Int.reduceGE, Nat.reducePow, Int.reduceEq, Int.reduceNeg, Int.reduceLE, Int.reducePow, Int.reduceLT, Int.reduceSub, Int.reduceAdd, Int.reduceMul, Int.reduceToNat, Option.map_some, ↓reduceIte, ite_not, beq_iff_eq, bne_iff_ne, ne_eq, beq_self_eq_true, beq_eq_false_iff_ne, bne_eq_false_iff_eq, resAll, resL, resV, reduceCtorEq, Option.some.injEq, exists_eq_left', blkAt, Nat.reduceLeDiff, Nat.reduceMul, eq_self, Nat.reduceLT, undef, fillV, evParts, footOp, wrOp, chk, disj, Nat.reduceBEq] | split))
    exact key 65296 _ _ (.inr (.inl rfl)) (by refine .ren _ _ _ [0, 1] (by decide) (by intro k h; first | exact absurd h (Nat.not_lt_zero k) | (simp at h; done) | (match k, h with | 0, _ => rfl)) ?_ ?_ <;> simp [KeepS, KeepH, ArgRel, ArgRelL, argL_cl, arg_cl, row_l_of, row_l_nil, bn_len, blkAt])
  · (repeat' (first | simp (maxSteps := 2000000) -implicitDefEqProofs only [A_clavigerlaw3_StretchScripts, r9, hD.symm, w0, w5, q5, q6, lr, lr2, oO, oN, oG, oNG, oM, oF, oL, rg, ci, Nat.reduceEqDiff, Nat.reduceAdd, Nat.reduceSub, Int.reduceTDiv, Int.reduceTMod, ge_iff_le, Int.reduceGE, Nat.reducePow, Int.reduceEq, Int.reduceNeg, Int.reduceLE, Int.reducePow, Int.reduceLT, Int.reduceSub, Int.reduceAdd, Int.reduceMul, Int.reduceToNat, Option.map_some, ↓reduceIte, ite_not, beq_iff_eq, bne_iff_ne, ne_eq, beq_self_eq_true, beq_eq_false_iff_ne, bne_eq_false_iff_eq, resAll, resL, resV, reduceCtorEq, Option.some.injEq, exists_eq_left', blkAt, Nat.reduceLeDiff, Nat.reduceMul, eq_self, Nat.reduceLT, undef, fillV, evParts, footOp, wrOp, chk, disj, Nat.reduceBEq] | split))
    exact key 1632 _ _ (.inr (.inr (.inl rfl))) (by refine .ren _ _ _ [0, 1] (by decide) (by intro k h; first | exact absurd h (Nat.not_lt_zero k) | (simp at h; done) | (match k, h with | 0, _ => rfl)) ?_ ?_ <;> simp [KeepS, KeepH, ArgRel, ArgRelL, argL_cl, arg_cl, row_l_of, row_l_nil, bn_len, blkAt])
  · (repeat' (first | simp (maxSteps := 2000000) -implicitDefEqProofs only [A_clavigerlaw3_StretchScripts, r9, hD.symm, w0, w5, q5, q6, lr, lr2, oO, oN, oG, oNG, oM, oF, oL, rg, ci, Nat.reduceEqDiff, Nat.reduceAdd, Nat.reduceSub, Int.reduceTDiv, Int.reduceTMod, ge_iff_le, Int.reduceGE, Nat.reducePow, Int.reduceEq, Int.reduceNeg, Int.reduceLE, Int.reducePow, Int.reduceLT, Int.reduceSub, Int.reduceAdd, Int.reduceMul, Int.reduceToNat, Option.map_some, ↓reduceIte, ite_not, beq_iff_eq, bne_iff_ne, ne_eq, beq_self_eq_true, beq_eq_false_iff_ne, bne_eq_false_iff_eq, resAll, resL, resV, reduceCtorEq, Option.some.injEq, exists_eq_left', blkAt, Nat.reduceLeDiff, Nat.reduceMul, eq_self, Nat.reduceLT, undef, fillV, evParts, footOp, wrOp, chk, disj, Nat.reduceBEq] | split))
    exact key 1776 _ _ (.inr (.inr (.inr rfl))) (by refine .ren _ _ _ [0, 1] (by decide) (by intro k h; first | exact absurd h (Nat.not_lt_zero k) | (simp at h; done) | (match k, h with | 0, _ => rfl)) ?_ ?_ <;> simp [KeepS, KeepH, ArgRel, ArgRelL, argL_cl, arg_cl, row_l_of, row_l_nil, bn_len, blkAt])
end Go.Proofs.Ytmmaenfjnkoknaa.VA
