/- A member is taken out of a roster. -/
import Derived.Test.YtmmaenfjnkoknaaDros
import Derived.Test.YtmmaenfjnkoknaaVC
set_option linter.unusedVariables false
set_option linter.unusedSimpArgs false
set_option maxRecDepth 100000
namespace Go.Proofs.Ytmmaenfjnkoknaa.VA
open Go
attribute [local irreducible] WK NK XK TK RK FK CK CFK CallRel C
attribute [local irreducible] RosP majL
theorem out_two {H : Heap} {v r : V} {c1 c2 : List V} (hb1 : blkAt H 0 = some c1) (hb2 : blkAt H 1 = some c2) (h1 : ClosedL c1) (h2 : ClosedL c2) (h : ArgRel H [0, 1] [] v r) : OutOK 2 H v r [some c1, some c2] := by
  refine ⟨[0, 1], [], by simp, rfl, Nat.le_refl _, fun k hk => ?_, (fun _ h => by cases h), h, fun k c hc => ?_⟩
  · match k, hk with
    | 0, _ => rfl
    | 1, _ => rfl
  · match k, hc with
    | 0, hc => simp at hc; subst hc; exact ⟨0, c1, rfl, hb1, argL_closed c1 h1⟩
    | 1, hc => simp at hc; subst hc; exact ⟨1, c2, rfl, hb2, argL_closed c2 h2⟩
    | k + 2, hc => simp at hc
theorem calla1 : Callable Try.prog 156 = true := by kernel_rfl
theorem wo1_C (x m : Int) : C Try.prog 156 [vi .i64 x, .ref 0 0] [[vi .i64 m]] (vb (decide (x = m))) [some [vi .i64 m]] := by
  refine C_of mixed Try.func156 A_roster_Without_1_ok A_roster_Without_1_res _ A_roster_Without_1_nt ?_
  have g : rd none [vi .i64 m] 0 = some (vi .i64 m) := rfl
  (repeat' (first | simp (maxSteps := 2000000) -implicitDefEqProofs only [A_roster_Without_1, g, Int.reduceBNe, Int.reduceBEq, rk_ext, fk_ext, len_ints, idx_ints, cells_ints, len_lst, cells_lst, sm_c, sm_a, src_ints, zros_v, zros_m, ints_nil_l, lrp, rk_callv, cvk_fn, true_and, List.append_nil, List.cons_append, List.nil_append, lr_ros, lr, lr2, oO, oN, oG, oNG, oM, oF, oL, rg, ci, Nat.reduceEqDiff, Nat.reduceAdd, Nat.reduceSub, Int.reduceTDiv, Int.reduceTMod, ge_iff_le, Int.reduceGE, Nat.reducePow, Int.reduceEq, Int.reduceNeg, Int.reduceLE, Int.reducePow, Int.reduceLT, Int.reduceSub, Int.reduceAdd, Int.reduceMul, Int.reduceToNat, Option.map_some, ↓reduceIte, ite_not, beq_iff_eq, bne_iff_ne, ne_eq, beq_self_eq_true, beq_eq_false_iff_ne, bne_eq_false_iff_eq, resAll, resL, resV, reduceCtorEq, Option.some.injEq, exists_eq_left', blkAt, Nat.reduceLeDiff, Nat.reduceMul, eq_self, Nat.reduceLT, undef, fillV, evParts, footOp, wrOp, chk, disj, Nat.reduceBEq] | split))
  refine out_updE rfl rfl ?_ ⟨trivial, trivial⟩ trivial
  by_cases h : x = m <;> simp [h]
theorem rel_1 {H : Heap} {x : Int} {id : Nat} : ArgRelL H [id] [] [vi .i64 x, .ref id 0] [vi .i64 x, .ref 0 0] :=
  argL_cons (arg_closed _ trivial) (argL_cons (by simp only [ArgRel]; exact ⟨0, rfl, rfl⟩) argL_nil)
set_option maxHeartbeats 4000000 in
theorem indexF_C (l : List Int) (q : Int) (n : Nat) (hn : n = l.length) (h12 : l.length ≤ 1000) : C Try.prog 204 [.sref 0 0 n 1, .fn 156 [.ref 1 0]] [l.map (vi .i64), [vi .i64 q]] (vi .i64 (idxI l q)) [some (l.map (vi .i64)), some [vi .i64 q]] := by
  refine C_of mixed Try.func204 A_slices_IndexFunc_int_int_ok A_slices_IndexFunc_int_int_res _ A_slices_IndexFunc_int_int_nt ?_
  (repeat' (first | simp (maxSteps := 2000000) -implicitDefEqProofs only [A_slices_IndexFunc_int_int, Int.reduceBNe, Int.reduceBEq, rk_ext, fk_ext, len_ints, idx_ints, cells_ints, len_lst, cells_lst, sm_c, sm_a, src_ints, zros_v, zros_m, ints_nil_l, lrp, rk_callv, cvk_fn, true_and, List.append_nil, List.cons_append, List.nil_append, lr_ros, lr, lr2, oO, oN, oG, oNG, oM, oF, oL, rg, ci, Nat.reduceEqDiff, Nat.reduceAdd, Nat.reduceSub, Int.reduceTDiv, Int.reduceTMod, ge_iff_le, Int.reduceGE, Nat.reducePow, Int.reduceEq, Int.reduceNeg, Int.reduceLE, Int.reducePow, Int.reduceLT, Int.reduceSub, Int.reduceAdd, Int.reduceMul, Int.reduceToNat, Option.map_some, ↓reduceIte, ite_not, beq_iff_eq, bne_iff_ne, ne_eq, beq_self_eq_true, beq_eq_false_iff_ne, bne_eq_false_iff_eq, resAll, resL, resV, reduceCtorEq, Option.some.injEq, exists_eq_left', blkAt, Nat.reduceLeDiff, Nat.reduceMul, eq_self, Nat.reduceLT, undef, fillV, evParts, footOp, wrOp, chk, disj, Nat.reduceBEq] | split))
  have cq : ClosedL [vi .i64 q] := ⟨trivial, trivial⟩
  have rf : ∀ H : Heap, ArgRel H [0, 1] [] (.fn 156 [.ref 1 0]) (.fn 156 [.ref 1 0]) := fun H => by simp only [ArgRel, ArgRelL]; exact ⟨_, rfl, _, _, rfl, ⟨1, rfl, rfl⟩, rfl⟩
  refine wk_loop (fun z S H => ∃ i : Nat, i ≤ n ∧ q ∉ l.take i ∧ z = n - i ∧ S = (.sref 0 0 n 1 :: .fn 156 [.ref 1 0] :: .dead :: .dead :: vi .i64 0 :: .dead :: .dead :: vi .i64 n :: vi .i64 i :: .dead :: .dead :: .dead :: .dead :: .dead :: .dead :: .dead :: .dead :: .dead :: .dead :: []) ∧ H = [some (l.map (vi .i64)), some [vi .i64 q]]) n ⟨0, Nat.zero_le _, by simp, rfl, rfl, rfl⟩ (by refine .ren _ _ _ [0, 1] (by decide) (by intro k h; first | exact absurd h (Nat.not_lt_zero k) | (simp at h; done) | (rcases k with _ | _ | _ | k <;> first | rfl | (exfalso; omega) | (simp at h; done))) ?_ ?_ <;> simp [KeepS, KeepH, ArgRel, ArgRelL, argL_cl, arg_cl, row_l_of, row_l_nil, bn_len, blkAt]) ?_
  rintro z S H ⟨i, hi, hP, rfl, rfl, rfl⟩ J hJ
  have d0 : (0 : Int) ≤ i := by omega
  by_cases hin : i < n
  · have d1 : (i : Int) < n := by omega
    have w1 : IntKind.i64.wrap ((i : Int) + 1) = ((i + 1 : Nat) : Int) := by rw [wrap_id _ (by omega) (by omega)]; omega
    have g1 := rd_i l i (by omega)
    have s1 := take_snocI l i (by omega)
    (repeat' (first | simp (maxSteps := 2000000) -implicitDefEqProofs only [A_slices_IndexFunc_int_int_L0, d0, d1, w1, g1, calla1, Int.reduceBNe, Int.reduceBEq, rk_ext, fk_ext, len_ints, idx_ints, cells_ints, len_lst, cells_lst, sm_c, sm_a, src_ints, zros_v, zros_m, ints_nil_l, lrp, rk_callv, cvk_fn, true_and, List.append_nil, List.cons_append, List.nil_append, lr_ros, lr, lr2, oO, oN, oG, oNG, oM, oF, oL, rg, ci, Nat.reduceEqDiff, Nat.reduceAdd, Nat.reduceSub, Int.reduceTDiv, Int.reduceTMod, ge_iff_le, Int.reduceGE, Nat.reducePow, Int.reduceEq, Int.reduceNeg, Int.reduceLE, Int.reducePow, Int.reduceLT, Int.reduceSub, Int.reduceAdd, Int.reduceMul, Int.reduceToNat, Option.map_some, ↓reduceIte, ite_not, beq_iff_eq, bne_iff_ne, ne_eq, beq_self_eq_true, beq_eq_false_iff_ne, bne_eq_false_iff_eq, resAll, resL, resV, reduceCtorEq, Option.some.injEq, exists_eq_left', blkAt, Nat.reduceLeDiff, Nat.reduceMul, eq_self, Nat.reduceLT, undef, fillV, evParts, footOp, wrOp, chk, disj, Nat.reduceBEq] | split))
    refine ck_call _ _ (call_one (id := 1) (r2 := vb (decide (l.getD i 0 = q))) (wo1_C (l.getD i 0) q) rfl cq cq rel_1 (by simp [idsInL, idsIn, gRos_members_ids]) rfl) ?_
    by_cases hx : l.getD i 0 = q
    · have e := idxI_some l q i (by omega) hx hP
      rw [e]
      (repeat' (first | simp (maxSteps := 2000000) -implicitDefEqProofs only [d0, d1, w1, hx, Int.reduceBNe, Int.reduceBEq, rk_ext, fk_ext, len_ints, idx_ints, cells_ints, len_lst, cells_lst, sm_c, sm_a, src_ints, zros_v, zros_m, ints_nil_l, lrp, rk_callv, cvk_fn, true_and, List.append_nil, List.cons_append, List.nil_append, lr_ros, lr, lr2, oO, oN, oG, oNG, oM, oF, oL, rg, ci, Nat.reduceEqDiff, Nat.reduceAdd, Nat.reduceSub, Int.reduceTDiv, Int.reduceTMod, ge_iff_le, Int.reduceGE, Nat.reducePow, Int.reduceEq, Int.reduceNeg, Int.reduceLE, Int.reducePow, Int.reduceLT, Int.reduceSub, Int.reduceAdd, Int.reduceMul, Int.reduceToNat, Option.map_some, ↓reduceIte, ite_not, beq_iff_eq, bne_iff_ne, ne_eq, beq_self_eq_true, beq_eq_false_iff_ne, bne_eq_false_iff_eq, resAll, resL, resV, reduceCtorEq, Option.some.injEq, exists_eq_left', blkAt, Nat.reduceLeDiff, Nat.reduceMul, eq_self, Nat.reduceLT, undef, fillV, evParts, footOp, wrOp, chk, disj, Nat.reduceBEq] | split))
      exact out_two rfl rfl (nums_closed _ _) cq (arg_closed _ trivial)
    · (repeat' (first | simp (maxSteps := 2000000) -implicitDefEqProofs only [d0, d1, w1, hx, Int.reduceBNe, Int.reduceBEq, rk_ext, fk_ext, len_ints, idx_ints, cells_ints, len_lst, cells_lst, sm_c, sm_a, src_ints, zros_v, zros_m, ints_nil_l, lrp, rk_callv, cvk_fn, true_and, List.append_nil, List.cons_append, List.nil_append, lr_ros, lr, lr2, oO, oN, oG, oNG, oM, oF, oL, rg, ci, Nat.reduceEqDiff, Nat.reduceAdd, Nat.reduceSub, Int.reduceTDiv, Int.reduceTMod, ge_iff_le, Int.reduceGE, Nat.reducePow, Int.reduceEq, Int.reduceNeg, Int.reduceLE, Int.reducePow, Int.reduceLT, Int.reduceSub, Int.reduceAdd, Int.reduceMul, Int.reduceToNat, Option.map_some, ↓reduceIte, ite_not, beq_iff_eq, bne_iff_ne, ne_eq, beq_self_eq_true, beq_eq_false_iff_ne, bne_eq_false_iff_eq, resAll, resL, resV, reduceCtorEq, Option.some.injEq, exists_eq_left', blkAt, Nat.reduceLeDiff, Nat.reduceMul, eq_self, Nat.reduceLT, undef, fillV, evParts, footOp, wrOp, chk, disj, Nat.reduceBEq] | split))
      exact hJ _ _ _ _ _ (by omega) ⟨i + 1, by omega, (by rw [s1, List.mem_append, List.mem_singleton]; exact fun h => h.elim hP fun h => hx h.symm), rfl, rfl, rfl⟩ (by refine .ren _ _ _ [0, 1] (by decide) (by intro k h; first | exact absurd h (Nat.not_lt_zero k) | (simp at h; done) | (rcases k with _ | _ | _ | k <;> first | rfl | (exfalso; omega) | (simp at h; done))) ?_ ?_ <;> simp [KeepS, KeepH, ArgRel, ArgRelL, argL_cl, arg_cl, row_l_of, row_l_nil, bn_len, blkAt])
  · obtain rfl : i = n := by omega
    have d1 : ¬ ((i : Nat) : Int) < i := by omega
    rw [hn, List.take_length] at hP
    rw [idxI_none _ _ hP]
    (repeat' (first | simp (maxSteps := 2000000) -implicitDefEqProofs only [A_slices_IndexFunc_int_int_L0, K_slices_IndexFunc_int_int_L0, d1, Int.reduceBNe, Int.reduceBEq, rk_ext, fk_ext, len_ints, idx_ints, cells_ints, len_lst, cells_lst, sm_c, sm_a, src_ints, zros_v, zros_m, ints_nil_l, lrp, rk_callv, cvk_fn, true_and, List.append_nil, List.cons_append, List.nil_append, lr_ros, lr, lr2, oO, oN, oG, oNG, oM, oF, oL, rg, ci, Nat.reduceEqDiff, Nat.reduceAdd, Nat.reduceSub, Int.reduceTDiv, Int.reduceTMod, ge_iff_le, Int.reduceGE, Nat.reducePow, Int.reduceEq, Int.reduceNeg, Int.reduceLE, Int.reducePow, Int.reduceLT, Int.reduceSub, Int.reduceAdd, Int.reduceMul, Int.reduceToNat, Option.map_some, ↓reduceIte, ite_not, beq_iff_eq, bne_iff_ne, ne_eq, beq_self_eq_true, beq_eq_false_iff_ne, bne_eq_false_iff_eq, resAll, resL, resV, reduceCtorEq, Option.some.injEq, exists_eq_left', blkAt, Nat.reduceLeDiff, Nat.reduceMul, eq_self, Nat.reduceLT, undef, fillV, evParts, footOp, wrOp, chk, disj, Nat.reduceBEq] | split))
    exact out_two rfl rfl (nums_closed _ _) cq (arg_closed _ trivial)
def delF (l : List Int) (q : Int) : List Int := l.filter fun x => !decide (x = q)
theorem delF_take (l : List Int) (q : Int) (j : Nat) (h : j < l.length) : delF (l.take (j + 1)) q = if l.getD j 0 = q then delF (l.take j) q else delF (l.take j) q ++ [l.getD j 0] := by
  rw [take_snocI l j h]
  unfold delF
  rw [List.filter_append]
  generalize l.getD j 0 = y
  by_cases hx : y = q
  · rw [if_pos hx]; simp [hx]
  · rw [if_neg hx]; simp [hx]
theorem delF_le (l : List Int) (q : Int) : (delF l q).length ≤ l.length := List.length_filter_le _ _
theorem delF_no (l : List Int) (q : Int) (h : q ∉ l) : delF l q = l := by
  unfold delF
  rw [List.filter_eq_self]
  intro x hx
  simp only [Bool.not_eq_true', decide_eq_false_iff_not]
  rintro rfl; exact h hx
def midF (l : List Int) (q : Int) (j : Nat) : List Int := delF (l.take j) q ++ l.drop (delF (l.take j) q).length
theorem midF_len (l : List Int) (q : Int) (j : Nat) : (midF l q j).length = l.length := by
  have := delF_le (l.take j) q
  rw [List.length_take] at this
  unfold midF
  rw [List.length_append, List.length_drop]
  omega
theorem midF_at (l : List Int) (q : Int) (j : Nat) (h : j < l.length) : (midF l q j).getD j 0 = l.getD j 0 := by
  have := delF_le (l.take j) q
  rw [List.length_take] at this
  unfold midF
  rw [List.getD_eq_getElem?_getD, List.getElem?_append_right (by omega), List.getElem?_drop, show (delF (l.take j) q).length + (j - (delF (l.take j) q).length) = j by omega, ← List.getD_eq_getElem?_getD]
theorem midF_skip (l : List Int) (q : Int) (j : Nat) (h : j < l.length) (hx : l.getD j 0 = q) : midF l q (j + 1) = midF l q j := by
  unfold midF; rw [delF_take l q j h, if_pos hx]
theorem midF_put (l : List Int) (q : Int) (j : Nat) (h : j < l.length) (hx : ¬ l.getD j 0 = q) : (midF l q j).set (delF (l.take j) q).length (l.getD j 0) = midF l q (j + 1) := by
  have := delF_le (l.take j) q
  rw [List.length_take] at this
  unfold midF; rw [delF_take l q j h, if_neg hx]
  rw [List.set_append_right _ _ (Nat.le_refl _), Nat.sub_self, List.length_append, List.length_singleton]
  have hd : l.drop (delF (l.take j) q).length = l.getD (delF (l.take j) q).length 0 :: l.drop ((delF (l.take j) q).length + 1) := by
    rw [List.drop_eq_getElem_cons (by omega)]
    congr 1
    rw [List.getD_eq_getElem?_getD, List.getElem?_eq_getElem (by omega)]; rfl
  rw [hd, List.set_cons_zero, List.append_assoc]; rfl
theorem midF_0 (l : List Int) (q : Int) (i : Nat) (hi : i < l.length) (hx : l.getD i 0 = q) (hno : q ∉ l.take i) : midF l q (i + 1) = l ∧ (delF (l.take (i + 1)) q).length = i := by
  have h1 : delF (l.take (i + 1)) q = l.take i := by
    rw [delF_take l q i hi, if_pos hx, delF_no _ _ hno]
  unfold midF
  rw [h1]
  have : (l.take i).length = i := by rw [List.length_take]; omega
  rw [this]
  exact ⟨List.take_append_drop i l, rfl⟩
theorem idxI_spec (l : List Int) (q : Int) (h : q ∈ l) : ∃ i : Nat, i < l.length ∧ l.getD i 0 = q ∧ q ∉ l.take i ∧ idxI l q = i := by
  have hs : (l.findIdx? (· == q)).isSome = true := by
    rw [List.findIdx?_isSome, List.any_eq_true]
    exact ⟨q, h, by simp⟩
  obtain ⟨i, hi⟩ := Option.isSome_iff_exists.1 hs
  obtain ⟨h1, h2, h3⟩ := List.findIdx?_eq_some_iff_getElem.1 hi
  refine ⟨i, h1, ?_, ?_, ?_⟩
  · rw [List.getD_eq_getElem?_getD, List.getElem?_eq_getElem h1]
    simpa using h2
  · intro hm
    obtain ⟨j, hj, hjq⟩ := List.mem_take_iff_getElem.1 hm
    have := h3 j (by omega)
    simp only [beq_iff_eq, Bool.not_eq_true] at this
    exact absurd hjq (by simpa using this)
  · unfold idxI; rw [hi]
def padI (l : List Int) (q : Int) : List Int := delF l q ++ List.replicate (l.length - (delF l q).length) 0
theorem zap_i (l : List Int) (k n : Nat) (hn : n = l.length) (hk : k ≤ n) : splice (l.map (vi .i64)) k (zeroCells [.int .i64 0] (n - k)) = (l.take k ++ List.replicate (n - k) 0).map (vi .i64) := by
  have hz : zeroCells [.int .i64 0] (n - k) = (List.replicate (n - k) (0 : Int)).map (vi .i64) := by
    simp [zeroCells]
  rw [hz]
  unfold splice
  rw [List.length_map, List.length_replicate, List.map_append, List.map_take, show k + (n - k) = n by omega, List.drop_of_length_le (by simp [hn]), List.append_nil]
theorem rel_2 {H : Heap} {i j n g : Nat} : ArgRelL H [i, j] [] [.sref i 0 n 1, .fn g [.ref j 0]] [.sref 0 0 n 1, .fn g [.ref 1 0]] :=
  argL_cons (by simp only [ArgRel]; exact .inl ⟨0, rfl, rfl⟩) (argL_cons (by simp only [ArgRel, ArgRelL]; exact ⟨_, rfl, _, _, rfl, ⟨1, rfl, rfl⟩, rfl⟩) argL_nil)
set_option maxHeartbeats 8000000 in
theorem deleteF_C (l : List Int) (q : Int) (n : Nat) (hn : n = l.length) (h12 : l.length ≤ 1000) (hq : q ∈ l) : C Try.prog 155 [.sref 0 0 n 1, .fn 156 [.ref 1 0]] [l.map (vi .i64), [vi .i64 q]]
    (.sref 0 0 (delF l q).length 1) [some ((padI l q).map (vi .i64)), some [vi .i64 q]] := by
  obtain ⟨i0, hi0, hx0, hno, hidx⟩ := idxI_spec l q hq
  obtain ⟨m1, m2⟩ := midF_0 l q i0 hi0 hx0 hno
  have cq : ClosedL [vi .i64 q] := ⟨trivial, trivial⟩
  have c0 : ¬ (i0 : Int) = -1 := by omega
  have w0 : IntKind.i64.wrap ((i0 : Int) + 1) = ((i0 + 1 : Nat) : Int) := by rw [wrap_id _ (by omega) (by omega)]; omega
  refine C_of mixed Try.func155 A_slices_DeleteFunc_int_int_ok A_slices_DeleteFunc_int_int_res _ A_slices_DeleteFunc_int_int_nt ?_
  (repeat' (first | simp (maxSteps := 2000000) -implicitDefEqProofs only [A_slices_DeleteFunc_int_int, Int.reduceBNe, Int.reduceBEq, rk_ext, fk_ext, len_ints, idx_ints, cells_ints, len_lst, cells_lst, sm_c, sm_a, src_ints, zros_v, zros_m, ints_nil_l, lrp, rk_callv, cvk_fn, true_and, List.append_nil, List.cons_append, List.nil_append, lr_ros, lr, lr2, oO, oN, oG, oNG, oM, oF, oL, rg, ci, Nat.reduceEqDiff, Nat.reduceAdd, Nat.reduceSub, Int.reduceTDiv, Int.reduceTMod, ge_iff_le, Int.reduceGE, Nat.reducePow, Int.reduceEq, Int.reduceNeg, Int.reduceLE, Int.reducePow, Int.reduceLT, Int.reduceSub, Int.reduceAdd, Int.reduceMul, Int.reduceToNat, Option.map_some, ↓reduceIte, ite_not, beq_iff_eq, bne_iff_ne, ne_eq, beq_self_eq_true, beq_eq_false_iff_ne, bne_eq_false_iff_eq, resAll, resL, resV, reduceCtorEq, Option.some.injEq, exists_eq_left', blkAt, Nat.reduceLeDiff, Nat.reduceMul, eq_self, Nat.reduceLT, undef, fillV, evParts, footOp, wrOp, chk, disj, Nat.reduceBEq] | split))
  refine ck_call _ _ (call_two (i := 0) (j := 1) (r2 := vi .i64 (idxI l q)) (indexF_C l q n hn h12) (by decide) rfl rfl (nums_closed _ _) cq (nums_closed _ _) cq rel_2 (by simp [idsInL, idsIn, gRos_members_ids]) (by simp [idsInL, idsIn, gRos_members_ids]) rfl) ?_
  rw [hidx]
  (repeat' (first | simp (maxSteps := 2000000) -implicitDefEqProofs only [c0, w0, Int.reduceBNe, Int.reduceBEq, rk_ext, fk_ext, len_ints, idx_ints, cells_ints, len_lst, cells_lst, sm_c, sm_a, src_ints, zros_v, zros_m, ints_nil_l, lrp, rk_callv, cvk_fn, true_and, List.append_nil, List.cons_append, List.nil_append, lr_ros, lr, lr2, oO, oN, oG, oNG, oM, oF, oL, rg, ci, Nat.reduceEqDiff, Nat.reduceAdd, Nat.reduceSub, Int.reduceTDiv, Int.reduceTMod, ge_iff_le, Int.reduceGE, Nat.reducePow, Int.reduceEq, Int.reduceNeg, Int.reduceLE, Int.reducePow, Int.reduceLT, Int.reduceSub, Int.reduceAdd, Int.reduceMul, Int.reduceToNat, Option.map_some, ↓reduceIte, ite_not, beq_iff_eq, bne_iff_ne, ne_eq, beq_self_eq_true, beq_eq_false_iff_ne, bne_eq_false_iff_eq, resAll, resL, resV, reduceCtorEq, Option.some.injEq, exists_eq_left', blkAt, Nat.reduceLeDiff, Nat.reduceMul, eq_self, Nat.reduceLT, undef, fillV, evParts, footOp, wrOp, chk, disj, Nat.reduceBEq] | split))
  refine wk_loop (fun z S H => ∃ j : Nat, i0 + 1 ≤ j ∧ j ≤ n ∧ z = n - j ∧ S = (.sref 0 0 n 1 :: .fn 156 [.ref 1 0] :: .dead :: .dead :: vnil :: vi .i64 (delF (l.take j) q).length :: vi .i64 j :: .dead :: .dead :: .dead :: .dead :: .dead :: .dead :: .dead :: .dead :: .dead :: .dead :: .dead :: .dead :: .dead :: .dead :: .dead :: .dead :: .dead :: .dead :: .dead :: .dead :: .dead :: .dead :: .dead :: .dead :: .dead :: .dead :: .dead :: .dead :: .dead :: .dead :: .dead :: .dead :: .dead :: .dead :: .dead :: []) ∧ H = [some ((midF l q j).map (vi .i64)), some [vi .i64 q]]) (n - (i0 + 1)) ⟨i0 + 1, Nat.le_refl _, by omega, by omega, rfl, rfl⟩ (by refine .ren _ _ _ [0, 1] (by decide) (by intro k h; first | exact absurd h (Nat.not_lt_zero k) | (simp at h; done) | (rcases k with _ | _ | _ | k <;> first | rfl | (exfalso; omega) | (simp at h; done))) ?_ ?_ <;> simp [KeepS, KeepH, ArgRel, ArgRelL, argL_cl, arg_cl, row_l_of, row_l_nil, bn_len, blkAt, m1, m2]) ?_
  rintro z S H ⟨j, hj0, hj, rfl, rfl, rfl⟩ J hJ
  have d0 : (0 : Int) ≤ j := by omega
  have hml := midF_len l q j
  have hdl := delF_le (l.take j) q
  rw [List.length_take] at hdl
  by_cases hin : j < n
  · have d1 : (j : Int) < n := by omega
    have w1 : IntKind.i64.wrap ((j : Int) + 1) = ((j + 1 : Nat) : Int) := by rw [wrap_id _ (by omega) (by omega)]; omega
    have g1 := rd_i (midF l q j) j (by omega)
    rw [midF_at l q j (by omega)] at g1
    have ht := delF_take l q j (by omega)
    (repeat' (first | simp (maxSteps := 2000000) -implicitDefEqProofs only [A_slices_DeleteFunc_int_int_L0, d0, d1, w1, g1, calla1, Int.reduceBNe, Int.reduceBEq, rk_ext, fk_ext, len_ints, idx_ints, cells_ints, len_lst, cells_lst, sm_c, sm_a, src_ints, zros_v, zros_m, ints_nil_l, lrp, rk_callv, cvk_fn, true_and, List.append_nil, List.cons_append, List.nil_append, lr_ros, lr, lr2, oO, oN, oG, oNG, oM, oF, oL, rg, ci, Nat.reduceEqDiff, Nat.reduceAdd, Nat.reduceSub, Int.reduceTDiv, Int.reduceTMod, ge_iff_le, Int.reduceGE, Nat.reducePow, Int.reduceEq, Int.reduceNeg, Int.reduceLE, Int.reducePow, Int.reduceLT, Int.reduceSub, Int.reduceAdd, Int.reduceMul, Int.reduceToNat, Option.map_some, ↓reduceIte, ite_not, beq_iff_eq, bne_iff_ne, ne_eq, beq_self_eq_true, beq_eq_false_iff_ne, bne_eq_false_iff_eq, resAll, resL, resV, reduceCtorEq, Option.some.injEq, exists_eq_left', blkAt, Nat.reduceLeDiff, Nat.reduceMul, eq_self, Nat.reduceLT, undef, fillV, evParts, footOp, wrOp, chk, disj, Nat.reduceBEq] | split))
    refine ck_call _ _ (call_one (id := 1) (r2 := vb (decide (l.getD j 0 = q))) (wo1_C (l.getD j 0) q) rfl cq cq rel_1 (by simp [idsInL, idsIn, gRos_members_ids]) rfl) ?_
    by_cases hx : l.getD j 0 = q
    · rw [if_pos hx] at ht
      have hs := midF_skip l q j (by omega) hx
      (repeat' (first | simp (maxSteps := 2000000) -implicitDefEqProofs only [d0, d1, w1, hx, Int.reduceBNe, Int.reduceBEq, rk_ext, fk_ext, len_ints, idx_ints, cells_ints, len_lst, cells_lst, sm_c, sm_a, src_ints, zros_v, zros_m, ints_nil_l, lrp, rk_callv, cvk_fn, true_and, List.append_nil, List.cons_append, List.nil_append, lr_ros, lr, lr2, oO, oN, oG, oNG, oM, oF, oL, rg, ci, Nat.reduceEqDiff, Nat.reduceAdd, Nat.reduceSub, Int.reduceTDiv, Int.reduceTMod, ge_iff_le, Int.reduceGE, Nat.reducePow, Int.reduceEq, Int.reduceNeg, Int.reduceLE, Int.reducePow, Int.reduceLT, Int.reduceSub, Int.reduceAdd, Int.reduceMul, Int.reduceToNat, Option.map_some, ↓reduceIte, ite_not, beq_iff_eq, bne_iff_ne, ne_eq, beq_self_eq_true, beq_eq_false_iff_ne, bne_eq_false_iff_eq, resAll, resL, resV, reduceCtorEq, Option.some.injEq, exists_eq_left', blkAt, Nat.reduceLeDiff, Nat.reduceMul, eq_self, Nat.reduceLT, undef, fillV, evParts, footOp, wrOp, chk, disj, Nat.reduceBEq] | split))
      exact hJ _ _ _ _ _ (by omega) ⟨j + 1, by omega, by omega, rfl, rfl, rfl⟩ (by refine .ren _ _ _ [0, 1] (by decide) (by intro k h; first | exact absurd h (Nat.not_lt_zero k) | (simp at h; done) | (rcases k with _ | _ | _ | k <;> first | rfl | (exfalso; omega) | (simp at h; done))) ?_ ?_ <;> simp [KeepS, KeepH, ArgRel, ArgRelL, argL_cl, arg_cl, row_l_of, row_l_nil, bn_len, blkAt, ht, hs])
    · rw [if_neg hx] at ht
      have hs := midF_put l q j (by omega) hx
      have p1 := sp_i (midF l q j) (delF (l.take j) q).length (l.getD j 0) (by omega)
      rw [hs] at p1
      have hl2 : (delF (l.take (j + 1)) q).length = (delF (l.take j) q).length + 1 := by rw [ht]; simp
      have hl3 : ((midF l q j).map (vi .i64)).length = n := by simp [hml, hn]
      generalize hk : (delF (l.take j) q).length = k at *
      have d2 : (0 : Int) ≤ k := by omega
      have d3 : (k : Int) < n := by omega
      have d4 : k + 1 ≤ n := by omega
      have w2 : IntKind.i64.wrap ((k : Int) + 1) = ((k + 1 : Nat) : Int) := by rw [wrap_id _ (by omega) (by omega)]; omega
      (repeat' (first | simp (maxSteps := 2000000) -implicitDefEqProofs only [d0, d1, w1, hx, d2, d3, d4, w2, p1, hl3, Int.reduceBNe, Int.reduceBEq, rk_ext, fk_ext, len_ints, idx_ints, cells_ints, len_lst, cells_lst, sm_c, sm_a, src_ints, zros_v, zros_m, ints_nil_l, lrp, rk_callv, cvk_fn, true_and, List.append_nil, List.cons_append, List.nil_append, lr_ros, lr, lr2, oO, oN, oG, oNG, oM, oF, oL, rg, ci, Nat.reduceEqDiff, Nat.reduceAdd, Nat.reduceSub, Int.reduceTDiv, Int.reduceTMod, ge_iff_le, Int.reduceGE, Nat.reducePow, Int.reduceEq, Int.reduceNeg, Int.reduceLE, Int.reducePow, Int.reduceLT, Int.reduceSub, Int.reduceAdd, Int.reduceMul, Int.reduceToNat, Option.map_some, ↓reduceIte, ite_not, beq_iff_eq, bne_iff_ne, ne_eq, beq_self_eq_true, beq_eq_false_iff_ne, bne_eq_false_iff_eq, resAll, resL, resV, reduceCtorEq, Option.some.injEq, exists_eq_left', blkAt, Nat.reduceLeDiff, Nat.reduceMul, eq_self, Nat.reduceLT, undef, fillV, evParts, footOp, wrOp, chk, disj, Nat.reduceBEq] | split))
      exact hJ _ _ _ _ _ (by omega) ⟨j + 1, by omega, by omega, rfl, rfl, rfl⟩ (by refine .ren _ _ _ [0, 1] (by decide) (by intro k h; first | exact absurd h (Nat.not_lt_zero k) | (simp at h; done) | (rcases k with _ | _ | _ | k <;> first | rfl | (exfalso; omega) | (simp at h; done))) ?_ ?_ <;> simp [KeepS, KeepH, ArgRel, ArgRelL, argL_cl, arg_cl, row_l_of, row_l_nil, bn_len, blkAt, hl2])
  · obtain rfl : j = n := by omega
    have d1 : ¬ ((j : Nat) : Int) < j := by omega
    have htk : l.take j = l := by rw [hn, List.take_length]
    have hmid : midF l q j = delF l q ++ l.drop (delF l q).length := by unfold midF; rw [htk]
    have hl3 : ((midF l q j).map (vi .i64)).length = j := by rw [List.length_map, hml, hn]
    rw [htk] at hdl ⊢
    have hz := zap_i (midF l q j) (delF l q).length j (by omega) (by omega)
    have hpad : (midF l q j).take (delF l q).length ++ List.replicate (j - (delF l q).length) 0 = padI l q := by
      rw [hmid, List.take_left' rfl]
      unfold padI
      rw [← hn]
    rw [hpad] at hz
    generalize hk : (delF l q).length = k at *
    have d2 : (0 : Int) ≤ k := by omega
    have d3 : (k : Int) ≤ j := by omega
    have d4 : k + (j - k) ≤ j := by omega
    have d5 : k + (j - k) * 1 ≤ j := by omega
    (repeat' (first | simp (maxSteps := 2000000) -implicitDefEqProofs only [A_slices_DeleteFunc_int_int_L0, K_slices_DeleteFunc_int_int_L0, d1, d2, d3, d4, d5, hz, hl3, Nat.mul_one, Int.reduceBNe, Int.reduceBEq, rk_ext, fk_ext, len_ints, idx_ints, cells_ints, len_lst, cells_lst, sm_c, sm_a, src_ints, zros_v, zros_m, ints_nil_l, lrp, rk_callv, cvk_fn, true_and, List.append_nil, List.cons_append, List.nil_append, lr_ros, lr, lr2, oO, oN, oG, oNG, oM, oF, oL, rg, ci, Nat.reduceEqDiff, Nat.reduceAdd, Nat.reduceSub, Int.reduceTDiv, Int.reduceTMod, ge_iff_le, Int.reduceGE, Nat.reducePow, Int.reduceEq, Int.reduceNeg, Int.reduceLE, Int.reducePow, Int.reduceLT, Int.reduceSub, Int.reduceAdd, Int.reduceMul, Int.reduceToNat, Option.map_some, ↓reduceIte, ite_not, beq_iff_eq, bne_iff_ne, ne_eq, beq_self_eq_true, beq_eq_false_iff_ne, bne_eq_false_iff_eq, resAll, resL, resV, reduceCtorEq, Option.some.injEq, exists_eq_left', blkAt, Nat.reduceLeDiff, Nat.reduceMul, eq_self, Nat.reduceLT, undef, fillV, evParts, footOp, wrOp, chk, disj, Nat.reduceBEq] | split))
    exact out_two rfl rfl (nums_closed _ _) cq (by simp only [ArgRel]; exact .inl ⟨0, rfl, rfl⟩)
theorem call_rosT {f : Nat} {v : Int} {c l : List Int} {r : V} (hC : C Try.prog f [.agg (cRos ⟨v, .of l⟩)] [] r []) (hr : Closed r) {H : Heap} {id n : Nat} (hb : blkAt H id = some (c.map (vi .i64))) (hn : n = l.length) (hl : n ≤ c.length) (ht : c.take n = l) :
    CallRel Try.prog f H [.agg (gRos_members ⟨v, .nil⟩ (.sref id 0 n 1))] r (H.set id none) [id] [id] := by
  refine call_give (args1 := [.agg (gRos_members ⟨v, .nil⟩ (.sref 0 0 n 1))]) hC hr hb (nums_closed _ _) (by simp [idsInL, idsIn, gRos_members_ids]) ⟨argL_cons (arg_agg ?_) argL_nil, argL_cons (arg_agg ?_) argL_nil⟩
  · show ArgRelL H [id] [] [vi .u64 v, .sref id 0 n 1] [vi .u64 v, .sref 0 0 n 1]
    exact argL_cons (arg_closed _ trivial) (argL_cons (by simp only [ArgRel]; exact .inl ⟨0, rfl, rfl⟩) argL_nil)
  · refine argG_Ros_members ⟨v, .nil⟩ (r := .of l) ?_
    show ArgRel _ _ _ _ (.sl l.length (l.map (vi .i64)))
    simp only [ArgRel]
    refine .inr ⟨by simp, by simp, c.map (vi .i64), l.map (vi .i64), rfl, by rw [List.length_map]; omega, ?_, by rw [hn]⟩
    rw [List.drop_zero, Nat.mul_one, ← List.map_take, ht]
    exact seen_closed _ (nums_closed _ _)
def withoutL (l : Ros) (q : Int) : Ros × Bool :=
  if hasL l q then (if RosP ⟨l.version + 1, .of (delF l.members.l q)⟩ then (⟨l.version + 1, .of (delF l.members.l q)⟩, true) else (Ros.zero, false)) else (Ros.zero, false)
theorem padI_take (l : List Int) (q : Int) : (padI l q).take (delF l q).length = delF l q ∧ (delF l q).length ≤ (padI l q).length := by
  unfold padI
  exact ⟨List.take_left' rfl, by simp⟩
set_option maxHeartbeats 4000000 in
theorem without_C (l : Ros) (q : Int) (h : l.members.l.length ≤ 9223372036854775807) : C Try.prog 77 [.agg (cRos l), vi .i64 q] [] (.tup [.agg (cRos (withoutL l q).1), vb (withoutL l q).2]) [] := by
  have kh := hasL_C l q h
  have g : rd none [vi .i64 q] 0 = some (vi .i64 q) := rfl
  unfold withoutL
  by_cases hh : hasL l q
  rotate_left
  · rw [if_neg hh]
    refine C_of mixed Try.func77 A_roster_Without_ok A_roster_Without_res _ A_roster_Without_nt ?_
    (repeat' (first | simp (maxSteps := 2000000) -implicitDefEqProofs only [A_roster_Without, hh, g, Int.reduceBNe, Int.reduceBEq, rk_ext, fk_ext, len_ints, idx_ints, cells_ints, len_lst, cells_lst, sm_c, sm_a, src_ints, zros_v, zros_m, ints_nil_l, lrp, rk_callv, cvk_fn, true_and, List.append_nil, List.cons_append, List.nil_append, lr_ros, lr, lr2, oO, oN, oG, oNG, oM, oF, oL, rg, ci, Nat.reduceEqDiff, Nat.reduceAdd, Nat.reduceSub, Int.reduceTDiv, Int.reduceTMod, ge_iff_le, Int.reduceGE, Nat.reducePow, Int.reduceEq, Int.reduceNeg, Int.reduceLE, Int.reducePow, Int.reduceLT, Int.reduceSub, Int.reduceAdd, Int.reduceMul, Int.reduceToNat, Option.map_some, ↓reduceIte, ite_not, beq_iff_eq, bne_iff_ne, ne_eq, beq_self_eq_true, beq_eq_false_iff_ne, bne_eq_false_iff_eq, resAll, resL, resV, reduceCtorEq, Option.some.injEq, exists_eq_left', blkAt, Nat.reduceLeDiff, Nat.reduceMul, eq_self, Nat.reduceLT, undef, fillV, evParts, footOp, wrOp, chk, disj, Nat.reduceBEq] | split | ((first | apply ck_call | apply cfk_call); (first | (apply call_pure (kh) cll cl)))))
    exact out_eq rfl cl
  rw [if_pos hh]
  have hr : RosP l := hh.1
  have hb : 1 ≤ l.version ∧ l.version ≤ 1099511627776 ∧ 1 ≤ l.members.l.length ∧ l.members.l.length ≤ 8 := by
    unfold RosP at hr; exact ⟨hr.1, hr.2.1, hr.2.2.1, hr.2.2.2.1⟩
  have wv : IntKind.u64.wrap (l.version + 1) = l.version + 1 := IntWalk.u64_in _ ⟨by omega, by omega⟩
  have kc := cloneI_C l.members (by omega) (by omega)
  have kd := deleteF_C l.members.l q l.members.l.length rfl (by omega) hh.2
  obtain ⟨p1, p2⟩ := padI_take l.members.l q
  have cq : ClosedL [vi .i64 q] := ⟨trivial, trivial⟩
  by_cases hp : RosP ⟨l.version + 1, .of (delF l.members.l q)⟩
  · rw [if_pos hp]
    have k2 := so_C _ hp
    refine C_of mixed Try.func77 A_roster_Without_ok A_roster_Without_res _ A_roster_Without_nt ?_
    (repeat' (first | simp (maxSteps := 2000000) -implicitDefEqProofs only [A_roster_Without, hh, g, wv, Int.reduceBNe, Int.reduceBEq, rk_ext, fk_ext, len_ints, idx_ints, cells_ints, len_lst, cells_lst, sm_c, sm_a, src_ints, zros_v, zros_m, ints_nil_l, lrp, rk_callv, cvk_fn, true_and, List.append_nil, List.cons_append, List.nil_append, lr_ros, lr, lr2, oO, oN, oG, oNG, oM, oF, oL, rg, ci, Nat.reduceEqDiff, Nat.reduceAdd, Nat.reduceSub, Int.reduceTDiv, Int.reduceTMod, ge_iff_le, Int.reduceGE, Nat.reducePow, Int.reduceEq, Int.reduceNeg, Int.reduceLE, Int.reducePow, Int.reduceLT, Int.reduceSub, Int.reduceAdd, Int.reduceMul, Int.reduceToNat, Option.map_some, ↓reduceIte, ite_not, beq_iff_eq, bne_iff_ne, ne_eq, beq_self_eq_true, beq_eq_false_iff_ne, bne_eq_false_iff_eq, resAll, resL, resV, reduceCtorEq, Option.some.injEq, exists_eq_left', blkAt, Nat.reduceLeDiff, Nat.reduceMul, eq_self, Nat.reduceLT, undef, fillV, evParts, footOp, wrOp, chk, disj, Nat.reduceBEq] | split | ((first | apply ck_call | apply cfk_call); (first | (apply call_pure (kh) cll cl) | (apply call_new (kc) cll cll)))))
    refine ck_call _ _ (call_two (i := 3) (j := 1) (r2 := .sref 3 0 (delF l.members.l q).length 1) kd (by decide) rfl rfl (nums_closed _ _) cq (nums_closed _ _) cq rel_2 (by simp [idsInL, idsIn, gRos_members_ids]) (by simp [idsInL, idsIn, gRos_members_ids]) rfl) ?_
    (repeat' (first | simp (maxSteps := 2000000) -implicitDefEqProofs only [wv, Int.reduceBNe, Int.reduceBEq, rk_ext, fk_ext, len_ints, idx_ints, cells_ints, len_lst, cells_lst, sm_c, sm_a, src_ints, zros_v, zros_m, ints_nil_l, lrp, rk_callv, cvk_fn, true_and, List.append_nil, List.cons_append, List.nil_append, lr_ros, lr, lr2, oO, oN, oG, oNG, oM, oF, oL, rg, ci, Nat.reduceEqDiff, Nat.reduceAdd, Nat.reduceSub, Int.reduceTDiv, Int.reduceTMod, ge_iff_le, Int.reduceGE, Nat.reducePow, Int.reduceEq, Int.reduceNeg, Int.reduceLE, Int.reducePow, Int.reduceLT, Int.reduceSub, Int.reduceAdd, Int.reduceMul, Int.reduceToNat, Option.map_some, ↓reduceIte, ite_not, beq_iff_eq, bne_iff_ne, ne_eq, beq_self_eq_true, beq_eq_false_iff_ne, bne_eq_false_iff_eq, resAll, resL, resV, reduceCtorEq, Option.some.injEq, exists_eq_left', blkAt, Nat.reduceLeDiff, Nat.reduceMul, eq_self, Nat.reduceLT, undef, fillV, evParts, footOp, wrOp, chk, disj, Nat.reduceBEq] | split))
    refine ck_call _ _ (call_rosT k2 cl rfl rfl p2 p1) ?_
    (repeat' (first | simp (maxSteps := 2000000) -implicitDefEqProofs only [Int.reduceBNe, Int.reduceBEq, rk_ext, fk_ext, len_ints, idx_ints, cells_ints, len_lst, cells_lst, sm_c, sm_a, src_ints, zros_v, zros_m, ints_nil_l, lrp, rk_callv, cvk_fn, true_and, List.append_nil, List.cons_append, List.nil_append, lr_ros, lr, lr2, oO, oN, oG, oNG, oM, oF, oL, rg, ci, Nat.reduceEqDiff, Nat.reduceAdd, Nat.reduceSub, Int.reduceTDiv, Int.reduceTMod, ge_iff_le, Int.reduceGE, Nat.reducePow, Int.reduceEq, Int.reduceNeg, Int.reduceLE, Int.reducePow, Int.reduceLT, Int.reduceSub, Int.reduceAdd, Int.reduceMul, Int.reduceToNat, Option.map_some, ↓reduceIte, ite_not, beq_iff_eq, bne_iff_ne, ne_eq, beq_self_eq_true, beq_eq_false_iff_ne, bne_eq_false_iff_eq, resAll, resL, resV, reduceCtorEq, Option.some.injEq, exists_eq_left', blkAt, Nat.reduceLeDiff, Nat.reduceMul, eq_self, Nat.reduceLT, undef, fillV, evParts, footOp, wrOp, chk, disj, Nat.reduceBEq] | split))
    exact out_eq rfl cl
  · rw [if_neg hp]
    have k2 := soN_C _ hp
    refine C_of mixed Try.func77 A_roster_Without_ok A_roster_Without_res _ A_roster_Without_nt ?_
    (repeat' (first | simp (maxSteps := 2000000) -implicitDefEqProofs only [A_roster_Without, hh, g, wv, Int.reduceBNe, Int.reduceBEq, rk_ext, fk_ext, len_ints, idx_ints, cells_ints, len_lst, cells_lst, sm_c, sm_a, src_ints, zros_v, zros_m, ints_nil_l, lrp, rk_callv, cvk_fn, true_and, List.append_nil, List.cons_append, List.nil_append, lr_ros, lr, lr2, oO, oN, oG, oNG, oM, oF, oL, rg, ci, Nat.reduceEqDiff, Nat.reduceAdd, Nat.reduceSub, Int.reduceTDiv, Int.reduceTMod, ge_iff_le, Int.reduceGE, Nat.reducePow, Int.reduceEq, Int.reduceNeg, Int.reduceLE, Int.reducePow, Int.reduceLT, Int.reduceSub, Int.reduceAdd, Int.reduceMul, Int.reduceToNat, Option.map_some, ↓reduceIte, ite_not, beq_iff_eq, bne_iff_ne, ne_eq, beq_self_eq_true, beq_eq_false_iff_ne, bne_eq_false_iff_eq, resAll, resL, resV, reduceCtorEq, Option.some.injEq, exists_eq_left', blkAt, Nat.reduceLeDiff, Nat.reduceMul, eq_self, Nat.reduceLT, undef, fillV, evParts, footOp, wrOp, chk, disj, Nat.reduceBEq] | split | ((first | apply ck_call | apply cfk_call); (first | (apply call_pure (kh) cll cl) | (apply call_new (kc) cll cll)))))
    refine ck_call _ _ (call_two (i := 3) (j := 1) (r2 := .sref 3 0 (delF l.members.l q).length 1) kd (by decide) rfl rfl (nums_closed _ _) cq (nums_closed _ _) cq rel_2 (by simp [idsInL, idsIn, gRos_members_ids]) (by simp [idsInL, idsIn, gRos_members_ids]) rfl) ?_
    (repeat' (first | simp (maxSteps := 2000000) -implicitDefEqProofs only [wv, Int.reduceBNe, Int.reduceBEq, rk_ext, fk_ext, len_ints, idx_ints, cells_ints, len_lst, cells_lst, sm_c, sm_a, src_ints, zros_v, zros_m, ints_nil_l, lrp, rk_callv, cvk_fn, true_and, List.append_nil, List.cons_append, List.nil_append, lr_ros, lr, lr2, oO, oN, oG, oNG, oM, oF, oL, rg, ci, Nat.reduceEqDiff, Nat.reduceAdd, Nat.reduceSub, Int.reduceTDiv, Int.reduceTMod, ge_iff_le, Int.reduceGE, Nat.reducePow, Int.reduceEq, Int.reduceNeg, Int.reduceLE, Int.reducePow, Int.reduceLT, Int.reduceSub, Int.reduceAdd, Int.reduceMul, Int.reduceToNat, Option.map_some, ↓reduceIte, ite_not, beq_iff_eq, bne_iff_ne, ne_eq, beq_self_eq_true, beq_eq_false_iff_ne, bne_eq_false_iff_eq, resAll, resL, resV, reduceCtorEq, Option.some.injEq, exists_eq_left', blkAt, Nat.reduceLeDiff, Nat.reduceMul, eq_self, Nat.reduceLT, undef, fillV, evParts, footOp, wrOp, chk, disj, Nat.reduceBEq] | split))
    refine ck_call _ _ (call_rosT k2 cl rfl rfl p2 p1) ?_
    (repeat' (first | simp (maxSteps := 2000000) -implicitDefEqProofs only [Int.reduceBNe, Int.reduceBEq, rk_ext, fk_ext, len_ints, idx_ints, cells_ints, len_lst, cells_lst, sm_c, sm_a, src_ints, zros_v, zros_m, ints_nil_l, lrp, rk_callv, cvk_fn, true_and, List.append_nil, List.cons_append, List.nil_append, lr_ros, lr, lr2, oO, oN, oG, oNG, oM, oF, oL, rg, ci, Nat.reduceEqDiff, Nat.reduceAdd, Nat.reduceSub, Int.reduceTDiv, Int.reduceTMod, ge_iff_le, Int.reduceGE, Nat.reducePow, Int.reduceEq, Int.reduceNeg, Int.reduceLE, Int.reducePow, Int.reduceLT, Int.reduceSub, Int.reduceAdd, Int.reduceMul, Int.reduceToNat, Option.map_some, ↓reduceIte, ite_not, beq_iff_eq, bne_iff_ne, ne_eq, beq_self_eq_true, beq_eq_false_iff_ne, bne_eq_false_iff_eq, resAll, resL, resV, reduceCtorEq, Option.some.injEq, exists_eq_left', blkAt, Nat.reduceLeDiff, Nat.reduceMul, eq_self, Nat.reduceLT, undef, fillV, evParts, footOp, wrOp, chk, disj, Nat.reduceBEq] | split))
    exact out_eq rfl cl
end Go.Proofs.Ytmmaenfjnkoknaa.VA
