/- The laws of stretched PINs. -/
import Derived.Test.YtmmaenfjnkoknaaDpin
import Derived.Test.YtmmaenfjnkoknaaVC
set_option linter.unusedVariables false
set_option linter.unusedSimpArgs false
set_option maxRecDepth 100000
namespace Go.Proofs.Ytmmaenfjnkoknaa.VA
open Go
attribute [local irreducible] WK NK XK TK RK FK CK CFK CallRel C
theorem st_size (l : List UInt8) : (⟨l.toArray⟩ : ByteArray).size = l.length := by simp [ByteArray.size]
def evLenStr (H : Heap) : V → Option (V × Heap)
  | .sc (.string s) => some (.sc (.int .i64 s.size), H)
  | _ => none
theorem op_lenStr2 (S : List V) (H : Heap) (x : Od) : evOp S H (.lenStr x) = evLenStr H (x.ev S) := by simp only [evOp]; unfold evLenStr; rfl
theorem evLen_st (H : Heap) (l : List UInt8) : evLenStr H (st l) = some (vi .i64 (l.length : Int), H) := by simp [evLenStr, st, st_size]
def evCutStr (k : Int) (H : Heap) : V → Option (V × Heap)
  | .sc (.string s) => if 0 ≤ k ∧ k ≤ s.size then some (.sc (.string (s.extract 0 k.toNat)), H) else none
  | _ => none
theorem op_cutStr (k : Int) (S : List V) (H : Heap) (x : Od) : evOp S H (.sliceStr x none (some (.c (.int .i64 k)))) = evCutStr k H (x.ev S) := by
  have hc : intOf? (Od.ev S (.c (.int .i64 k))) = some k := rfl
  simp only [evOp, bnd, hc]
  generalize x.ev S = v
  unfold evCutStr
  cases v with
  | sc w =>
    cases w with
    | string s =>
      by_cases hn : 0 ≤ k ∧ k ≤ s.size
      · simp only [hn, and_self, if_true]
      · simp only [hn, if_false]
    | _ => rfl
  | _ => rfl
def evSlStr (S : List V) (H : Heap) (lo hi : Option Od) (v : V) : Option (V × Heap) := match v with
  | .sc (.string s) => match bnd S hi s.size s.size with
    | some h => match bnd S lo 0 h with
      | some l => some (.sc (.string (s.extract l h)), H)
      | none => none
    | none => none
  | _ => none
theorem op_slStr (S : List V) (H : Heap) (x : Od) (lo hi : Option Od) : evOp S H (.sliceStr x lo hi) = evSlStr S H lo hi (x.ev S) := by
  simp only [evOp]; unfold evSlStr; rfl
theorem evSl_cut (k : Int) (S : List V) (H : Heap) (v : V) : evSlStr S H none (some (.c (.int .i64 k))) v = evCutStr k H v := by
  have := op_cutStr k (v :: S) H (.t 0)
  rw [op_slStr] at this
  exact this
theorem evCut_st (k : Int) (H : Heap) (l : List UInt8) (h0 : 0 ≤ k) (h : k ≤ l.length) : evCutStr k H (st l) = some (st (l.take k.toNat), H) := by
  simp only [evCutStr, st, st_size, if_pos (And.intro h0 h)]
  have : (⟨l.toArray⟩ : ByteArray).extract 0 k.toNat = ⟨(l.take k.toNat).toArray⟩ := by
    apply ByteArray.ext
    simp
  rw [this]
theorem st_add (a b : List UInt8) (h : a.length + b.length ≤ 1000000) : evBin .add (st a) (st b) = some (st (a ++ b)) := by
  simp only [st, evBin, binOp, Op.stringOp, pureV, pure, st_size]
  have : ¬ (((a.length + b.length : Nat) : Int) > IntKind.i64.max) := by
    have : IntKind.i64.max = 9223372036854775807 := rfl
    omega
  rw [if_neg this]
  simp only [Option.map_some]
  congr 3
theorem rune_st (n : Int) : V.sc (.string (Utf8.encode n)) = st (encL n) := by
  simp [st, encL]
theorem quo_wrap (d : Int) (hd : 0 ≤ d ∧ d ≤ 4294967295) : evBin .quo (.sc (.int .u32 d)) (.sc (.int .u32 10)) = some (.sc (.int .u32 (d / 10))) := by
  rw [bin_quo _ _ _ (by decide), Int.tdiv_eq_ediv_of_nonneg hd.1, IntWalk.u32_in _ ⟨by omega, by omega⟩]
theorem rem_wrap (d : Int) (hd : 0 ≤ d ∧ d ≤ 4294967295) : evBin .rem (.sc (.int .u32 d)) (.sc (.int .u32 10)) = some (.sc (.int .u32 (d % 10))) := by
  rw [bin_rem _ _ _ (by decide), Int.tmod_eq_emod_of_nonneg hd.1]
theorem rem9_wrap (d : Int) (hd : 0 ≤ d ∧ d ≤ 4294967295) : evBin .rem (.sc (.int .u32 d)) (.sc (.int .u32 900000)) = some (.sc (.int .u32 (d % 900000))) := by
  rw [bin_rem _ _ _ (by decide), Int.tmod_eq_emod_of_nonneg hd.1]
set_option maxHeartbeats 4000000 in
theorem tells3_C (s : List UInt8) (id : Bn 4) (salt : Bn 16) (rounds d : Int) (hd : 0 ≤ d ∧ d ≤ 4294967295) : C Try.prog 4 [st s, .agg (dg id), .agg (dg salt), vi .i64 rounds, vi .u32 d] [] (vb true) [] := by
  refine C_of mixed Try.func4 A_clavigerlaw3_StretchTells_ok A_clavigerlaw3_StretchTells_res _ A_clavigerlaw3_StretchTells_nt ?_
  obtain ⟨u, hu, e⟩ : ∃ u : List UInt8, u.length ≤ 40 ∧ u = s.take 40 := ⟨_, by simp; omega, rfl⟩
  have r9 := rem9_wrap d hd
  have w0 : IntKind.u32.wrap (d % 900000 + 1000) = d % 900000 + 1000 := IntWalk.u32_in _ ⟨by omega, by omega⟩
  obtain ⟨D0, hD⟩ : ∃ D : Nat, (D : Int) = d % 900000 + 1000 := ⟨(d % 900000 + 1000).toNat, by omega⟩
  rw [← hD] at w0
  have hDle : D0 ≤ 900999 := by omega
  generalize hw : within rounds (-1) 60 = w
  have key : ∀ (x : List UInt8) S H, x.length ≤ 40 → Weak 0 ⟨S, H⟩ ⟨(st x :: .dead :: .dead :: .dead :: .dead :: .dead :: .ref 0 0 :: .ref 1 0 :: .dead :: .dead :: vb false :: vi .i64 w :: vi .u32 D0 :: st [] :: .dead :: .dead :: .dead :: .dead :: .dead :: .dead :: .dead :: .dead :: .dead :: .dead :: .dead :: .dead :: .dead :: .dead :: .dead :: .dead :: .dead :: .dead :: .dead :: .dead :: .dead :: .dead :: .dead :: .dead :: .dead :: .dead :: .dead :: .dead :: .dead :: .dead :: .dead :: .dead :: .dead :: .dead :: .dead :: .dead :: .dead :: .dead :: .dead :: .dead :: .dead :: .dead :: .dead :: .dead :: .dead :: .dead :: .dead :: .dead :: .dead :: .dead :: []), [some (dg id), some (dg salt)]⟩ →
     WK Try.prog 0 (Post [.tmp 10] 0 (vb true) []) (.loop A_clavigerlaw3_StretchTells_L0) K_clavigerlaw3_StretchTells_L0 S H := by
    intro x S H hx hweak
    refine wk_loop (fun m S H => ∃ (D : Nat) (t : List UInt8), m = D ∧ D ≤ 900999 ∧ t.length + D ≤ 900999 ∧ S = (st x :: .dead :: .dead :: .dead :: .dead :: .dead :: .ref 0 0 :: .ref 1 0 :: .dead :: .dead :: vb false :: vi .i64 w :: vi .u32 D :: st t :: .dead :: .dead :: .dead :: .dead :: .dead :: .dead :: .dead :: .dead :: .dead :: .dead :: .dead :: .dead :: .dead :: .dead :: .dead :: .dead :: .dead :: .dead :: .dead :: .dead :: .dead :: .dead :: .dead :: .dead :: .dead :: .dead :: .dead :: .dead :: .dead :: .dead :: .dead :: .dead :: .dead :: .dead :: .dead :: .dead :: .dead :: .dead :: .dead :: .dead :: .dead :: .dead :: .dead :: .dead :: .dead :: .dead :: .dead :: .dead :: .dead :: .dead :: []) ∧ H = [some (dg id), some (dg salt)]) D0 ⟨D0, [], rfl, hDle, by simpa using hDle, rfl, rfl⟩ hweak ?_
    rintro D S H ⟨_, t, rfl, hD1, ht, rfl, rfl⟩ J hJ
    by_cases hpos : 0 < D
    · have c1 : (0 : Int) < D := by omega
      have c1' : (D : Int) > 0 := by omega
      have q1 := quo_wrap D ⟨by omega, by omega⟩
      have q2 := rem_wrap D ⟨by omega, by omega⟩
      have q3 : ((D : Int)) / 10 = ((D / 10 : Nat) : Int) := by omega
      rw [q3] at q1
      have w1 : IntKind.u32.wrap (48 + (D : Int) % 10) = 48 + (D : Int) % 10 := IntWalk.u32_in _ ⟨by omega, by omega⟩
      have w2 : IntKind.i32.wrap (48 + (D : Int) % 10) = 48 + (D : Int) % 10 := IntWalk.i32_in _ ⟨by omega, by omega⟩
      have el : (encL (48 + (D : Int) % 10)).length = 1 := by rw [encL_1 _ (by omega) (by omega)]; rfl
      have a1 := st_add t (encL (48 + (D : Int) % 10)) (by omega)
      (repeat' (first | simp (maxSteps := 2000000) -implicitDefEqProofs only [A_clavigerlaw3_StretchTells_L0, c1, c1', q1, q2, w1, w2, rune_st, a1, lr, lr2, oO, oN, oG, oNG, oM, oF, oL, rg, ci, Nat.reduceEqDiff, Nat.reduceAdd, Nat.reduceSub, Int.reduceTDiv, Int.reduceTMod, ge_iff_le, Int.reduceGE, Nat.reducePow, Int.reduceEq, Int.reduceNeg, Int.reduceLE, Int.reducePow, Int.reduceLT, Int.reduceSub, Int.reduceAdd, Int.reduceMul, Int.reduceToNat, Option.map_some, ↓reduceIte, ite_not, beq_iff_eq, bne_iff_ne, ne_eq, beq_self_eq_true, beq_eq_false_iff_ne, bne_eq_false_iff_eq, resAll, resL, resV, reduceCtorEq, Option.some.injEq, exists_eq_left', blkAt, Nat.reduceLeDiff, Nat.reduceMul, eq_self, Nat.reduceLT, undef, fillV, evParts, footOp, wrOp, chk, disj, Nat.reduceBEq] | split))
      exact hJ _ _ _ _ _ (by omega) ⟨D / 10, t ++ encL (48 + (D : Int) % 10), rfl, by omega, by rw [List.length_append, el]; omega, rfl, rfl⟩ (by refine .ren _ _ _ [0, 1] (by decide) (by intro k h; first | exact absurd h (Nat.not_lt_zero k) | (simp at h; done) | (match k, h with | 0, _ => rfl)) ?_ ?_ <;> simp [KeepS, KeepH, ArgRel, ArgRelL, argL_cl, arg_cl, row_l_of, row_l_nil, bn_len, blkAt])
    · obtain rfl : D = 0 := by omega
      have c1 : ¬ (0 : Int) > 0 := by omega
      have c2 : ¬ (0 : Int) < 0 := by omega
      (repeat' (first | simp (maxSteps := 2000000) -implicitDefEqProofs only [A_clavigerlaw3_StretchTells_L0, K_clavigerlaw3_StretchTells_L0, c1, c2, lr, lr2, oO, oN, oG, oNG, oM, oF, oL, rg, ci, Nat.reduceEqDiff, Nat.reduceAdd, Nat.reduceSub, Int.reduceTDiv, Int.reduceTMod, ge_iff_le, Int.reduceGE, Nat.reducePow, Int.reduceEq, Int.reduceNeg, Int.reduceLE, Int.reducePow, Int.reduceLT, Int.reduceSub, Int.reduceAdd, Int.reduceMul, Int.reduceToNat, Option.map_some, ↓reduceIte, ite_not, beq_iff_eq, bne_iff_ne, ne_eq, beq_self_eq_true, beq_eq_false_iff_ne, bne_eq_false_iff_eq, resAll, resL, resV, reduceCtorEq, Option.some.injEq, exists_eq_left', blkAt, Nat.reduceLeDiff, Nat.reduceMul, eq_self, Nat.reduceLT, undef, fillV, evParts, footOp, wrOp, chk, disj, Nat.reduceBEq] | split | ((first | apply ck_call | apply cfk_call); (first | (apply call_pure (same3_C x id (by omega)) cll cl) | (apply call_pure (same3_C t id (by omega)) cll cl) | (apply call_pure (salt_C id) cll cl) | (apply call_pure (rsalt_C id) cll cl) | (apply call_pure (digits_C x salt w (by omega)) cll cl) | (apply call_pure (rdigits_C x salt w (by omega)) cll cl) | (apply call_pure (known3_C) cll cl)))))
      exact out_eq rfl cl
  by_cases h40 : (s.length : Int) > 40
  · have h40' : 40 < (s.length : Int) := h40
    have evCut40 : ∀ H, evCutStr 40 H (st s) = some (st u, H) := fun H => by rw [evCut_st 40 H s (by decide) (by omega), e]; rfl
    (repeat' (first | simp (maxSteps := 2000000) -implicitDefEqProofs only [A_clavigerlaw3_StretchTells, op_lenStr2, evLen_st, op_slStr, evSl_cut, evCut40, h40, h40', r9, hD.symm, w0, hw, lr, lr2, oO, oN, oG, oNG, oM, oF, oL, rg, ci, Nat.reduceEqDiff, Nat.reduceAdd, Nat.reduceSub, Int.reduceTDiv, Int.reduceTMod, ge_iff_le, Int.reduceGE, Nat.reducePow, Int.reduceEq, Int.reduceNeg, Int.reduceLE, Int.reducePow, Int.reduceLT, Int.reduceSub, Int.reduceAdd, Int.reduceMul, Int.reduceToNat, Option.map_some, ↓reduceIte, ite_not, beq_iff_eq, bne_iff_ne, ne_eq, beq_self_eq_true, beq_eq_false_iff_ne, bne_eq_false_iff_eq, resAll, resL, resV, reduceCtorEq, Option.some.injEq, exists_eq_left', blkAt, Nat.reduceLeDiff, Nat.reduceMul, eq_self, Nat.reduceLT, undef, fillV, evParts, footOp, wrOp, chk, disj, Nat.reduceBEq] | split | ((first | apply ck_call | apply cfk_call); (first | (apply call_pure (within_C rounds (-1) 60 (by decide) (by decide) (by decide)) cll cl)))))
    exact key u _ _ (by omega) (by refine .ren _ _ _ [0, 1] (by decide) (by intro k h; first | exact absurd h (Nat.not_lt_zero k) | (simp at h; done) | (match k, h with | 0, _ => rfl)) ?_ ?_ <;> simp [KeepS, KeepH, ArgRel, ArgRelL, argL_cl, arg_cl, row_l_of, row_l_nil, bn_len, blkAt])
  · have h40' : ¬ 40 < (s.length : Int) := h40
    (repeat' (first | simp (maxSteps := 2000000) -implicitDefEqProofs only [A_clavigerlaw3_StretchTells, op_lenStr2, evLen_st, op_slStr, evSl_cut, h40, h40', r9, hD.symm, w0, hw, lr, lr2, oO, oN, oG, oNG, oM, oF, oL, rg, ci, Nat.reduceEqDiff, Nat.reduceAdd, Nat.reduceSub, Int.reduceTDiv, Int.reduceTMod, ge_iff_le, Int.reduceGE, Nat.reducePow, Int.reduceEq, Int.reduceNeg, Int.reduceLE, Int.reducePow, Int.reduceLT, Int.reduceSub, Int.reduceAdd, Int.reduceMul, Int.reduceToNat, Option.map_some, ↓reduceIte, ite_not, beq_iff_eq, bne_iff_ne, ne_eq, beq_self_eq_true, beq_eq_false_iff_ne, bne_eq_false_iff_eq, resAll, resL, resV, reduceCtorEq, Option.some.injEq, exists_eq_left', blkAt, Nat.reduceLeDiff, Nat.reduceMul, eq_self, Nat.reduceLT, undef, fillV, evParts, footOp, wrOp, chk, disj, Nat.reduceBEq] | split | ((first | apply ck_call | apply cfk_call); (first | (apply call_pure (within_C rounds (-1) 60 (by decide) (by decide) (by decide)) cll cl)))))
    exact key s _ _ (by omega) (by refine .ren _ _ _ [0, 1] (by decide) (by intro k h; first | exact absurd h (Nat.not_lt_zero k) | (simp at h; done) | (match k, h with | 0, _ => rfl)) ?_ ?_ <;> simp [KeepS, KeepH, ArgRel, ArgRelL, argL_cl, arg_cl, row_l_of, row_l_nil, bn_len, blkAt])
end Go.Proofs.Ytmmaenfjnkoknaa.VA
