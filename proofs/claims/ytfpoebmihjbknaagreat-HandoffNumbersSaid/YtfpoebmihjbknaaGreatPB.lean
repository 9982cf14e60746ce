/- Texts of this proof, one behind the other: Lconcat, Lbase, Cbase, Cconcat, Lblend, Cblend, Dblend, Drblend, Eblend, Rblend, Bnum, Lbook, Cbook. -/
import Derived.Test.YtfpoebmihjbknaaGreatVC
/- The compact code of slices.Concat. -/
set_option linter.unusedVariables false
set_option maxRecDepth 100000
namespace Go.Proofs.YtfpoebmihjbknaaGreat.VA
open Go
noncomputable section
def A_slices_Concat_byte_byte_L0 : ACode := (.seq (rg [oO 12 (.bin .lss (.t 11) (.t 10))]) (.seq (.cond (.t 12) .skip (.exit 0)) (.seq (.block 1 (.seq (rg [oO 13 (.idxSl 1 (.t 9) (.t 11)), oL 14 13, oM 5 14]) (.seq (rg [oM 15 3, oM 16 5, oO 17 (.lenSl (.t 16)), oO 18 (.bin .add (.t 15) (.t 17)), oM 3 18]) (.seq (rg [oM 19 3, oO 20 (.bin .lss (.t 19) (ci 0))]) (.cond (.t 20) (rg [⟨(some 21), .bad, none⟩, ⟨none, .bad, none⟩]) .skip))))) (rg [oO 22 (.bin .add (.t 11) (ci 1)), oM 11 22]))))
def A_slices_Concat_byte_byte_L1 : ACode := (.seq (rg [oO 28 (.bin .lss (.t 27) (.t 26))]) (.seq (.cond (.t 28) .skip (.exit 2)) (.seq (.block 3 (.seq (rg [oO 29 (.idxSl 1 (.t 25) (.t 27)), oL 30 29, oM 8 30]) (rg [oM 31 6, oM 32 8, oO 33 (.append 1 1 (.t 31) (.t 32)), oM 6 33]))) (rg [oO 34 (.bin .add (.t 27) (ci 1)), oM 27 34]))))
def A_slices_Concat_byte_byte : ACode := (.seq (rg [oO 2 (.mov (.c (.slice none 0 0)))]) (.seq (rg [oO 3 (.mov (ci 0))]) (.seq (.seq (rg [oM 9 0, oO 10 (.lenSl (.t 9)), oO 11 (.mov (ci 0))]) (.block 0 (.loop A_slices_Concat_byte_byte_L0))) (.seq (rg [oM 23 3, oO 24 (.call 95 [(.c (.slice none 0 0)), (.t 23)]), oM 6 24]) (.seq (.seq (rg [oM 25 0, oO 26 (.lenSl (.t 25)), oO 27 (.mov (ci 0))]) (.block 2 (.loop A_slices_Concat_byte_byte_L1))) (.seq (rg [oM 35 6, oM 2 35]) .ret))))))
def K_slices_Concat_byte_byte_L0 : Kt := (.blk 0 (.seq (.seq (rg [oM 23 3, oO 24 (.call 95 [(.c (.slice none 0 0)), (.t 23)]), oM 6 24]) (.seq (.seq (rg [oM 25 0, oO 26 (.lenSl (.t 25)), oO 27 (.mov (ci 0))]) (.block 2 (.loop A_slices_Concat_byte_byte_L1))) (.seq (rg [oM 35 6, oM 2 35]) .ret))) .fin))
def K_slices_Concat_byte_byte_L1 : Kt := (.blk 2 (.seq (.seq (rg [oM 35 6, oM 2 35]) .ret) .fin))
theorem A_slices_Concat_byte_byte_ok : Tryz.f79.body.bind (cCode Tryz.prog) = some A_slices_Concat_byte_byte := by kernel_rfl
theorem A_slices_Concat_byte_byte_res : cRes Tryz.prog Tryz.f79.results.toList = some [(.tmp 2)] := by kernel_rfl
theorem A_slices_Concat_byte_byte_nt : Tryz.f79.ntmps = 36 := by kernel_rfl
def A_slices_Grow_byte_byte : ACode := (.seq (rg [oO 4 (.mov (.c (.slice none 0 0)))]) (.seq (.seq (rg [oM 5 1, oO 6 (.bin .lss (.t 5) (ci 0))]) (.cond (.t 6) (rg [⟨(some 7), .bad, none⟩, ⟨none, .bad, none⟩]) .skip)) (.seq (.seq (rg [oM 8 1, oM 9 0, oO 10 (.capSl (.t 9)), oM 11 0, oO 12 (.lenSl (.t 11)), oO 13 (.bin .sub (.t 10) (.t 12)), oO 14 (.bin .sub (.t 8) (.t 13)), oM 1 14]) (.seq (rg [oM 15 1, oO 16 (.bin .gtr (.t 15) (ci 0))]) (.cond (.t 16) (rg [oM 17 0, oM 18 0, oO 19 (.capSl (.t 18)), oO 20 (.sliceSl 1 (.t 17) none (some (.t 19))), oM 21 1, oO 22 (.growN 1 1 z1 (.t 20) (.t 21)), oM 23 0, oO 24 (.lenSl (.t 23)), oO 25 (.sliceSl 1 (.t 22) none (some (.t 24))), oM 0 25]) .skip))) (.seq (rg [oM 26 0, oM 4 26]) .ret))))
theorem A_slices_Grow_byte_byte_ok : Tryz.f95.body.bind (cCode Tryz.prog) = some A_slices_Grow_byte_byte := by kernel_rfl
theorem A_slices_Grow_byte_byte_res : cRes Tryz.prog Tryz.f95.results.toList = some [(.tmp 4)] := by kernel_rfl
theorem A_slices_Grow_byte_byte_nt : Tryz.f95.ntmps = 27 := by kernel_rfl
end
end Go.Proofs.YtfpoebmihjbknaaGreat.VA

/- The compact code of Within. -/
set_option linter.unusedVariables false
set_option maxRecDepth 100000
namespace Go.Proofs.YtfpoebmihjbknaaGreat.VA
open Go
noncomputable section
def A_clavigerbook_Within : ACode := (.seq (rg [oO 6 (.mov (ci 0))]) (.seq (.seq (rg [oM 7 0, oM 8 1, oO 9 (.bin .geq (.t 7) (.t 8)), oM 10 9, oG 11 (.mov (.t 0)) 10 true, oG 12 (.mov (.t 2)) 10 true, oG 13 (.bin .leq (.t 11) (.t 12)) 10 true, oO 14 (.pick (.t 10) (.t 13) (.c (.bool false)))]) (.cond (.t 14) (.seq (rg [oM 15 0, oM 6 15]) .ret) .skip)) (.seq (rg [oM 16 0, oM 17 2, oM 18 1, oO 19 (.bin .sub (.t 17) (.t 18)), oO 20 (.bin .add (.t 19) (ci 1)), oO 21 (.bin .rem (.t 16) (.t 20)), oM 0 21]) (.seq (.seq (rg [oM 22 0, oO 23 (.bin .lss (.t 22) (ci 0))]) (.cond (.t 23) (rg [oM 24 0, oM 25 2, oO 26 (.bin .add (.t 24) (.t 25)), oM 27 1, oO 28 (.bin .sub (.t 26) (.t 27)), oO 29 (.bin .add (.t 28) (ci 1)), oM 0 29]) .skip)) (.seq (rg [oM 30 1, oM 31 0, oO 32 (.bin .add (.t 30) (.t 31)), oM 6 32]) .ret)))))
theorem A_clavigerbook_Within_ok : Tryz.f46.body.bind (cCode Tryz.prog) = some A_clavigerbook_Within := by kernel_rfl
theorem A_clavigerbook_Within_res : cRes Tryz.prog Tryz.f46.results.toList = some [(.tmp 6)] := by kernel_rfl
theorem A_clavigerbook_Within_nt : Tryz.f46.ntmps = 33 := by kernel_rfl
end
end Go.Proofs.YtfpoebmihjbknaaGreat.VA

/- What Within does. -/
set_option linter.unusedVariables false
set_option linter.unusedSimpArgs false
set_option maxRecDepth 100000
namespace Go.Proofs.YtfpoebmihjbknaaGreat.VA
open Go
attribute [local irreducible] WK NK XK TK RK FK CK CFK CallRel C
def within (n lo hi : Int) : Int := if lo ≤ n ∧ n ≤ hi then n else lo + (if n.tmod (hi - lo + 1) < 0 then n.tmod (hi - lo + 1) + hi - lo + 1 else n.tmod (hi - lo + 1))
theorem mixed : Tryz.prog.follows .mixedOrders = true := by kernel_rfl
theorem within_C (n lo hi : Int) (h0 : -1 ≤ lo) (h1 : lo ≤ hi) (h2 : hi ≤ 2147483647) : C Tryz.prog 46 [vi .i64 n, vi .i64 lo, vi .i64 hi] [] (vi .i64 (within n lo hi)) [] := by
  refine C_of mixed Tryz.func46 A_clavigerbook_Within_ok A_clavigerbook_Within_res _ A_clavigerbook_Within_nt ?_
  have e1 : IntKind.i64.wrap (hi - lo) = hi - lo := wrap_id _ (by omega) (by omega)
  have e2 : IntKind.i64.wrap (hi - lo + 1) = hi - lo + 1 := wrap_id _ (by omega) (by omega)
  have hne : hi - lo + 1 ≠ 0 := by omega
  by_cases ha : n ≥ lo ∧ n ≤ hi
  · have hw : within n lo hi = n := by unfold within; rw [if_pos ha]
    obtain ⟨ha, hb⟩ := ha
    rw [hw]
    simp -implicitDefEqProofs only [A_clavigerbook_Within, ha, hb, lr, lr2, oO, oN, oG, oNG, oM, oF, oL, rg, ci, seval, resAll, resL, resV, blkAt, undef, fillV, evParts, footOp, wrOp, chk, disj]
    exact out_val (by trivial)
  · have hr := Int.tmod_lt_of_pos n (show 0 < hi - lo + 1 by omega)
    have hr2 := Int.lt_tmod_of_pos n (show 0 < hi - lo + 1 by omega)
    have hw : within n lo hi = lo + (if n.tmod (hi - lo + 1) < 0 then n.tmod (hi - lo + 1) + hi - lo + 1 else n.tmod (hi - lo + 1)) := by unfold within; rw [if_neg ha]
    rw [hw]
    have hrem := bin_rem .i64 n (hi - lo + 1) hne
    have key : ∀ b : Bool, (if n ≥ lo then decide (n ≤ hi) else false) = false := by
      intro b; split
      · simp; omega
      · rfl
    generalize n.tmod (hi - lo + 1) = r at *
    by_cases hneg : r < 0
    · have e3 : IntKind.i64.wrap (r + hi) = r + hi := wrap_id _ (by omega) (by omega)
      have e4 : IntKind.i64.wrap (r + hi - lo) = r + hi - lo := wrap_id _ (by omega) (by omega)
      have e5 : IntKind.i64.wrap (r + hi - lo + 1) = r + hi - lo + 1 := wrap_id _ (by omega) (by omega)
      have e6 : IntKind.i64.wrap (lo + (r + hi - lo + 1)) = lo + (r + hi - lo + 1) := wrap_id _ (by omega) (by omega)
      by_cases ha1 : n ≥ lo
      · have hb : ¬ n ≤ hi := fun h => ha ⟨ha1, h⟩
        simp -implicitDefEqProofs only [A_clavigerbook_Within, ha1, hb, hneg, hrem, e1, e2, e3, e4, e5, e6, lr, lr2, oO, oN, oG, oNG, oM, oF, oL, rg, ci, seval, resAll, resL, resV, blkAt, undef, fillV, evParts, footOp, wrOp, chk, disj]
        exact out_val (by trivial)
      · simp -implicitDefEqProofs only [A_clavigerbook_Within, ha1, hneg, hrem, e1, e2, e3, e4, e5, e6, lr, lr2, oO, oN, oG, oNG, oM, oF, oL, rg, ci, seval, resAll, resL, resV, blkAt, undef, fillV, evParts, footOp, wrOp, chk, disj]
        exact out_val (by trivial)
    · have e6 : IntKind.i64.wrap (lo + r) = lo + r := wrap_id _ (by omega) (by omega)
      by_cases ha1 : n ≥ lo
      · have hb : ¬ n ≤ hi := fun h => ha ⟨ha1, h⟩
        simp -implicitDefEqProofs only [A_clavigerbook_Within, ha1, hb, hneg, hrem, e1, e2, e6, lr, lr2, oO, oN, oG, oNG, oM, oF, oL, rg, ci, seval, resAll, resL, resV, blkAt, undef, fillV, evParts, footOp, wrOp, chk, disj]
        exact out_val (by trivial)
      · simp -implicitDefEqProofs only [A_clavigerbook_Within, ha1, hneg, hrem, e1, e2, e6, lr, lr2, oO, oN, oG, oNG, oM, oF, oL, rg, ci, seval, resAll, resL, resV, blkAt, undef, fillV, evParts, footOp, wrOp, chk, disj]
        exact out_val (by trivial)
theorem within_range (n lo hi : Int) (h : lo ≤ hi) : lo ≤ within n lo hi ∧ within n lo hi ≤ hi := by
  unfold within
  have h1 := Int.tmod_lt_of_pos n (show 0 < hi - lo + 1 by omega)
  have h2 := Int.lt_tmod_of_pos n (show 0 < hi - lo + 1 by omega)
  generalize n.tmod (hi - lo + 1) = r at *
  split
  · assumption
  · split <;> omega
end Go.Proofs.YtfpoebmihjbknaaGreat.VA

/- slices.Concat, of rows of bytes. -/
set_option linter.unusedVariables false
set_option linter.unusedSimpArgs false
set_option maxRecDepth 100000
namespace Go.Proofs.YtfpoebmihjbknaaGreat.VA
open Go
attribute [local irreducible] WK NK XK TK RK FK CK CFK CallRel C
theorem grow_C (n : Nat) (h1 : 1 ≤ n) (h2 : n ≤ 1099511627776) : C Tryz.prog 95 [vnil, vi .i64 n] [] (.sref 0 0 0 1) [some (bs (List.replicate n 0))] := by
  refine C_of mixed Tryz.func95 A_slices_Grow_byte_byte_ok A_slices_Grow_byte_byte_res _ A_slices_Grow_byte_byte_nt ?_
  have c0 : (0 : Int) ≤ n := by omega
  have c1 : ¬ (n : Int) < 0 := by omega
  have c2 : (n : Int) > 0 := by omega
  have c3 : (1 : Int) ≤ n := by omega
  have c4 : (n : Int) ≤ 140737488355328 := by omega
  have w : IntKind.i64.wrap (n : Int) = n := wrap_id _ (by omega) (by omega)
  (repeat' (first | simp (maxSteps := 2000000) -implicitDefEqProofs only [A_slices_Grow_byte_byte, c0, c1, c2, c3, c4, w, Int.mul_one, Int.sub_zero, lr, lr2, oO, oN, oG, oNG, oM, oF, oL, rg, ci, seval, resAll, resL, resV, blkAt, undef, fillV, evParts, footOp, wrOp, chk, disj] | split))
  exact out_row rfl (bs_closed _)
theorem concat_C (rs : List Row) (hl : rs.length ≤ 1000) (h1 : 1 ≤ (joinF rs).length) (h2 : (joinF rs).length ≤ 1099511627776) :
    C Tryz.prog 79 [rowsV rs] [] (.sref 0 0 (joinF rs).length 1) [some (bs (joinF rs))] := by
  refine C_of mixed Tryz.func79 A_slices_Concat_byte_byte_ok A_slices_Concat_byte_byte_res _ A_slices_Concat_byte_byte_nt ?_
  have hcap : ∀ i, i < rs.length → (joinF (rs.take (i + 1))).length = (joinF (rs.take i)).length + (rs.getD i .nil).l.length := fun i hi => by rw [join_take rs i hi, List.length_append]
  simp (maxSteps := 2000000) -implicitDefEqProofs only [A_slices_Concat_byte_byte, len_rows, lr, lr2, oO, oN, oG, oNG, oM, oF, oL, rg, ci, seval, resAll, resL, resV, blkAt, undef, fillV, evParts, footOp, wrOp, chk, disj]
  refine wk_loop (fun n S H => ∃ i : Nat, i ≤ rs.length ∧ n = rs.length - i ∧ S = (rowsV rs :: .dead :: vnil :: vi .i64 ((joinF (rs.take i)).length : Nat) :: .dead :: .dead :: .dead :: .dead :: .dead :: rowsV rs :: vi .i64 rs.length :: vi .i64 i :: .dead :: .dead :: .dead :: .dead :: .dead :: .dead :: .dead :: .dead :: .dead :: .dead :: .dead :: .dead :: .dead :: .dead :: .dead :: .dead :: .dead :: .dead :: .dead :: .dead :: .dead :: .dead :: .dead :: .dead :: []) ∧ H = []) rs.length ⟨0, Nat.zero_le _, rfl, rfl, rfl⟩ (by refine .ren _ _ _ [] (by decide) (by intro k h; first | exact absurd h (Nat.not_lt_zero k) | (simp at h; done) | (rcases k with _ | _ | _ | k <;> first | rfl | (exfalso; omega) | (simp at h; done))) ?_ ?_ <;> simp [KeepS, KeepH, ArgRel, ArgRelL, argL_cl, arg_cl, row_l_of, row_l_nil, bn_len, blkAt, List.take_zero, joinF]) ?_
  rintro n S H ⟨i, hi, rfl, rfl, rfl⟩ J hJ
  have d0 : (0 : Int) ≤ i := by omega
  have w1 : IntKind.i64.wrap ((i : Int) + 1) = ((i + 1 : Nat) : Int) := by rw [wrap_id _ (by omega) (by omega)]; omega
  have hle := join_le rs
  by_cases hil : i < rs.length
  · have d1 : (i : Int) < rs.length := by omega
    have hr := rd_rows rs i hil
    have hc := hcap i hil
    have hb := hle (i + 1)
    have w2 : IntKind.i64.wrap (((joinF (rs.take i)).length : Int) + ((rs.getD i .nil).l.length : Int)) = ((joinF (rs.take (i + 1))).length : Int) := by rw [wrap_id _ (by omega) (by omega)]; omega
    have d2 : ¬ ((joinF (rs.take (i + 1))).length : Int) < 0 := by omega
    (repeat' (first | simp (maxSteps := 2000000) -implicitDefEqProofs only [A_slices_Concat_byte_byte_L0, d0, d1, w1, w2, d2, hr, idx_rows, lr, lr2, oO, oN, oG, oNG, oM, oF, oL, rg, ci, seval, resAll, resL, resV, blkAt, undef, fillV, evParts, footOp, wrOp, chk, disj] | split))
    exact hJ _ _ _ _ _ (by omega) ⟨i + 1, by omega, rfl, rfl, rfl⟩ (by refine .ren _ _ _ [] (by decide) (by intro k h; first | exact absurd h (Nat.not_lt_zero k) | (simp at h; done) | (rcases k with _ | _ | _ | k <;> first | rfl | (exfalso; omega) | (simp at h; done))) ?_ ?_ <;> simp [KeepS, KeepH, ArgRel, ArgRelL, argL_cl, arg_cl, row_l_of, row_l_nil, bn_len, blkAt])
  · obtain rfl : i = rs.length := by omega
    have d1 : ¬ ((rs.length : Nat) : Int) < rs.length := by omega
    have e : (joinF (rs.take rs.length)).length = (joinF rs).length := by rw [List.take_length]
    (repeat' (first | simp (maxSteps := 2000000) -implicitDefEqProofs only [A_slices_Concat_byte_byte_L0, K_slices_Concat_byte_byte_L0, d1, e, len_rows, lr, lr2, oO, oN, oG, oNG, oM, oF, oL, rg, ci, seval, resAll, resL, resV, blkAt, undef, fillV, evParts, footOp, wrOp, chk, disj] | split | ((first | apply ck_call | apply cfk_call); (first | (apply call_new (grow_C (joinF rs).length h1 h2) cll cll)))))
    refine wk_loop (fun n S H => ∃ i : Nat, i ≤ rs.length ∧ n = rs.length - i ∧ ((i = 0 ∧ S = (rowsV rs :: .dead :: vnil :: .dead :: .dead :: .dead :: .sref 0 0 0 1 :: .dead :: .dead :: .dead :: .dead :: .dead :: .dead :: .dead :: .dead :: .dead :: .dead :: .dead :: .dead :: .dead :: .dead :: .dead :: .dead :: .dead :: .dead :: rowsV rs :: vi .i64 rs.length :: vi .i64 0 :: .dead :: .dead :: .dead :: .dead :: .dead :: .dead :: .dead :: .dead :: []) ∧ H = [some (bs (List.replicate (joinF rs).length 0))]) ∨ (0 < i ∧ S = (rowsV rs :: .dead :: vnil :: .dead :: .dead :: .dead :: .sref 0 0 (joinF (rs.take i)).length 1 :: .dead :: .dead :: .dead :: .dead :: .dead :: .dead :: .dead :: .dead :: .dead :: .dead :: .dead :: .dead :: .dead :: .dead :: .dead :: .dead :: .dead :: .dead :: rowsV rs :: vi .i64 rs.length :: vi .i64 i :: .dead :: .dead :: .dead :: .dead :: .dead :: .dead :: .dead :: .dead :: []) ∧ H = [some (bs (joinF (rs.take i)))]))) rs.length ⟨0, Nat.zero_le _, rfl, .inl ⟨rfl, rfl, rfl⟩⟩ (by refine .ren _ _ _ [0] (by decide) (by intro k h; first | exact absurd h (Nat.not_lt_zero k) | (simp at h; done) | (rcases k with _ | _ | _ | k <;> first | rfl | (exfalso; omega) | (simp at h; done))) ?_ ?_ <;> simp [KeepS, KeepH, ArgRel, ArgRelL, argL_cl, arg_cl, row_l_of, row_l_nil, bn_len, blkAt]) ?_
    clear hJ J
    rintro n S H ⟨i, hi, rfl, ⟨rfl, rfl, rfl⟩ | ⟨hi0, rfl, rfl⟩⟩ J hJ
    · by_cases h0 : 0 < rs.length
      · have d1 : (0 : Int) < rs.length := by omega
        have hr := rd_rows rs 0 h0
        rw [List.drop_zero] at hr
        have hc := join_take rs 0 h0
        have hb := hle 1
        have hb2 : (rs.getD 0 .nil).l.length ≤ 140737488355328 := by have := hcap 0 h0; have := hle (0 + 1); omega
        (repeat' (first | simp (maxSteps := 2000000) -implicitDefEqProofs only [A_slices_Concat_byte_byte_L1, d1, hr, idx_rows, app_bs0, hb2, lr, lr2, oO, oN, oG, oNG, oM, oF, oL, rg, ci, seval, resAll, resL, resV, blkAt, undef, fillV, evParts, footOp, wrOp, chk, disj] | split))
        exact hJ _ _ _ _ _ (by omega) ⟨1, by omega, rfl, .inr ⟨by omega, rfl, rfl⟩⟩ (by refine .ren _ _ _ [1] (by decide) (by intro k h; first | exact absurd h (Nat.not_lt_zero k) | (simp at h; done) | (rcases k with _ | _ | _ | k <;> first | rfl | (exfalso; omega) | (simp at h; done))) ?_ ?_ <;> simp [KeepS, KeepH, ArgRel, ArgRelL, argL_cl, arg_cl, row_l_of, row_l_nil, bn_len, blkAt, hc, joinF, List.take_zero])
      · exfalso
        have : rs = [] := List.length_eq_zero_iff.1 (by omega)
        subst this
        simp [joinF] at h1
    · have d0 : (0 : Int) ≤ i := by omega
      have w1 : IntKind.i64.wrap ((i : Int) + 1) = ((i + 1 : Nat) : Int) := by rw [wrap_id _ (by omega) (by omega)]; omega
      by_cases hil : i < rs.length
      · have d1 : (i : Int) < rs.length := by omega
        have hr := rd_rows rs i hil
        have hc := join_take rs i hil
        have hb := hle (i + 1)
        have hs : Sm (joinF (rs.take i)) (rs.getD i .nil).l.length := by have := hcap i hil; simp only [Sm]; omega
        (repeat' (first | simp (maxSteps := 2000000) -implicitDefEqProofs only [A_slices_Concat_byte_byte_L1, d0, d1, w1, hr, idx_rows, hs, lr, lr2, oO, oN, oG, oNG, oM, oF, oL, rg, ci, seval, resAll, resL, resV, blkAt, undef, fillV, evParts, footOp, wrOp, chk, disj] | split))
        exact hJ _ _ _ _ _ (by omega) ⟨i + 1, by omega, rfl, .inr ⟨by omega, rfl, rfl⟩⟩ (by refine .ren _ _ _ [1] (by decide) (by intro k h; first | exact absurd h (Nat.not_lt_zero k) | (simp at h; done) | (rcases k with _ | _ | _ | k <;> first | rfl | (exfalso; omega) | (simp at h; done))) ?_ ?_ <;> simp [KeepS, KeepH, ArgRel, ArgRelL, argL_cl, arg_cl, row_l_of, row_l_nil, bn_len, blkAt, hc])
      · obtain rfl : i = rs.length := by omega
        have d1 : ¬ ((rs.length : Nat) : Int) < rs.length := by omega
        simp (maxSteps := 2000000) -implicitDefEqProofs only [A_slices_Concat_byte_byte_L1, K_slices_Concat_byte_byte_L1, d1, List.take_length, lr, lr2, oO, oN, oG, oNG, oM, oF, oL, rg, ci, seval, resAll, resL, resV, blkAt, undef, fillV, evParts, footOp, wrOp, chk, disj]
        exact out_row rfl (bs_closed _)
end Go.Proofs.YtfpoebmihjbknaaGreat.VA

/- The compact code of the functions that sum up. -/
set_option linter.unusedVariables false
set_option maxRecDepth 100000
namespace Go.Proofs.YtfpoebmihjbknaaGreat.VA
open Go
noncomputable section
def A_clavigerref2_Sum_L0 : ACode := (.seq (.seq (rg [oM 17 4, oO 18 (.lenSl (.t 17)), oO 19 (.bin .rem (.t 18) (ci 8)), oO 20 (.bin .neq (.t 19) (ci 0))]) (.cond (.t 20) .skip (.exit 0))) (.block 1 (rg [oM 21 4, oO 22 (.buildSl 1 1 z1 [(0, (1, (.c (.int .u8 0))))]), oO 23 (.append 1 1 (.t 21) (.t 22)), oM 4 23])))
def A_clavigerref2_Sum_L1 : ACode := (.seq (.seq (rg [oM 27 6, oO 28 (.bin .lss (.t 27) (ci 8))]) (.cond (.t 28) .skip (.exit 2))) (.seq (.block 3 (.seq (rg [oM 31 4, oM 32 5, oO 33 (.conv .u8 (.t 32)), oO 34 (.buildSl 1 1 z1 [(0, (1, (.t 33)))]), oO 35 (.append 1 1 (.t 31) (.t 34)), oM 4 35]) (rg [oM 36 5, oO 37 (.bin .quo (.t 36) (.c (.int .u64 256))), oM 5 37]))) (rg [oM 29 6, oO 30 (.bin .add (.t 29) (ci 1)), oM 6 30])))
def A_clavigerref2_Sum_L2 : ACode := (.seq (.seq (rg [oM 38 7, oM 39 4, oO 40 (.lenSl (.t 39)), oO 41 (.bin .lss (.t 38) (.t 40))]) (.cond (.t 41) .skip (.exit 4))) (.seq (.block 5 (.seq (.region [(3, 9)] [oM 44 3, oM 45 3, oO 46 (.idxSl 1 (.t 45) (ci 0)), oL 47 46, oM 48 4, oM 49 7, oM 50 7, oO 51 (.bin .add (.t 50) (ci 4)), oO 52 (.sliceSl 1 (.t 48) (some (.t 49)) (some (.t 51))), oO 53 (.call 85 [(.t 52)]), oO 54 (.bin .xor (.t 47) (.t 53)), oO 55 (.idxSl 1 (.t 44) (ci 0)), oN (.store 1 (.t 55) (.t 54))]) (.seq (.region [(3, 10)] [oM 56 3, oM 57 3, oO 58 (.idxSl 1 (.t 57) (ci 3)), oL 59 58, oM 60 4, oM 61 7, oO 62 (.bin .add (.t 61) (ci 4)), oM 63 7, oO 64 (.bin .add (.t 63) (ci 8)), oO 65 (.sliceSl 1 (.t 60) (some (.t 62)) (some (.t 64))), oO 66 (.call 85 [(.t 65)]), oO 67 (.bin .xor (.t 59) (.t 66)), oO 68 (.idxSl 1 (.t 56) (ci 3)), oN (.store 1 (.t 68) (.t 67))]) (.seq (rg [oM 69 3, oO 70 (.call 86 [(.t 69)])]) (.seq (rg [oM 71 3, oO 72 (.call 86 [(.t 71)])]) (rg [oM 73 3, oO 74 (.call 86 [(.t 73)])])))))) (rg [oM 42 7, oO 43 (.bin .add (.t 42) (ci 8)), oM 7 43])))
def A_clavigerref2_Sum_L3 : ACode := (.seq (.seq (rg [oM 75 8, oO 76 (.bin .lss (.t 75) (ci 8))]) (.cond (.t 76) .skip (.exit 6))) (.seq (.block 7 (rg [oM 79 3, oO 80 (.call 86 [(.t 79)])])) (rg [oM 77 8, oO 78 (.bin .add (.t 77) (ci 1)), oM 8 78])))
def A_clavigerref2_Sum_L4 : ACode := (.seq (.seq (rg [oM 81 10, oO 82 (.bin .lss (.t 81) (ci 16))]) (.cond (.t 82) .skip (.exit 8))) (.seq (.block 9 (.seq (rg [oM 85 10, oM 86 3, oM 87 10, oO 88 (.bin .quo (.t 87) (ci 4)), oO 89 (.idxSl 1 (.t 86) (.t 88)), oL 90 89, oO 91 (.conv .u8 (.t 90)), oO 92 (.idxArr 16 1 (.t 9) (.t 85)), oN (.store 1 (.t 92) (.t 91))]) (rg [oM 93 3, oM 94 10, oO 95 (.bin .quo (.t 94) (ci 4)), oM 96 3, oM 97 10, oO 98 (.bin .quo (.t 97) (ci 4)), oO 99 (.idxSl 1 (.t 96) (.t 98)), oL 100 99, oO 101 (.bin .quo (.t 100) (.c (.int .u32 256))), oO 102 (.idxSl 1 (.t 93) (.t 95)), oN (.store 1 (.t 102) (.t 101))]))) (rg [oM 83 10, oO 84 (.bin .add (.t 83) (ci 1)), oM 10 84])))
def A_clavigerref2_Sum : ACode := (.seq (rg [oO 2 (.alloc z16)]) (.seq (rg [oO 11 (.buildSl 1 4 [(.int .u32 0)] [(0, (1, (.c (.int .u32 1668047222)))), (1, (1, (.c (.int .u32 1768383858)))), (2, (1, (.c (.int .u32 1801807216)))), (3, (1, (.c (.int .u32 1935763045))))]), oM 3 11]) (.seq (rg [oO 12 (.buildSl 1 0 z1 []), oM 13 0, oO 14 (.append 1 1 (.t 12) (.t 13)), oO 15 (.buildSl 1 1 z1 [(0, (1, (.c (.int .u8 128))))]), oO 16 (.append 1 1 (.t 14) (.t 15)), oM 4 16]) (.seq (.block 0 (.loop A_clavigerref2_Sum_L0)) (.seq (rg [oM 24 0, oO 25 (.lenSl (.t 24)), oO 26 (.conv .u64 (.t 25)), oM 5 26]) (.seq (.seq (rg [oO 6 (.mov (ci 0))]) (.block 2 (.loop A_clavigerref2_Sum_L1))) (.seq (.seq (rg [oO 7 (.mov (ci 0))]) (.block 4 (.loop A_clavigerref2_Sum_L2))) (.seq (.seq (rg [oO 8 (.mov (ci 0))]) (.block 6 (.loop A_clavigerref2_Sum_L3))) (.seq (rg [oO 9 (.alloc z16)]) (.seq (.seq (rg [oO 10 (.mov (ci 0))]) (.block 8 (.loop A_clavigerref2_Sum_L4))) (.seq (rg [oO 103 (.load (some 16) (.t 9)), oN (.store 16 (.t 2) (.t 103))]) .ret)))))))))))
def K_clavigerref2_Sum_L2 : Kt := (.blk 4 (.seq (.seq (.seq (rg [oO 8 (.mov (ci 0))]) (.block 6 (.loop A_clavigerref2_Sum_L3))) (.seq (rg [oO 9 (.alloc z16)]) (.seq (.seq (rg [oO 10 (.mov (ci 0))]) (.block 8 (.loop A_clavigerref2_Sum_L4))) (.seq (rg [oO 103 (.load (some 16) (.t 9)), oN (.store 16 (.t 2) (.t 103))]) .ret)))) .fin))
theorem A_clavigerref2_Sum_ok : Tryz.f66.body.bind (cCode Tryz.prog) = some A_clavigerref2_Sum := by kernel_rfl
theorem A_clavigerref2_Sum_res : cRes Tryz.prog Tryz.f66.results.toList = some [(.cell 2 (some 16))] := by kernel_rfl
theorem A_clavigerref2_Sum_nt : Tryz.f66.ntmps = 104 := by kernel_rfl
def A_blend_Sum_L0 : ACode := (.seq (.seq (rg [oM 13 4, oO 14 (.lenSl (.t 13)), oO 15 (.bin .rem (.t 14) (ci 8)), oO 16 (.bin .neq (.t 15) (ci 0))]) (.cond (.t 16) .skip (.exit 0))) (.block 1 (rg [oM 17 4, oO 18 (.buildSl 1 1 z1 [(0, (1, (.c (.int .u8 0))))]), oO 19 (.append 1 1 (.t 17) (.t 18)), oM 4 19])))
def A_blend_Sum_L1 : ACode := (.seq (rg [oO 21 (.bin .lss (.t 20) (ci 8))]) (.seq (.cond (.t 21) .skip (.exit 2)) (.seq (.block 3 (.seq (rg [oM 22 20, oM 5 22]) (rg [oM 23 4, oM 24 0, oO 25 (.lenSl (.t 24)), oO 26 (.conv .u64 (.t 25)), oM 27 5, oO 28 (.bin .mul (ci 8) (.t 27)), oO 29 (.bin .shr (.t 26) (.t 28)), oO 30 (.conv .u8 (.t 29)), oO 31 (.buildSl 1 1 z1 [(0, (1, (.t 30)))]), oO 32 (.append 1 1 (.t 23) (.t 31)), oM 4 32]))) (rg [oO 33 (.bin .add (.t 20) (ci 1)), oM 20 33]))))
def A_blend_Sum_L2 : ACode := (.seq (rg [oO 53 (.bin .lss (.t 52) (ci 3))]) (.seq (.cond (.t 53) .skip (.exit 6)) (.seq (.block 7 (rg [oO 54 (.call 103 [(.t 3)])])) (rg [oO 55 (.bin .add (.t 52) (ci 1)), oM 52 55]))))
def A_blend_Sum_L3 : ACode := (.seq (.seq (rg [oM 34 4, oO 35 (.lenSl (.t 34)), oO 36 (.bin .gtr (.t 35) (ci 0))]) (.cond (.t 36) .skip (.exit 4))) (.seq (.block 5 (.seq (.region [(1, 3)] [oO 39 (.idxArr 4 1 (.t 3) (ci 0)), oL 40 39, oM 41 4, oO 42 (.call 102 [(.t 41)]), oO 43 (.bin .xor (.t 40) (.t 42)), oO 44 (.idxArr 4 1 (.t 3) (ci 0)), oN (.store 1 (.t 44) (.t 43))]) (.seq (.region [(1, 4)] [oO 45 (.idxArr 4 1 (.t 3) (ci 3)), oL 46 45, oM 47 4, oO 48 (.sliceSl 1 (.t 47) (some (ci 4)) none), oO 49 (.call 102 [(.t 48)]), oO 50 (.bin .xor (.t 46) (.t 49)), oO 51 (.idxArr 4 1 (.t 3) (ci 3)), oN (.store 1 (.t 51) (.t 50))]) (.seq (rg [oO 52 (.mov (ci 0))]) (.block 6 (.loop A_blend_Sum_L2)))))) (rg [oM 37 4, oO 38 (.sliceSl 1 (.t 37) (some (ci 8)) none), oM 4 38])))
def A_blend_Sum_L4 : ACode := (.seq (rg [oO 57 (.bin .lss (.t 56) (ci 8))]) (.seq (.cond (.t 57) .skip (.exit 8)) (.seq (.block 9 (rg [oO 58 (.call 103 [(.t 3)])])) (rg [oO 59 (.bin .add (.t 56) (ci 1)), oM 56 59]))))
def A_blend_Sum_L5 : ACode := (.seq (rg [oO 61 (.bin .lss (.t 60) (ci 16))]) (.seq (.cond (.t 61) .skip (.exit 10)) (.seq (.block 11 (.seq (rg [oM 62 60, oM 7 62]) (rg [oM 63 7, oM 64 7, oO 65 (.bin .quo (.t 64) (ci 4)), oO 66 (.idxArr 4 1 (.t 3) (.t 65)), oL 67 66, oM 68 7, oO 69 (.bin .rem (.t 68) (ci 4)), oO 70 (.bin .mul (ci 8) (.t 69)), oO 71 (.bin .shr (.t 67) (.t 70)), oO 72 (.conv .u8 (.t 71)), oO 73 (.idxArr 16 1 (.t 6) (.t 63)), oN (.store 1 (.t 73) (.t 72))]))) (rg [oO 74 (.bin .add (.t 60) (ci 1)), oM 60 74]))))
def A_blend_Sum : ACode := (.seq (rg [oO 2 (.alloc z16)]) (.seq (rg [oO 8 (.build [(.int .u32 0), (.int .u32 0), (.int .u32 0), (.int .u32 0)] [(0, (1, (.c (.int .u32 1668047222)))), (1, (1, (.c (.int .u32 1768383858)))), (2, (1, (.c (.int .u32 1801807216)))), (3, (1, (.c (.int .u32 1935763045))))]), oO 3 (.alloc [(.int .u32 0), (.int .u32 0), (.int .u32 0), (.int .u32 0)]), oN (.store 4 (.t 3) (.t 8))]) (.seq (rg [oM 9 0, oO 10 (.call 92 [(.t 9)]), oO 11 (.buildSl 1 1 z1 [(0, (1, (.c (.int .u8 128))))]), oO 12 (.append 1 1 (.t 10) (.t 11)), oM 4 12]) (.seq (.block 0 (.loop A_blend_Sum_L0)) (.seq (.seq (rg [oO 20 (.mov (ci 0))]) (.block 2 (.loop A_blend_Sum_L1))) (.seq (.block 4 (.loop A_blend_Sum_L3)) (.seq (.seq (rg [oO 56 (.mov (ci 0))]) (.block 8 (.loop A_blend_Sum_L4))) (.seq (rg [oO 6 (.alloc z16)]) (.seq (.seq (rg [oO 60 (.mov (ci 0))]) (.block 10 (.loop A_blend_Sum_L5))) (.seq (rg [oO 75 (.load (some 16) (.t 6)), oN (.store 16 (.t 2) (.t 75))]) .ret))))))))))
def K_blend_Sum_L0 : Kt := (.blk 0 (.seq (.seq (.seq (rg [oO 20 (.mov (ci 0))]) (.block 2 (.loop A_blend_Sum_L1))) (.seq (.block 4 (.loop A_blend_Sum_L3)) (.seq (.seq (rg [oO 56 (.mov (ci 0))]) (.block 8 (.loop A_blend_Sum_L4))) (.seq (rg [oO 6 (.alloc z16)]) (.seq (.seq (rg [oO 60 (.mov (ci 0))]) (.block 10 (.loop A_blend_Sum_L5))) (.seq (rg [oO 75 (.load (some 16) (.t 6)), oN (.store 16 (.t 2) (.t 75))]) .ret)))))) .fin))
def K_blend_Sum_L3 : Kt := (.blk 4 (.seq (.seq (.seq (rg [oO 56 (.mov (ci 0))]) (.block 8 (.loop A_blend_Sum_L4))) (.seq (rg [oO 6 (.alloc z16)]) (.seq (.seq (rg [oO 60 (.mov (ci 0))]) (.block 10 (.loop A_blend_Sum_L5))) (.seq (rg [oO 75 (.load (some 16) (.t 6)), oN (.store 16 (.t 2) (.t 75))]) .ret)))) .fin))
theorem A_blend_Sum_ok : Tryz.f98.body.bind (cCode Tryz.prog) = some A_blend_Sum := by kernel_rfl
theorem A_blend_Sum_res : cRes Tryz.prog Tryz.f98.results.toList = some [(.cell 2 (some 16))] := by kernel_rfl
theorem A_blend_Sum_nt : Tryz.f98.ntmps = 76 := by kernel_rfl
def A_blend_Keyed : ACode := (.seq (rg [oO 2 (.box (.t 0)), oO 4 (.alloc z16)]) (.seq (rg [oO 5 (.sliceArr 16 1 (.t 2) none none), oO 6 (.call 92 [(.t 5)]), oM 7 1, oO 8 (.append 1 1 (.t 6) (.t 7)), oO 9 (.call 98 [(.t 8)]), oN (.store 16 (.t 4) (.t 9))]) .ret))
theorem A_blend_Keyed_ok : Tryz.f82.body.bind (cCode Tryz.prog) = some A_blend_Keyed := by kernel_rfl
theorem A_blend_Keyed_res : cRes Tryz.prog Tryz.f82.results.toList = some [(.cell 4 (some 16))] := by kernel_rfl
theorem A_blend_Keyed_nt : Tryz.f82.ntmps = 10 := by kernel_rfl
def A_clavigerref2_Keyed : ACode := (.seq (rg [oO 2 (.box (.t 0)), oO 4 (.alloc z16)]) (.seq (rg [oO 5 (.buildSl 1 0 z1 []), oO 6 (.sliceArr 16 1 (.t 2) none none), oO 7 (.append 1 1 (.t 5) (.t 6)), oM 8 1, oO 9 (.append 1 1 (.t 7) (.t 8)), oO 10 (.call 66 [(.t 9)]), oN (.store 16 (.t 4) (.t 10))]) .ret))
theorem A_clavigerref2_Keyed_ok : Tryz.f65.body.bind (cCode Tryz.prog) = some A_clavigerref2_Keyed := by kernel_rfl
theorem A_clavigerref2_Keyed_res : cRes Tryz.prog Tryz.f65.results.toList = some [(.cell 4 (some 16))] := by kernel_rfl
theorem A_clavigerref2_Keyed_nt : Tryz.f65.ntmps = 11 := by kernel_rfl
def A_blend_Two : ACode := (.seq (rg [oO 2 (.box (.t 0)), oO 3 (.box (.t 1)), oO 4 (.alloc z16)]) (.seq (rg [oO 5 (.load (some 16) (.t 2)), oO 6 (.sliceArr 16 1 (.t 3) none none), oO 7 (.call 82 [(.t 5), (.t 6)]), oN (.store 16 (.t 4) (.t 7))]) .ret))
theorem A_blend_Two_ok : Tryz.f97.body.bind (cCode Tryz.prog) = some A_blend_Two := by kernel_rfl
theorem A_blend_Two_res : cRes Tryz.prog Tryz.f97.results.toList = some [(.cell 4 (some 16))] := by kernel_rfl
theorem A_blend_Two_nt : Tryz.f97.ntmps = 8 := by kernel_rfl
def A_clavigerref2_Two : ACode := (.seq (rg [oO 2 (.box (.t 0)), oO 3 (.box (.t 1)), oO 4 (.alloc z16)]) (.seq (rg [oO 5 (.load (some 16) (.t 2)), oO 6 (.sliceArr 16 1 (.t 3) none none), oO 7 (.call 65 [(.t 5), (.t 6)]), oN (.store 16 (.t 4) (.t 7))]) .ret))
theorem A_clavigerref2_Two_ok : Tryz.f84.body.bind (cCode Tryz.prog) = some A_clavigerref2_Two := by kernel_rfl
theorem A_clavigerref2_Two_res : cRes Tryz.prog Tryz.f84.results.toList = some [(.cell 4 (some 16))] := by kernel_rfl
theorem A_clavigerref2_Two_nt : Tryz.f84.ntmps = 8 := by kernel_rfl
def A_blend_Stream_L0 : ACode := (.seq (.seq (rg [oM 13 7, oO 14 (.lenSl (.t 13)), oM 15 2, oO 16 (.bin .lss (.t 14) (.t 15))]) (.cond (.t 16) .skip (.exit 0))) (.seq (.block 1 (.seq (.region [(0, 2), (0, 4), (0, 5)] [oO 19 (.load (some 16) (.t 3)), oM 20 1, oO 21 (.call 35 [(.t 20)]), oM 22 8, oO 23 (.call 35 [(.t 22)]), oO 24 (.append 1 1 (.t 21) (.t 23)), oO 25 (.call 82 [(.t 19), (.t 24)]), oO 9 (.alloc z16), oN (.store 16 (.t 9) (.t 25))]) (rg [oM 26 7, oO 27 (.sliceArr 16 1 (.t 9) none none), oO 28 (.append 1 1 (.t 26) (.t 27)), oM 7 28]))) (rg [oM 17 8, oO 18 (.bin .add (.t 17) (.c (.int .u64 1))), oM 8 18])))
def A_blend_Stream : ACode := (.seq (rg [oO 3 (.box (.t 0)), oO 6 (.mov (.c (.slice none 0 0)))]) (.seq (rg [oM 10 2, oO 11 (.minmax false [(.t 10), (ci 8192)]), oO 12 (.minmax true [(ci 0), (.t 11)]), oM 2 12]) (.seq (rg [oO 7 (.mov (.c (.slice none 0 0)))]) (.seq (.seq (rg [oO 8 (.mov (.c (.int .u64 0)))]) (.block 0 (.loop A_blend_Stream_L0))) (.seq (rg [oM 29 7, oM 30 2, oO 31 (.sliceSl 1 (.t 29) none (some (.t 30))), oO 32 (.call 92 [(.t 31)]), oM 6 32]) .ret)))))
def K_blend_Stream_L0 : Kt := (.blk 0 (.seq (.seq (rg [oM 29 7, oM 30 2, oO 31 (.sliceSl 1 (.t 29) none (some (.t 30))), oO 32 (.call 92 [(.t 31)]), oM 6 32]) .ret) .fin))
theorem A_blend_Stream_ok : Tryz.f96.body.bind (cCode Tryz.prog) = some A_blend_Stream := by kernel_rfl
theorem A_blend_Stream_res : cRes Tryz.prog Tryz.f96.results.toList = some [(.tmp 6)] := by kernel_rfl
theorem A_blend_Stream_nt : Tryz.f96.ntmps = 33 := by kernel_rfl
def A_clavigerref2_Stream_L0 : ACode := (.seq (.seq (rg [oM 13 7, oO 14 (.lenSl (.t 13)), oM 15 2, oO 16 (.bin .lss (.t 14) (.t 15))]) (.cond (.t 16) .skip (.exit 0))) (.seq (.block 1 (.seq (.region [(0, 2), (0, 4), (0, 5)] [oO 19 (.load (some 16) (.t 3)), oM 20 1, oO 21 (.call 36 [(.t 20)]), oM 22 8, oO 23 (.call 36 [(.t 22)]), oO 24 (.append 1 1 (.t 21) (.t 23)), oO 25 (.call 65 [(.t 19), (.t 24)]), oO 9 (.alloc z16), oN (.store 16 (.t 9) (.t 25))]) (rg [oM 26 7, oO 27 (.sliceArr 16 1 (.t 9) none none), oO 28 (.append 1 1 (.t 26) (.t 27)), oM 7 28]))) (rg [oM 17 8, oO 18 (.bin .add (.t 17) (.c (.int .u64 1))), oM 8 18])))
def A_clavigerref2_Stream : ACode := (.seq (rg [oO 3 (.box (.t 0)), oO 6 (.mov (.c (.slice none 0 0)))]) (.seq (rg [oM 10 2, oO 11 (.minmax false [(.t 10), (ci 8192)]), oO 12 (.minmax true [(.t 11), (ci 0)]), oM 2 12]) (.seq (rg [oO 7 (.mov (.c (.slice none 0 0)))]) (.seq (.seq (rg [oO 8 (.mov (.c (.int .u64 0)))]) (.block 0 (.loop A_clavigerref2_Stream_L0))) (.seq (rg [oM 29 7, oM 30 2, oO 31 (.sliceSl 1 (.t 29) none (some (.t 30))), oM 6 31]) .ret)))))
def K_clavigerref2_Stream_L0 : Kt := (.blk 0 (.seq (.seq (rg [oM 29 7, oM 30 2, oO 31 (.sliceSl 1 (.t 29) none (some (.t 30))), oM 6 31]) .ret) .fin))
theorem A_clavigerref2_Stream_ok : Tryz.f83.body.bind (cCode Tryz.prog) = some A_clavigerref2_Stream := by kernel_rfl
theorem A_clavigerref2_Stream_res : cRes Tryz.prog Tryz.f83.results.toList = some [(.tmp 6)] := by kernel_rfl
theorem A_clavigerref2_Stream_nt : Tryz.f83.ntmps = 32 := by kernel_rfl
def A_blend_Number_L0 : ACode := (.seq (rg [oO 9 (.bin .lss (.t 8) (.t 7))]) (.seq (.cond (.t 9) .skip (.exit 0)) (.seq (.block 1 (.seq (rg [oM 10 8, oM 4 10]) (rg [oM 11 3, oM 12 4, oM 13 0, oM 14 4, oO 15 (.bin .sub (ci 7) (.t 14)), oO 16 (.bin .mul (ci 8) (.t 15)), oO 17 (.bin .shr (.t 13) (.t 16)), oO 18 (.conv .u8 (.t 17)), oO 19 (.idxSl 1 (.t 11) (.t 12)), oN (.store 1 (.t 19) (.t 18))]))) (rg [oO 20 (.bin .add (.t 8) (ci 1)), oM 8 20]))))
def A_blend_Number : ACode := (.seq (rg [oO 2 (.mov (.c (.slice none 0 0)))]) (.seq (rg [oO 5 (.mkSl 1 1 z1 (ci 8) (ci 8)), oM 3 5]) (.seq (.seq (rg [oM 6 3, oO 7 (.lenSl (.t 6)), oO 8 (.mov (ci 0))]) (.block 0 (.loop A_blend_Number_L0))) (.seq (rg [oM 21 3, oM 2 21]) .ret))))
theorem A_blend_Number_ok : Tryz.f35.body.bind (cCode Tryz.prog) = some A_blend_Number := by kernel_rfl
theorem A_blend_Number_res : cRes Tryz.prog Tryz.f35.results.toList = some [(.tmp 2)] := by kernel_rfl
theorem A_blend_Number_nt : Tryz.f35.ntmps = 22 := by kernel_rfl
def A_clavigerref2_Number_L0 : ACode := (.seq (.seq (rg [oM 6 4, oO 7 (.bin .geq (.t 6) (ci 0))]) (.cond (.t 7) .skip (.exit 0))) (.seq (.block 1 (.seq (rg [oM 10 3, oM 11 4, oM 12 0, oO 13 (.conv .u8 (.t 12)), oO 14 (.idxSl 1 (.t 10) (.t 11)), oN (.store 1 (.t 14) (.t 13))]) (rg [oM 15 0, oO 16 (.bin .quo (.t 15) (.c (.int .u64 256))), oM 0 16]))) (rg [oM 8 4, oO 9 (.bin .sub (.t 8) (ci 1)), oM 4 9])))
def A_clavigerref2_Number : ACode := (.seq (rg [oO 2 (.mov (.c (.slice none 0 0)))]) (.seq (rg [oO 5 (.mkSl 1 1 z1 (ci 8) (ci 8)), oM 3 5]) (.seq (.seq (rg [oO 4 (.mov (ci 7))]) (.block 0 (.loop A_clavigerref2_Number_L0))) (.seq (rg [oM 17 3, oM 2 17]) .ret))))
theorem A_clavigerref2_Number_ok : Tryz.f36.body.bind (cCode Tryz.prog) = some A_clavigerref2_Number := by kernel_rfl
theorem A_clavigerref2_Number_res : cRes Tryz.prog Tryz.f36.results.toList = some [(.tmp 2)] := by kernel_rfl
theorem A_clavigerref2_Number_nt : Tryz.f36.ntmps = 18 := by kernel_rfl
def A_blend_Same : ACode := (.seq (rg [oO 4 (.mov (.c (.bool false)))]) (.seq (rg [oM 5 0, oM 6 1, oO 7 (.call 100 [(.t 5), (.t 6)]), oM 4 7]) .ret))
theorem A_blend_Same_ok : Tryz.f87.body.bind (cCode Tryz.prog) = some A_blend_Same := by kernel_rfl
theorem A_blend_Same_res : cRes Tryz.prog Tryz.f87.results.toList = some [(.tmp 4)] := by kernel_rfl
theorem A_blend_Same_nt : Tryz.f87.ntmps = 8 := by kernel_rfl
def A_clavigerref2_word_L0 : ACode := (.seq (.seq (rg [oM 5 4, oO 6 (.bin .geq (.t 5) (ci 0))]) (.cond (.t 6) .skip (.exit 0))) (.seq (.block 1 (rg [oM 9 3, oO 10 (.bin .mul (.t 9) (.c (.int .u32 256))), oM 11 0, oM 12 4, oO 13 (.idxSl 1 (.t 11) (.t 12)), oL 14 13, oO 15 (.conv .u32 (.t 14)), oO 16 (.bin .add (.t 10) (.t 15)), oM 3 16])) (rg [oM 7 4, oO 8 (.bin .sub (.t 7) (ci 1)), oM 4 8])))
def A_clavigerref2_word : ACode := (.seq (rg [oO 2 (.mov (.c (.int .u32 0)))]) (.seq (rg [oO 3 (.mov (.c (.int .u32 0)))]) (.seq (.seq (rg [oO 4 (.mov (ci 3))]) (.block 0 (.loop A_clavigerref2_word_L0))) (.seq (rg [oM 17 3, oM 2 17]) .ret))))
theorem A_clavigerref2_word_ok : Tryz.f85.body.bind (cCode Tryz.prog) = some A_clavigerref2_word := by kernel_rfl
theorem A_clavigerref2_word_res : cRes Tryz.prog Tryz.f85.results.toList = some [(.tmp 2)] := by kernel_rfl
theorem A_clavigerref2_word_nt : Tryz.f85.ntmps = 18 := by kernel_rfl
def A_clavigerref2_stir : ACode := (.seq (rg [oM 2 0, oM 3 0, oO 4 (.idxSl 1 (.t 3) (ci 0)), oL 5 4, oM 6 0, oO 7 (.idxSl 1 (.t 6) (ci 1)), oL 8 7, oO 9 (.bin .add (.t 5) (.t 8)), oO 10 (.idxSl 1 (.t 2) (ci 0)), oN (.store 1 (.t 10) (.t 9))]) (.seq (rg [oM 11 0, oM 12 0, oO 13 (.idxSl 1 (.t 12) (ci 3)), oL 14 13, oM 15 0, oO 16 (.idxSl 1 (.t 15) (ci 0)), oL 17 16, oO 18 (.bin .xor (.t 14) (.t 17)), oO 19 (.call 99 [(.t 18), (ci 16)]), oO 20 (.idxSl 1 (.t 11) (ci 3)), oN (.store 1 (.t 20) (.t 19))]) (.seq (rg [oM 21 0, oM 22 0, oO 23 (.idxSl 1 (.t 22) (ci 2)), oL 24 23, oM 25 0, oO 26 (.idxSl 1 (.t 25) (ci 3)), oL 27 26, oO 28 (.bin .add (.t 24) (.t 27)), oO 29 (.idxSl 1 (.t 21) (ci 2)), oN (.store 1 (.t 29) (.t 28))]) (.seq (rg [oM 30 0, oM 31 0, oO 32 (.idxSl 1 (.t 31) (ci 1)), oL 33 32, oM 34 0, oO 35 (.idxSl 1 (.t 34) (ci 2)), oL 36 35, oO 37 (.bin .xor (.t 33) (.t 36)), oO 38 (.call 99 [(.t 37), (ci 12)]), oO 39 (.idxSl 1 (.t 30) (ci 1)), oN (.store 1 (.t 39) (.t 38))]) (.seq (rg [oM 40 0, oM 41 0, oO 42 (.idxSl 1 (.t 41) (ci 0)), oL 43 42, oM 44 0, oO 45 (.idxSl 1 (.t 44) (ci 1)), oL 46 45, oO 47 (.bin .add (.t 43) (.t 46)), oO 48 (.idxSl 1 (.t 40) (ci 0)), oN (.store 1 (.t 48) (.t 47))]) (.seq (rg [oM 49 0, oM 50 0, oO 51 (.idxSl 1 (.t 50) (ci 3)), oL 52 51, oM 53 0, oO 54 (.idxSl 1 (.t 53) (ci 0)), oL 55 54, oO 56 (.bin .xor (.t 52) (.t 55)), oO 57 (.call 99 [(.t 56), (ci 8)]), oO 58 (.idxSl 1 (.t 49) (ci 3)), oN (.store 1 (.t 58) (.t 57))]) (.seq (rg [oM 59 0, oM 60 0, oO 61 (.idxSl 1 (.t 60) (ci 2)), oL 62 61, oM 63 0, oO 64 (.idxSl 1 (.t 63) (ci 3)), oL 65 64, oO 66 (.bin .add (.t 62) (.t 65)), oO 67 (.idxSl 1 (.t 59) (ci 2)), oN (.store 1 (.t 67) (.t 66))]) (rg [oM 68 0, oM 69 0, oO 70 (.idxSl 1 (.t 69) (ci 1)), oL 71 70, oM 72 0, oO 73 (.idxSl 1 (.t 72) (ci 2)), oL 74 73, oO 75 (.bin .xor (.t 71) (.t 74)), oO 76 (.call 99 [(.t 75), (ci 7)]), oO 77 (.idxSl 1 (.t 68) (ci 1)), oN (.store 1 (.t 77) (.t 76))]))))))))
theorem A_clavigerref2_stir_ok : Tryz.f86.body.bind (cCode Tryz.prog) = some A_clavigerref2_stir := by kernel_rfl
theorem A_clavigerref2_stir_res : cRes Tryz.prog Tryz.f86.results.toList = some [] := by kernel_rfl
theorem A_clavigerref2_stir_nt : Tryz.f86.ntmps = 78 := by kernel_rfl
def A_bytes_Clone : ACode := (.seq (rg [oO 2 (.mov (.c (.slice none 0 0)))]) (.seq (.seq (rg [oM 3 0, oO 4 (.eqNil false (.t 3) (.c (.slice none 0 0)))]) (.cond (.t 4) (.seq (rg [oO 2 (.mov (.c (.slice none 0 0)))]) .ret) .skip)) (.seq (rg [oO 5 (.buildSl 1 0 z1 []), oM 6 0, oO 7 (.append 1 1 (.t 5) (.t 6)), oM 2 7]) .ret)))
theorem A_bytes_Clone_ok : Tryz.f92.body.bind (cCode Tryz.prog) = some A_bytes_Clone := by kernel_rfl
theorem A_bytes_Clone_res : cRes Tryz.prog Tryz.f92.results.toList = some [(.tmp 2)] := by kernel_rfl
theorem A_bytes_Clone_nt : Tryz.f92.ntmps = 8 := by kernel_rfl
def A_blend_low_L0 : ACode := (.seq (.seq (rg [oM 5 4, oO 6 (.bin .geq (.t 5) (ci 0))]) (.cond (.t 6) .skip (.exit 0))) (.seq (.block 1 (rg [oM 9 3, oO 10 (.bin .shl (.t 9) (.c (.int .u64 8))), oM 11 0, oM 12 4, oO 13 (.idxSl 1 (.t 11) (.t 12)), oL 14 13, oO 15 (.conv .u32 (.t 14)), oO 16 (.bin .or (.t 10) (.t 15)), oM 3 16])) (rg [oM 7 4, oO 8 (.bin .sub (.t 7) (ci 1)), oM 4 8])))
def A_blend_low : ACode := (.seq (rg [oO 2 (.mov (.c (.int .u32 0)))]) (.seq (rg [oO 3 (.mov (.c (.int .u32 0)))]) (.seq (.seq (rg [oO 4 (.mov (ci 3))]) (.block 0 (.loop A_blend_low_L0))) (.seq (rg [oM 17 3, oM 2 17]) .ret))))
theorem A_blend_low_ok : Tryz.f102.body.bind (cCode Tryz.prog) = some A_blend_low := by kernel_rfl
theorem A_blend_low_res : cRes Tryz.prog Tryz.f102.results.toList = some [(.tmp 2)] := by kernel_rfl
theorem A_blend_low_nt : Tryz.f102.ntmps = 18 := by kernel_rfl
def A_blend_words_stir : ACode := (.seq (rg [oM 2 0, oO 3 (.nilChk (.t 2)), oO 4 (.idxArr 4 1 (.t 3) (ci 0)), oL 5 4, oM 6 0, oO 7 (.nilChk (.t 6)), oO 8 (.idxArr 4 1 (.t 7) (ci 1)), oL 9 8, oO 10 (.bin .add (.t 5) (.t 9)), oO 11 (.nilChk (.t 2)), oO 12 (.idxArr 4 1 (.t 11) (ci 0)), oN (.store 1 (.t 12) (.t 10))]) (.seq (rg [oM 13 0, oM 14 0, oO 15 (.nilChk (.t 14)), oO 16 (.idxArr 4 1 (.t 15) (ci 3)), oL 17 16, oM 18 0, oO 19 (.nilChk (.t 18)), oO 20 (.idxArr 4 1 (.t 19) (ci 0)), oL 21 20, oO 22 (.bin .xor (.t 17) (.t 21)), oO 23 (.call 104 [(.t 22), (ci 16)]), oO 24 (.nilChk (.t 13)), oO 25 (.idxArr 4 1 (.t 24) (ci 3)), oN (.store 1 (.t 25) (.t 23))]) (.seq (rg [oM 26 0, oO 27 (.nilChk (.t 26)), oO 28 (.idxArr 4 1 (.t 27) (ci 2)), oL 29 28, oM 30 0, oO 31 (.nilChk (.t 30)), oO 32 (.idxArr 4 1 (.t 31) (ci 3)), oL 33 32, oO 34 (.bin .add (.t 29) (.t 33)), oO 35 (.nilChk (.t 26)), oO 36 (.idxArr 4 1 (.t 35) (ci 2)), oN (.store 1 (.t 36) (.t 34))]) (.seq (rg [oM 37 0, oM 38 0, oO 39 (.nilChk (.t 38)), oO 40 (.idxArr 4 1 (.t 39) (ci 1)), oL 41 40, oM 42 0, oO 43 (.nilChk (.t 42)), oO 44 (.idxArr 4 1 (.t 43) (ci 2)), oL 45 44, oO 46 (.bin .xor (.t 41) (.t 45)), oO 47 (.call 104 [(.t 46), (ci 12)]), oO 48 (.nilChk (.t 37)), oO 49 (.idxArr 4 1 (.t 48) (ci 1)), oN (.store 1 (.t 49) (.t 47))]) (.seq (rg [oM 50 0, oO 51 (.nilChk (.t 50)), oO 52 (.idxArr 4 1 (.t 51) (ci 0)), oL 53 52, oM 54 0, oO 55 (.nilChk (.t 54)), oO 56 (.idxArr 4 1 (.t 55) (ci 1)), oL 57 56, oO 58 (.bin .add (.t 53) (.t 57)), oO 59 (.nilChk (.t 50)), oO 60 (.idxArr 4 1 (.t 59) (ci 0)), oN (.store 1 (.t 60) (.t 58))]) (.seq (rg [oM 61 0, oM 62 0, oO 63 (.nilChk (.t 62)), oO 64 (.idxArr 4 1 (.t 63) (ci 3)), oL 65 64, oM 66 0, oO 67 (.nilChk (.t 66)), oO 68 (.idxArr 4 1 (.t 67) (ci 0)), oL 69 68, oO 70 (.bin .xor (.t 65) (.t 69)), oO 71 (.call 104 [(.t 70), (ci 8)]), oO 72 (.nilChk (.t 61)), oO 73 (.idxArr 4 1 (.t 72) (ci 3)), oN (.store 1 (.t 73) (.t 71))]) (.seq (rg [oM 74 0, oO 75 (.nilChk (.t 74)), oO 76 (.idxArr 4 1 (.t 75) (ci 2)), oL 77 76, oM 78 0, oO 79 (.nilChk (.t 78)), oO 80 (.idxArr 4 1 (.t 79) (ci 3)), oL 81 80, oO 82 (.bin .add (.t 77) (.t 81)), oO 83 (.nilChk (.t 74)), oO 84 (.idxArr 4 1 (.t 83) (ci 2)), oN (.store 1 (.t 84) (.t 82))]) (rg [oM 85 0, oM 86 0, oO 87 (.nilChk (.t 86)), oO 88 (.idxArr 4 1 (.t 87) (ci 1)), oL 89 88, oM 90 0, oO 91 (.nilChk (.t 90)), oO 92 (.idxArr 4 1 (.t 91) (ci 2)), oL 93 92, oO 94 (.bin .xor (.t 89) (.t 93)), oO 95 (.call 104 [(.t 94), (ci 7)]), oO 96 (.nilChk (.t 85)), oO 97 (.idxArr 4 1 (.t 96) (ci 1)), oN (.store 1 (.t 97) (.t 95))]))))))))
theorem A_blend_words_stir_ok : Tryz.f103.body.bind (cCode Tryz.prog) = some A_blend_words_stir := by kernel_rfl
theorem A_blend_words_stir_res : cRes Tryz.prog Tryz.f103.results.toList = some [] := by kernel_rfl
theorem A_blend_words_stir_nt : Tryz.f103.ntmps = 98 := by kernel_rfl
def A_bytes_Equal : ACode := (.seq (rg [oO 4 (.mov (.c (.bool false)))]) (.seq (rg [oM 5 0, oO 6 (.toStr (.t 5)), oM 7 1, oO 8 (.toStr (.t 7)), oO 9 (.bin .eql (.t 6) (.t 8)), oM 4 9]) .ret))
theorem A_bytes_Equal_ok : Tryz.f100.body.bind (cCode Tryz.prog) = some A_bytes_Equal := by kernel_rfl
theorem A_bytes_Equal_res : cRes Tryz.prog Tryz.f100.results.toList = some [(.tmp 4)] := by kernel_rfl
theorem A_bytes_Equal_nt : Tryz.f100.ntmps = 10 := by kernel_rfl
def A_clavigerref2_turn_L0 : ACode := (.seq (.seq (rg [oM 5 1, oO 6 (.bin .gtr (.t 5) (ci 0))]) (.cond (.t 6) .skip (.exit 0))) (.seq (.block 1 (rg [oM 9 0, oO 10 (.bin .shl (.t 9) (.c (.int .u64 1))), oM 11 0, oO 12 (.bin .shr (.t 11) (.c (.int .u64 31))), oO 13 (.bin .or (.t 10) (.t 12)), oM 0 13])) (rg [oM 7 1, oO 8 (.bin .sub (.t 7) (ci 1)), oM 1 8])))
def A_clavigerref2_turn : ACode := (.seq (rg [oO 4 (.mov (.c (.int .u32 0)))]) (.seq (.block 0 (.loop A_clavigerref2_turn_L0)) (.seq (rg [oM 14 0, oM 4 14]) .ret)))
theorem A_clavigerref2_turn_ok : Tryz.f99.body.bind (cCode Tryz.prog) = some A_clavigerref2_turn := by kernel_rfl
theorem A_clavigerref2_turn_res : cRes Tryz.prog Tryz.f99.results.toList = some [(.tmp 4)] := by kernel_rfl
theorem A_clavigerref2_turn_nt : Tryz.f99.ntmps = 15 := by kernel_rfl
def A_math_bits_RotateLeft32 : ACode := (.seq (rg [oO 4 (.mov (.c (.int .u32 0)))]) (.seq (rg [oM 6 1, oO 7 (.conv .u64 (.t 6)), oO 8 (.bin .and (.t 7) (.c (.int .u64 31))), oM 5 8]) (.seq (rg [oM 9 0, oM 10 5, oO 11 (.bin .shl (.t 9) (.t 10)), oM 12 0, oM 13 5, oO 14 (.bin .sub (.c (.int .u64 32)) (.t 13)), oO 15 (.bin .shr (.t 12) (.t 14)), oO 16 (.bin .or (.t 11) (.t 15)), oM 4 16]) .ret)))
theorem A_math_bits_RotateLeft32_ok : Tryz.f104.body.bind (cCode Tryz.prog) = some A_math_bits_RotateLeft32 := by kernel_rfl
theorem A_math_bits_RotateLeft32_res : cRes Tryz.prog Tryz.f104.results.toList = some [(.tmp 4)] := by kernel_rfl
theorem A_math_bits_RotateLeft32_nt : Tryz.f104.ntmps = 17 := by kernel_rfl
end
end Go.Proofs.YtfpoebmihjbknaaGreat.VA

/- What the functions that sum up do: words. -/
set_option linter.unusedVariables false
set_option linter.unusedSimpArgs false
set_option maxRecDepth 100000
namespace Go.Proofs.YtfpoebmihjbknaaGreat.VA
open Go
attribute [local irreducible] WK NK XK TK RK FK CK CFK CallRel C
def rotW (x k : Nat) : Nat := orW (x * 2 ^ k % 4294967296) (x / 2 ^ (32 - k))
theorem w32_mod (a : Int) : IntKind.u32.wrap a = a % 4294967296 := rfl
theorem rot_C (x k : Nat) (hk : k < 32) : C Tryz.prog 104 [vi .u32 x, vi .i64 k] [] (vi .u32 (rotW x k : Nat)) [] := by
  refine C_of mixed Tryz.func104 A_math_bits_RotateLeft32_ok A_math_bits_RotateLeft32_res _ A_math_bits_RotateLeft32_nt ?_
  have e1 : IntKind.u64.wrap (k : Int) = k := IntWalk.u64_in _ ⟨by omega, by omega⟩
  have e2 : IntKind.u64.wrap (((BitVec.ofInt IntKind.u64.bits (k : Int) &&& BitVec.ofInt IntKind.u64.bits 31).toNat : Nat) : Int) = k := by
    have e : (BitVec.ofInt IntKind.u64.bits (k : Int) &&& BitVec.ofInt IntKind.u64.bits 31).toNat = k := by
      rw [BitVec.toNat_and, ofInt_nat]
      have h31 : (BitVec.ofInt IntKind.u64.bits 31).toNat = 2 ^ 5 - 1 := by decide
      rw [h31, Nat.and_two_pow_sub_one_eq_mod]
      have : (2 : Nat) ^ IntKind.u64.bits = 18446744073709551616 := by decide
      rw [this]; omega
    rw [e, e1]
  have e3 : IntKind.u64.wrap (32 - (k : Int)) = ((32 - k : Nat) : Int) := by rw [IntWalk.u64_in _ ⟨by omega, by omega⟩]; omega
  have s1 := bin_shl .u32 .u64 x k (by omega)
  have s2 := bin_shr .u32 .u64 x ((32 - k : Nat) : Int) (by omega)
  have m1 : min ((k : Int).toNat) IntKind.u32.bits = k := by
    have : IntKind.u32.bits = 32 := rfl
    rw [this]; omega
  have m2 : min (((32 - k : Nat) : Int).toNat) IntKind.u32.bits = 32 - k := by
    have : IntKind.u32.bits = 32 := rfl
    rw [this]; omega
  rw [m1] at s1; rw [m2] at s2
  have e4 : IntKind.u32.wrap ((x : Int) * 2 ^ k) = ((x * 2 ^ k % 4294967296 : Nat) : Int) := by rw [w32_mod, Int.natCast_emod, Int.natCast_mul, Int.natCast_pow]; rfl
  have e5 : ((x : Int).fdiv (2 ^ (32 - k))) = ((x / 2 ^ (32 - k) : Nat) : Int) := by
    have hp : (2 : Int) ^ (32 - k) = ((2 ^ (32 - k) : Nat) : Int) := by rw [Int.natCast_pow]; rfl
    rw [hp, Int.fdiv_eq_ediv_of_nonneg _ (Int.natCast_nonneg _), Int.natCast_ediv]
  rw [e4] at s1; rw [e5] at s2
  (repeat' (first | simp (maxSteps := 2000000) -implicitDefEqProofs only [A_math_bits_RotateLeft32, e1, e2, e3, s1, s2, w32_or, lr, lr2, oO, oN, oG, oNG, oM, oF, oL, rg, ci, seval, resAll, resL, resV, blkAt, undef, fillV, evParts, footOp, wrOp, chk, disj] | split))
  all_goals (refine out_eq ?_ trivial; rfl)
structure W4 where
  a : Nat
  b : Nat
  c : Nat
  d : Nat
def cW (x : W4) : List V := [vi .u32 x.a, vi .u32 x.b, vi .u32 x.c, vi .u32 x.d]
theorem cW_closed (x : W4) : ClosedL (cW x) := ⟨trivial, trivial, trivial, trivial, trivial⟩
instance (x : W4) : ClL (cW x) := ⟨cW_closed x⟩
def stirF (x : W4) : W4 :=
  let a1 := (x.a + x.b) % 4294967296
  let d1 := rotW (xorW x.d a1) 16
  let c1 := (x.c + d1) % 4294967296
  let b1 := rotW (xorW x.b c1) 12
  let a2 := (a1 + b1) % 4294967296
  let d2 := rotW (xorW d1 a2) 8
  let c2 := (c1 + d2) % 4294967296
  let b2 := rotW (xorW b1 c2) 7
  ⟨a2, b2, c2, d2⟩
theorem stir_C (x : W4) : C Tryz.prog 103 [.ref 0 0] [cW x] (.tup []) [some (cW (stirF x))] := by
  refine C_of mixed Tryz.func103 A_blend_words_stir_ok A_blend_words_stir_res _ A_blend_words_stir_nt ?_
  (repeat' (first | simp (maxSteps := 2000000) -implicitDefEqProofs only [A_blend_words_stir, cW, w32_add, w32_xor, lr, lr2, oO, oN, oG, oNG, oM, oF, oL, rg, ci, seval, resAll, resL, resV, blkAt, undef, fillV, evParts, footOp, wrOp, chk, disj] | split | ((first | apply ck_call | apply cfk_call); (first | (apply call_pure (rot_C _ 16 (by decide)) cll cl) | (apply call_pure (rot_C _ 12 (by decide)) cll cl) | (apply call_pure (rot_C _ 8 (by decide)) cll cl) | (apply call_pure (rot_C _ 7 (by decide)) cll cl)))))
  exact out_upd rfl (cW_closed _) trivial
theorem rotW_arith (x k : Nat) (hx : x < 4294967296) (hk : k ≤ 31) : rotW x k = x * 2 ^ k % 4294967296 + x / 2 ^ (32 - k) := by
  have hM : (4294967296 : Nat) = 2 ^ (32 - k) * 2 ^ k := by rw [← Nat.pow_add, show 32 - k + k = 32 from by omega]
  have h1 : x * 2 ^ k % 4294967296 = (x % 2 ^ (32 - k)) * 2 ^ k := by rw [hM, Nat.mul_mod_mul_right]
  have h2 : x / 2 ^ (32 - k) < 2 ^ k := by
    apply Nat.div_lt_of_lt_mul
    rw [← hM]; exact hx
  have h3 : x / 2 ^ (32 - k) < 4294967296 := Nat.lt_of_le_of_lt (Nat.div_le_self _ _) hx
  rw [rotW, orW, Nat.mod_mod, Nat.mod_eq_of_lt h3, h1, ← Nat.shiftLeft_eq, Nat.shiftLeft_add_eq_or_of_lt h2]
theorem rotW_lt (x k : Nat) : rotW x k < 4294967296 := orW_lt _ _
theorem div_of {a b q r : Nat} (h : a = q * b + r) (hr : r < b) : a / b = q := by
  subst h
  rw [Nat.mul_comm, Nat.mul_add_div (by omega), Nat.div_eq_of_lt hr, Nat.add_zero]
theorem rot_fin (u v W P : Nat) (hW : W + P ≤ 2147483648) (hu : u < P) : (v * 2147483648 + W + u) * 2 % 4294967296 = W * 2 + u * 2 := by
  rw [show (v * 2147483648 + W + u) * 2 = (W * 2 + u * 2) + v * 4294967296 from by omega, Nat.add_mul_mod_self_right]
  exact Nat.mod_eq_of_lt (by omega)
theorem rot_alg (x P Q R : Nat) (hx : x < 4294967296) (hP : P * Q = 4294967296) (hQ : R * 2 = Q) :
    (x * P % 4294967296 + x / Q) * 2 % 4294967296 + (x * P % 4294967296 + x / Q) / 2147483648 = x * (P * 2) % 4294967296 + x / R := by
  have hR : 0 < R := by
    rcases Nat.eq_zero_or_pos R with h | h
    · subst h; subst hQ; simp at hP
    · exact h
  have hT : R * P = 2147483648 := by
    have : R * P * 2 = 4294967296 := by rw [Nat.mul_right_comm, hQ, Nat.mul_comm, hP]
    omega
  obtain ⟨u, r, hr, hu, rfl⟩ : ∃ u r, r < Q ∧ u < P ∧ x = u * Q + r := ⟨x / Q, x % Q, Nat.mod_lt _ (by omega), Nat.div_lt_of_lt_mul (by rw [Nat.mul_comm, hP]; exact hx), by rw [Nat.mul_comm]; exact (Nat.div_add_mod x Q).symm⟩
  obtain ⟨v, w, hw, hv, rfl⟩ : ∃ v w, w < R ∧ v ≤ 1 ∧ r = v * R + w := ⟨r / R, r % R, Nat.mod_lt _ hR, by have := Nat.div_lt_of_lt_mul (show r < R * 2 by omega); omega, by rw [Nat.mul_comm]; exact (Nat.div_add_mod r R).symm⟩
  have d1 : (u * Q + (v * R + w)) / Q = u := div_of rfl hr
  have d2 : (u * Q + (v * R + w)) / R = 2 * u + v := div_of (by rw [← hQ, Nat.add_mul, Nat.mul_comm 2 u, Nat.mul_assoc u 2 R, Nat.mul_comm 2 R, Nat.add_assoc]) hw
  have hW : w * P + P ≤ 2147483648 := by
    have : (w + 1) * P ≤ R * P := Nat.mul_le_mul_right P hw
    rw [hT, Nat.add_mul, Nat.one_mul] at this; exact this
  have hxP : (u * Q + (v * R + w)) * P = u * 4294967296 + (v * 2147483648 + w * P) := by
    rw [Nat.add_mul, Nat.add_mul, Nat.mul_assoc, Nat.mul_assoc, Nat.mul_comm Q P, hP, hT]
  rw [← Nat.mul_assoc, hxP, d1, d2]
  generalize w * P = W at *
  have e2 : (u * 4294967296 + (v * 2147483648 + W)) % 4294967296 = v * 2147483648 + W := by omega
  have e4 : (u * 4294967296 + (v * 2147483648 + W)) * 2 % 4294967296 = W * 2 := by omega
  have e5 := rot_fin u v W P hW hu
  have e6 : (v * 2147483648 + W + u) / 2147483648 = v := by omega
  rw [e2, e4, e5, e6]
  omega
theorem rotW_step (x k : Nat) (hx : x < 4294967296) (hk : k < 16) : rotW (rotW x k) 1 = rotW x (k + 1) := by
  rw [rotW_arith _ 1 (rotW_lt x k) (by omega), rotW_arith x k hx (by omega), rotW_arith x (k + 1) hx (by omega)]
  have := rot_alg x (2 ^ k) (2 ^ (32 - k)) (2 ^ (31 - k)) hx (Eq.symm (by rw [← Nat.pow_add, show k + (32 - k) = 32 from by omega])) (by rw [← Nat.pow_succ, Nat.succ_eq_add_one, show 31 - k + 1 = 32 - k from by omega])
  rw [← Nat.pow_succ] at this
  rw [show 32 - (k + 1) = 31 - k from by omega]
  exact this
theorem rotW_zero (x : Nat) (hx : x < 4294967296) : rotW x 0 = x := by
  rw [rotW_arith x 0 hx (by omega)]
  simp only [Nat.reducePow, Nat.reduceSub]; omega
theorem turn_C (x k : Nat) (hx : x < 4294967296) (hk : k ≤ 16) : C Tryz.prog 99 [vi .u32 x, vi .i64 k] [] (vi .u32 (rotW x k : Nat)) [] := by
  refine C_of mixed Tryz.func99 A_clavigerref2_turn_ok A_clavigerref2_turn_res _ A_clavigerref2_turn_nt ?_
  simp (maxSteps := 2000000) -implicitDefEqProofs only [A_clavigerref2_turn, lr, lr2, oO, oN, oG, oNG, oM, oF, oL, rg, ci, seval, resAll, resL, resV, blkAt, undef, fillV, evParts, footOp, wrOp, chk, disj]
  refine wk_loop (fun n S H => ∃ j : Nat, j ≤ k ∧ n = k - j ∧ S = (vi .u32 (rotW x j : Nat) :: vi .i64 (k - j : Nat) :: .dead :: .dead :: vi .u32 0 :: .dead :: .dead :: .dead :: .dead :: .dead :: .dead :: .dead :: .dead :: .dead :: .dead :: []) ∧ H = []) k ⟨0, by omega, rfl, rfl, rfl⟩ (by refine .ren _ _ _ [] (by decide) (by intro k h; first | exact absurd h (Nat.not_lt_zero k) | (simp at h; done) | (rcases k with _ | _ | _ | k <;> first | rfl | (exfalso; omega) | (simp at h; done))) ?_ ?_ <;> simp [KeepS, KeepH, ArgRel, ArgRelL, argL_cl, arg_cl, row_l_of, row_l_nil, bn_len, blkAt, rotW_zero x hx]) ?_
  rintro n S H ⟨j, hj, rfl, rfl, rfl⟩ J hJ
  by_cases hjk : j < k
  · have c1 : ((k - j : Nat) : Int) > 0 := by omega
    have c2 : IntKind.i64.wrap (((k - j : Nat) : Int) - 1) = ((k - (j + 1) : Nat) : Int) := by rw [wrap_id _ (by omega) (by omega)]; omega
    have c3 : orW (rotW x j * 2 % 4294967296) (rotW x j / 2147483648) = rotW x (j + 1) := by rw [← rotW_step x j hx (by omega)]; rfl
    (repeat' (first | simp (maxSteps := 2000000) -implicitDefEqProofs only [A_clavigerref2_turn_L0, c1, c2, c3, lr, lr2, oO, oN, oG, oNG, oM, oF, oL, rg, ci, seval, resAll, resL, resV, blkAt, undef, fillV, evParts, footOp, wrOp, chk, disj] | split))
    exact hJ _ _ _ _ _ (by omega) ⟨j + 1, by omega, rfl, rfl, rfl⟩ (by refine .ren _ _ _ [] (by decide) (by intro k h; first | exact absurd h (Nat.not_lt_zero k) | (simp at h; done) | (rcases k with _ | _ | _ | k <;> first | rfl | (exfalso; omega) | (simp at h; done))) ?_ ?_ <;> simp [KeepS, KeepH, ArgRel, ArgRelL, argL_cl, arg_cl, row_l_of, row_l_nil, bn_len, blkAt])
  · have c1 : ¬ ((k - j : Nat) : Int) > 0 := by omega
    obtain rfl : j = k := by omega
    (repeat' (first | simp (maxSteps := 2000000) -implicitDefEqProofs only [A_clavigerref2_turn_L0, c1, lr, lr2, oO, oN, oG, oNG, oM, oF, oL, rg, ci, seval, resAll, resL, resV, blkAt, undef, fillV, evParts, footOp, wrOp, chk, disj] | split))
    all_goals (refine out_eq ?_ (cl); first | rfl | (simp_all []; done) | (simp_all []; intros; omega) | (simp []; (repeat' split) <;> first | rfl | omega | (simp_all; done) | (simp_all; intros; omega)))
theorem rstir_C (x : W4) : C Tryz.prog 86 [.sref 0 0 4 1] [cW x] (.tup []) [some (cW (stirF x))] := by
  refine C_of mixed Tryz.func86 A_clavigerref2_stir_ok A_clavigerref2_stir_res _ A_clavigerref2_stir_nt ?_
  (repeat' (first | simp (maxSteps := 2000000) -implicitDefEqProofs only [A_clavigerref2_stir, cW, lr, lr2, oO, oN, oG, oNG, oM, oF, oL, rg, ci, seval, resAll, resL, resV, blkAt, undef, fillV, evParts, footOp, wrOp, chk, disj] | split | ((first | apply ck_call | apply cfk_call); (first | (apply call_pure (turn_C _ 16 (xorW_lt _ _) (by decide)) cll cl) | (apply call_pure (turn_C _ 12 (xorW_lt _ _) (by decide)) cll cl) | (apply call_pure (turn_C _ 8 (xorW_lt _ _) (by decide)) cll cl) | (apply call_pure (turn_C _ 7 (xorW_lt _ _) (by decide)) cll cl)))))
  exact out_upd rfl (cW_closed _) trivial
def lowF (l : List UInt8) : Nat := (l.getD 0 0).toNat + 256 * (l.getD 1 0).toNat + 65536 * (l.getD 2 0).toNat + 16777216 * (l.getD 3 0).toNat
theorem orW_256 (v : Nat) (b : UInt8) : orW (v * 256 % 4294967296) b.toNat = v * 256 % 4294967296 + b.toNat := by
  have hb := b.toNat_lt
  have h1 : v * 256 % 4294967296 = (v % 16777216) * 2 ^ 8 := by omega
  rw [orW, Nat.mod_mod, Nat.mod_eq_of_lt (show b.toNat < 4294967296 by omega), h1, ← Nat.shiftLeft_eq, Nat.shiftLeft_add_eq_or_of_lt (show b.toNat < 2 ^ 8 by omega)]
theorem orW_z (b : UInt8) : orW 0 b.toNat = b.toNat := by
  have := b.toNat_lt
  rw [orW, Nat.mod_eq_of_lt (show b.toNat < 4294967296 by omega)]; simp
theorem low_C (l : List UInt8) (h : 4 ≤ l.length) : C Tryz.prog 102 [rowV (.of l)] [] (vi .u32 (lowF l : Nat)) [] := by
  refine C_of mixed Tryz.func102 A_blend_low_ok A_blend_low_res _ A_blend_low_nt ?_
  have c0 : (0 : Int) < l.length := by omega
  have c1 : (1 : Int) < l.length := by omega
  have c2 : (2 : Int) < l.length := by omega
  have c3 : (3 : Int) < l.length := by omega
  have d0 : 0 < l.length := by omega
  have d1 : 1 < l.length := by omega
  have d2 : 2 < l.length := by omega
  have d3 : 3 < l.length := by omega
  simp (maxSteps := 2000000) -implicitDefEqProofs only [A_blend_low, lr, lr2, oO, oN, oG, oNG, oM, oF, oL, rg, ci, seval, resAll, resL, resV, blkAt, undef, fillV, evParts, footOp, wrOp, chk, disj]
  refine wk_unroll 5 ?_
  simp (maxSteps := 2000000) -implicitDefEqProofs only [A_blend_low_L0, show ¬ (-1 : Int) ≥ 0 from by decide, c0, c1, c2, c3, d0, d1, d2, d3, orW_256, orW_z, lr, lr2, oO, oN, oG, oNG, oM, oF, oL, rg, ci, seval, resAll, resL, resV, blkAt, undef, fillV, evParts, footOp, wrOp, chk, disj]
  refine out_vi ?_
  have h0 := (l.getD 0 0).toNat_lt
  have h1 := (l.getD 1 0).toNat_lt
  have h2 := (l.getD 2 0).toNat_lt
  have h3 := (l.getD 3 0).toNat_lt
  simp only [lowF]
  omega
theorem word_C (l : List UInt8) (h : 4 ≤ l.length) : C Tryz.prog 85 [rowV (.of l)] [] (vi .u32 (lowF l : Nat)) [] := by
  refine C_of mixed Tryz.func85 A_clavigerref2_word_ok A_clavigerref2_word_res _ A_clavigerref2_word_nt ?_
  have c0 : (0 : Int) < l.length := by omega
  have c1 : (1 : Int) < l.length := by omega
  have c2 : (2 : Int) < l.length := by omega
  have c3 : (3 : Int) < l.length := by omega
  have d0 : 0 < l.length := by omega
  have d1 : 1 < l.length := by omega
  have d2 : 2 < l.length := by omega
  have d3 : 3 < l.length := by omega
  simp (maxSteps := 2000000) -implicitDefEqProofs only [A_clavigerref2_word, lr, lr2, oO, oN, oG, oNG, oM, oF, oL, rg, ci, seval, resAll, resL, resV, blkAt, undef, fillV, evParts, footOp, wrOp, chk, disj]
  refine wk_unroll 5 ?_
  simp (maxSteps := 2000000) -implicitDefEqProofs only [A_clavigerref2_word_L0, show ¬ (-1 : Int) ≥ 0 from by decide, c0, c1, c2, c3, d0, d1, d2, d3, lr, lr2, oO, oN, oG, oNG, oM, oF, oL, rg, ci, seval, resAll, resL, resV, blkAt, undef, fillV, evParts, footOp, wrOp, chk, disj]
  refine out_vi ?_
  have h0 := (l.getD 0 0).toNat_lt
  have h1 := (l.getD 1 0).toNat_lt
  have h2 := (l.getD 2 0).toNat_lt
  have h3 := (l.getD 3 0).toNat_lt
  simp only [lowF, w32_mod]
  omega
theorem clone_C (l : List UInt8) (h : l.length ≤ 140737488355328) : C Tryz.prog 92 [rowV (.of l)] [] (.sref 0 0 l.length 1) [some (bs l)] := by
  refine C_of mixed Tryz.func92 A_bytes_Clone_ok A_bytes_Clone_res _ A_bytes_Clone_nt ?_
  (repeat' (first | simp (maxSteps := 2000000) -implicitDefEqProofs only [A_bytes_Clone, h, lr, lr2, oO, oN, oG, oNG, oM, oF, oL, rg, ci, seval, resAll, resL, resV, blkAt, undef, fillV, evParts, footOp, wrOp, chk, disj] | split))
  exact out_row rfl (bs_closed _)
theorem cloneN_C : C Tryz.prog 92 [vnil] [] vnil [] := by
  refine C_of mixed Tryz.func92 A_bytes_Clone_ok A_bytes_Clone_res _ A_bytes_Clone_nt ?_
  (repeat' (first | simp (maxSteps := 2000000) -implicitDefEqProofs only [A_bytes_Clone, lr, lr2, oO, oN, oG, oNG, oM, oF, oL, rg, ci, seval, resAll, resL, resV, blkAt, undef, fillV, evParts, footOp, wrOp, chk, disj] | split))
  all_goals (refine out_eq ?_ (cl); first | rfl | (simp_all []; done) | (simp_all []; intros; omega) | (simp []; (repeat' split) <;> first | rfl | omega | (simp_all; done) | (simp_all; intros; omega)))
def numF (n : Nat) : List UInt8 := [UInt8.ofNat (n / 72057594037927936), UInt8.ofNat (n / 281474976710656), UInt8.ofNat (n / 1099511627776), UInt8.ofNat (n / 4294967296), UInt8.ofNat (n / 16777216), UInt8.ofNat (n / 65536), UInt8.ofNat (n / 256), UInt8.ofNat n]
theorem number_C (n : Nat) : C Tryz.prog 35 [vi .u64 n] [] (.sref 0 0 8 1) [some (bs (numF n))] := by
  refine C_of mixed Tryz.func35 A_blend_Number_ok A_blend_Number_res _ A_blend_Number_nt ?_
  simp (maxSteps := 2000000) -implicitDefEqProofs only [A_blend_Number, lr, lr2, oO, oN, oG, oNG, oM, oF, oL, rg, ci, seval, resAll, resL, resV, blkAt, undef, fillV, evParts, footOp, wrOp, chk, disj]
  refine wk_unroll 9 ?_
  simp (maxSteps := 2000000) -implicitDefEqProofs only [A_blend_Number_L0, lr, lr2, oO, oN, oG, oNG, oM, oF, oL, rg, ci, seval, resAll, resL, resV, blkAt, undef, fillV, evParts, footOp, wrOp, chk, disj]
  exact out_row rfl (bs_closed _)
theorem rnumber_C (n : Nat) (hn : n < 18446744073709551616) : C Tryz.prog 36 [vi .u64 n] [] (.sref 0 0 8 1) [some (bs (numF n))] := by
  refine C_of mixed Tryz.func36 A_clavigerref2_Number_ok A_clavigerref2_Number_res _ A_clavigerref2_Number_nt ?_
  simp (maxSteps := 2000000) -implicitDefEqProofs only [A_clavigerref2_Number, lr, lr2, oO, oN, oG, oNG, oM, oF, oL, rg, ci, seval, resAll, resL, resV, blkAt, undef, fillV, evParts, footOp, wrOp, chk, disj]
  refine wk_unroll 9 ?_
  simp (maxSteps := 2000000) -implicitDefEqProofs only [A_clavigerref2_Number_L0, show ¬ (-1 : Int) ≥ 0 from by decide, lr, lr2, oO, oN, oG, oNG, oM, oF, oL, rg, ci, seval, resAll, resL, resV, blkAt, undef, fillV, evParts, footOp, wrOp, chk, disj]
  refine out_bs (l := numF n) rfl ?_ rfl
  have e1 : ∀ a : Nat, n / a % 18446744073709551616 = n / a := fun a => Nat.mod_eq_of_lt (Nat.lt_of_le_of_lt (Nat.div_le_self n a) hn)
  simp only [Nat.div_div_eq_div_mul, e1, numF, Nat.reduceMul] <;> rfl
theorem equal_C (a b : Row) : C Tryz.prog 100 [rowV a, rowV b] [] (vb (decide (a.l = b.l))) [] := by
  refine C_of mixed Tryz.func100 A_bytes_Equal_ok A_bytes_Equal_res _ A_bytes_Equal_nt ?_
  (repeat' (first | simp (maxSteps := 2000000) -implicitDefEqProofs only [A_bytes_Equal, lr, lr2, oO, oN, oG, oNG, oM, oF, oL, rg, ci, seval, resAll, resL, resV, blkAt, undef, fillV, evParts, footOp, wrOp, chk, disj] | split))
  all_goals (refine out_eq ?_ (cl); first | rfl | (simp_all []; done) | (simp_all []; intros; omega) | (simp []; (repeat' split) <;> first | rfl | omega | (simp_all; done) | (simp_all; intros; omega)))
theorem same_C (a b : Row) : C Tryz.prog 87 [rowV a, rowV b] [] (vb (decide (a.l = b.l))) [] := by
  refine C_of mixed Tryz.func87 A_blend_Same_ok A_blend_Same_res _ A_blend_Same_nt ?_
  (repeat' (first | simp (maxSteps := 2000000) -implicitDefEqProofs only [A_blend_Same, lr, lr2, oO, oN, oG, oNG, oM, oF, oL, rg, ci, seval, resAll, resL, resV, blkAt, undef, fillV, evParts, footOp, wrOp, chk, disj] | split | ((first | apply ck_call | apply cfk_call); (first | (apply call_pure (equal_C _ _) cll cl)))))
  all_goals (refine out_eq ?_ (cl); first | rfl | (simp_all []; done) | (simp_all []; intros; omega) | (simp []; (repeat' split) <;> first | rfl | omega | (simp_all; done) | (simp_all; intros; omega)))
end Go.Proofs.YtfpoebmihjbknaaGreat.VA

/- Sums. -/
set_option linter.unusedVariables false
set_option linter.unusedSimpArgs false
set_option maxRecDepth 100000
namespace Go.Proofs.YtfpoebmihjbknaaGreat.VA
open Go
attribute [local irreducible] WK NK XK TK RK FK CK CFK CallRel C
theorem rd_W0 (x : W4) : rd none (cW x) 0 = some (vi .u32 x.a) := rfl
theorem rd_W1 (x : W4) : rd none (cW x) 1 = some (vi .u32 x.b) := rfl
theorem rd_W2 (x : W4) : rd none (cW x) 2 = some (vi .u32 x.c) := rfl
theorem rd_W3 (x : W4) : rd none (cW x) 3 = some (vi .u32 x.d) := rfl
theorem sp_W0 (x : W4) (n : Nat) : splice (cW x) 0 [vi .u32 n] = cW { x with a := n } := rfl
theorem sp_W1 (x : W4) (n : Nat) : splice (cW x) 1 [vi .u32 n] = cW { x with b := n } := rfl
theorem sp_W2 (x : W4) (n : Nat) : splice (cW x) 2 [vi .u32 n] = cW { x with c := n } := rfl
theorem sp_W3 (x : W4) (n : Nat) : splice (cW x) 3 [vi .u32 n] = cW { x with d := n } := rfl
theorem cW_len (x : W4) : (cW x).length = 4 := rfl
def w0 : W4 := ⟨1668047222, 1768383858, 1801807216, 1935763045⟩
def blockF (x : W4) (l : List UInt8) : W4 := stirF (stirF (stirF ⟨xorW x.a (lowF l), x.b, x.c, xorW x.d (lowF (l.drop 4))⟩))
def absF (L : List UInt8) : Nat → W4
  | 0 => w0
  | j + 1 => blockF (absF L j) (L.drop (8 * j))
def zerosN (n : Nat) : Nat := (8 - (n + 1) % 8) % 8
def lenF (n : Nat) : List UInt8 := [UInt8.ofNat n, UInt8.ofNat (n / 256), UInt8.ofNat (n / 65536), UInt8.ofNat (n / 16777216), UInt8.ofNat (n / 4294967296), UInt8.ofNat (n / 1099511627776), UInt8.ofNat (n / 281474976710656), UInt8.ofNat (n / 72057594037927936)]
def padF (l : List UInt8) : List UInt8 := l ++ [128] ++ List.replicate (zerosN l.length) 0 ++ lenF l.length
def byF (n : Nat) : List UInt8 := [UInt8.ofNat n, UInt8.ofNat (n / 256), UInt8.ofNat (n / 65536), UInt8.ofNat (n / 16777216)]
def outF (x : W4) : Bn 16 := ⟨byF x.a ++ (byF x.b ++ (byF x.c ++ byF x.d)), rfl⟩
def stir8 (x : W4) : W4 := stirF (stirF (stirF (stirF (stirF (stirF (stirF (stirF x)))))))
def sumF (l : List UInt8) : Bn 16 := outF (stir8 (absF (padF l) ((padF l).length / 8)))
theorem by8_0 : by8 0 = 0 := rfl
theorem by8_128 : by8 128 = 128 := rfl
theorem pad_len (l : List UInt8) : (padF l).length = l.length + 9 + zerosN l.length := by simp [padF, lenF]; omega
theorem pad_mod (l : List UInt8) : (padF l).length % 8 = 0 := by rw [pad_len, zerosN]; omega
theorem lowF_take (l : List UInt8) (k : Nat) (h : 4 ≤ k) : lowF (l.take k) = lowF l := by
  have e : ∀ i, i < k → (l.take k).getD i 0 = l.getD i 0 := fun i hi => by
    rw [List.getD_eq_getElem?_getD, List.getD_eq_getElem?_getD, List.getElem?_take_of_lt hi]
  simp only [lowF, e 0 (by omega), e 1 (by omega), e 2 (by omega), e 3 (by omega)]
set_option maxHeartbeats 2000000 in
theorem sum_C (r : Row) (h : r.l.length ≤ 70368744177664) : C Tryz.prog 98 [rowV r] [] (.agg (dg (sumF r.l))) [] := by
  refine C_of mixed Tryz.func98 A_blend_Sum_ok A_blend_Sum_res _ A_blend_Sum_nt ?_
  simp (maxSteps := 2000000) -implicitDefEqProofs only [A_blend_Sum, lr, lr2, oO, oN, oG, oNG, oM, oF, oL, rg, ci, seval, resAll, resL, resV, blkAt, undef, fillV, evParts, footOp, wrOp, chk, disj]
  refine via (A := ∀ S H, Weak 0 ⟨S, H⟩ ⟨(rowV r :: .dead :: .ref 0 0 :: .ref 1 0 :: .sref 2 0 (r.l ++ [128] ++ List.replicate 0 0).length 1 :: .dead :: .dead :: .dead :: .dead :: .dead :: .dead :: .dead :: .dead :: .dead :: .dead :: .dead :: .dead :: .dead :: .dead :: .dead :: .dead :: .dead :: .dead :: .dead :: .dead :: .dead :: .dead :: .dead :: .dead :: .dead :: .dead :: .dead :: .dead :: .dead :: .dead :: .dead :: .dead :: .dead :: .dead :: .dead :: .dead :: .dead :: .dead :: .dead :: .dead :: .dead :: .dead :: .dead :: .dead :: .dead :: .dead :: .dead :: .dead :: .dead :: .dead :: .dead :: .dead :: .dead :: .dead :: .dead :: .dead :: .dead :: .dead :: .dead :: .dead :: .dead :: .dead :: .dead :: .dead :: .dead :: .dead :: .dead :: .dead :: .dead :: .dead :: .dead :: []), [some (dg (Bn.zero 16)), some (cW w0), some (bs (r.l ++ [128] ++ List.replicate 0 0))]⟩ → WK Tryz.prog 0 (Post [.cell 2 (some 16)] 0 (.agg (dg (sumF r.l))) []) (.loop A_blend_Sum_L0) K_blend_Sum_L0 S H) ?main ?key
  case main =>
    intro key
    rcases r with _ | l
    · ((first | apply ck_call | apply cfk_call); (apply call_pure (cloneN_C) cll cl))
      simp (maxSteps := 2000000) -implicitDefEqProofs only [lr, lr2, oO, oN, oG, oNG, oM, oF, oL, rg, ci, seval, resAll, resL, resV, blkAt, undef, fillV, evParts, footOp, wrOp, chk, disj]
      exact key _ _ (by refine .ren _ _ _ [0, 1, 3] (by decide) (by intro k h; first | exact absurd h (Nat.not_lt_zero k) | (simp at h; done) | (rcases k with _ | _ | _ | k <;> first | rfl | (exfalso; omega) | (simp at h; done))) ?_ ?_ <;> simp [KeepS, KeepH, ArgRel, ArgRelL, argL_cl, arg_cl, row_l_of, row_l_nil, bn_len, blkAt, cW, w0, by8_128])
    · have hs : Sm l 1 := by simp only [Sm, Row.l] at *; omega
      ((first | apply ck_call | apply cfk_call); (apply call_new (clone_C l (by simp only [Row.l] at h; omega)) cll cll))
      simp (maxSteps := 2000000) -implicitDefEqProofs only [hs, lr, lr2, oO, oN, oG, oNG, oM, oF, oL, rg, ci, seval, resAll, resL, resV, blkAt, undef, fillV, evParts, footOp, wrOp, chk, disj]
      exact key _ _ (by refine .ren _ _ _ [0, 1, 4] (by decide) (by intro k h; first | exact absurd h (Nat.not_lt_zero k) | (simp at h; done) | (rcases k with _ | _ | _ | k <;> first | rfl | (exfalso; omega) | (simp at h; done))) ?_ ?_ <;> simp [KeepS, KeepH, ArgRel, ArgRelL, argL_cl, arg_cl, row_l_of, row_l_nil, bn_len, blkAt, cW, w0, by8_128])
  case key =>
    intro S H hw
    have hz : zerosN r.l.length ≤ 7 := by simp only [zerosN]; omega
    refine wk_loop (fun n S H => ∃ j : Nat, j ≤ zerosN r.l.length ∧ n = zerosN r.l.length - j ∧ S = (rowV r :: .dead :: .ref 0 0 :: .ref 1 0 :: .sref 2 0 (r.l ++ [128] ++ List.replicate j 0).length 1 :: .dead :: .dead :: .dead :: .dead :: .dead :: .dead :: .dead :: .dead :: .dead :: .dead :: .dead :: .dead :: .dead :: .dead :: .dead :: .dead :: .dead :: .dead :: .dead :: .dead :: .dead :: .dead :: .dead :: .dead :: .dead :: .dead :: .dead :: .dead :: .dead :: .dead :: .dead :: .dead :: .dead :: .dead :: .dead :: .dead :: .dead :: .dead :: .dead :: .dead :: .dead :: .dead :: .dead :: .dead :: .dead :: .dead :: .dead :: .dead :: .dead :: .dead :: .dead :: .dead :: .dead :: .dead :: .dead :: .dead :: .dead :: .dead :: .dead :: .dead :: .dead :: .dead :: .dead :: .dead :: .dead :: .dead :: .dead :: .dead :: .dead :: .dead :: .dead :: []) ∧ H = [some (dg (Bn.zero 16)), some (cW w0), some (bs (r.l ++ [128] ++ List.replicate j 0))]) (zerosN r.l.length) ⟨0, Nat.zero_le _, rfl, rfl, rfl⟩ hw ?_
    clear hw S H
    rintro n S H ⟨j, hj, rfl, rfl, rfl⟩ J hJ
    have hlen : (r.l ++ [128] ++ List.replicate j (0 : UInt8)).length = r.l.length + 1 + j := by simp; omega
    by_cases hjz : j < zerosN r.l.length
    · have c1 : ¬ (((r.l ++ [128] ++ List.replicate j (0 : UInt8)).length : Nat) : Int).tmod 8 = 0 := by
        rw [hlen, Int.tmod_eq_emod_of_nonneg (by omega)]
        simp only [zerosN] at hjz; omega
      have hs : Sm (r.l ++ [128] ++ List.replicate j (0 : UInt8)) 1 := by simp only [Sm, hlen]; omega
      simp (maxSteps := 2000000) -implicitDefEqProofs only [A_blend_Sum_L0, c1, hs, lr, lr2, oO, oN, oG, oNG, oM, oF, oL, rg, ci, seval, resAll, resL, resV, blkAt, undef, fillV, evParts, footOp, wrOp, chk, disj]
      exact hJ _ _ _ _ _ (by omega) ⟨j + 1, by omega, rfl, rfl, rfl⟩ (by refine .ren _ _ _ [0, 1, 4] (by decide) (by intro k h; first | exact absurd h (Nat.not_lt_zero k) | (simp at h; done) | (rcases k with _ | _ | _ | k <;> first | rfl | (exfalso; omega) | (simp at h; done))) ?_ ?_ <;> simp [KeepS, KeepH, ArgRel, ArgRelL, argL_cl, arg_cl, row_l_of, row_l_nil, bn_len, blkAt, List.replicate_succ', by8_0])
    · obtain rfl : j = zerosN r.l.length := by omega
      have c1 : (((r.l ++ [128] ++ List.replicate (zerosN r.l.length) (0 : UInt8)).length : Nat) : Int).tmod 8 = 0 := by
        rw [hlen, Int.tmod_eq_emod_of_nonneg (by omega)]
        simp only [zerosN]; omega
      have hs : ∀ k, k ≤ 100 → Sm (r.l ++ [128] ++ List.replicate (zerosN r.l.length) (0 : UInt8)) k := fun k hk => by simp only [Sm, hlen]; omega
      have hpad : padF r.l = (r.l ++ [128] ++ List.replicate (zerosN r.l.length) (0 : UInt8)) ++ lenF r.l.length := rfl
      generalize r.l ++ [128] ++ List.replicate (zerosN r.l.length) (0 : UInt8) = L0 at c1 hs hpad
      have d1 : (0 : Int) ≤ r.l.length := by omega
      have d2 : (r.l.length : Int) ≤ 18446744073709551615 := by omega
      simp (maxSteps := 2000000) -implicitDefEqProofs only [A_blend_Sum_L0, K_blend_Sum_L0, c1, lr, lr2, oO, oN, oG, oNG, oM, oF, oL, rg, ci, seval, resAll, resL, resV, blkAt, undef, fillV, evParts, footOp, wrOp, chk, disj]
      refine wk_unroll 9 ?_
      simp (maxSteps := 2000000) -implicitDefEqProofs only [A_blend_Sum_L1, hs, d1, d2, lr, lr2, oO, oN, oG, oNG, oM, oF, oL, rg, ci, seval, resAll, resL, resV, blkAt, undef, fillV, evParts, footOp, wrOp, chk, disj]
      have hP : L0 ++ lenF r.l.length = padF r.l := hpad.symm
      refine wk_loop (fun n S H => ∃ j : Nat, 8 * j ≤ (padF r.l).length ∧ n = (padF r.l).length - 8 * j ∧ S = (rowV r :: .dead :: .ref 0 0 :: .ref 1 0 :: .sref 2 (8 * j) ((padF r.l).length - 8 * j) 1 :: .dead :: .dead :: .dead :: .dead :: .dead :: .dead :: .dead :: .dead :: .dead :: .dead :: .dead :: .dead :: .dead :: .dead :: .dead :: .dead :: .dead :: .dead :: .dead :: .dead :: .dead :: .dead :: .dead :: .dead :: .dead :: .dead :: .dead :: .dead :: .dead :: .dead :: .dead :: .dead :: .dead :: .dead :: .dead :: .dead :: .dead :: .dead :: .dead :: .dead :: .dead :: .dead :: .dead :: .dead :: .dead :: .dead :: .dead :: .dead :: .dead :: .dead :: .dead :: .dead :: .dead :: .dead :: .dead :: .dead :: .dead :: .dead :: .dead :: .dead :: .dead :: .dead :: .dead :: .dead :: .dead :: .dead :: .dead :: .dead :: .dead :: .dead :: .dead :: []) ∧ H = [some (dg (Bn.zero 16)), some (cW (absF (padF r.l) j)), some (bs (padF r.l))]) (padF r.l).length ⟨0, Nat.zero_le _, rfl, rfl, rfl⟩ (by refine .ren _ _ _ [0, 1, 18] (by decide) (by intro k h; first | exact absurd h (Nat.not_lt_zero k) | (simp at h; done) | (rcases k with _ | _ | _ | k <;> first | rfl | (exfalso; omega) | (simp at h; done))) ?_ ?_ <;> simp [KeepS, KeepH, ArgRel, ArgRelL, argL_cl, arg_cl, row_l_of, row_l_nil, bn_len, blkAt, hpad, lenF, absF]) ?_
      clear hJ hs hP hpad c1 hjz hlen hj J
      rintro n S H ⟨j, hj, rfl, rfl, rfl⟩ J hJ
      have hmod := pad_mod r.l
      unfold sumF
      generalize padF r.l = P at hJ hmod hj
      by_cases hjz : 8 * j < P.length
      · have c1 : ((P.length - 8 * j : Nat) : Int) > 0 := by omega
        have c2 : (4 : Int) ≤ ((P.length - 8 * j : Nat) : Int) := by omega
        have c3 : (8 : Int) ≤ ((P.length - 8 * j : Nat) : Int) := by omega
        have low1 := low_C ((P.drop (8 * j)).take (P.length - 8 * j)) (by simp; omega)
        have low2 := low_C ((P.drop (8 * j + 4)).take (P.length - 8 * j - 4)) (by simp; omega)
        rw [lowF_take _ _ (by omega)] at low1 low2
        have e4 : lowF (P.drop (8 * j + 4)) = lowF ((P.drop (8 * j)).drop 4) := by rw [List.drop_drop]
        simp (maxSteps := 2000000) -implicitDefEqProofs only [A_blend_Sum_L3, c1, c2, c3, rd_W0, rd_W1, rd_W2, rd_W3, sp_W0, sp_W1, sp_W2, sp_W3, cW_len, lr, lr2, oO, oN, oG, oNG, oM, oF, oL, rg, ci, seval, resAll, resL, resV, blkAt, undef, fillV, evParts, footOp, wrOp, chk, disj]
        ((first | apply ck_call | apply cfk_call); (apply call_roA (low1); (simp [ids_nil, ids_cons, ids_sc, ids_agg, ids_dg, ids_bs, ids_row, ids_ints, ids_sref, ids_ref, ids_sl, blkAt] <;> fail); (repeat' (first | exact args_n | apply args_c | (first | exact arg_closed _ cl | (refine arg_rowA rfl mem ?_; (first | rfl | omega | (simp <;> fail) | (simp; omega))) | (refine arg_row rfl mem ?_; (first | rfl | omega | (simp <;> fail) | (simp; omega))) | (refine arg_fld mem ?_ ?_; (first | rfl | omega | (simp <;> fail) | (simp; omega)); (simp only [blkAt, List.getD_cons_zero, List.getD_cons_succ, Option.bind_some, rd_sE] <;> fail))))); (first | exact cl | exact cll); (first | exact nr | exact nrl)))
        simp (maxSteps := 2000000) -implicitDefEqProofs only [c1, c2, c3, rd_W0, rd_W1, rd_W2, rd_W3, sp_W0, sp_W1, sp_W2, sp_W3, cW_len, lr, lr2, oO, oN, oG, oNG, oM, oF, oL, rg, ci, seval, resAll, resL, resV, blkAt, undef, fillV, evParts, footOp, wrOp, chk, disj]
        ((first | apply ck_call | apply cfk_call); (apply call_roA (low2); (simp [ids_nil, ids_cons, ids_sc, ids_agg, ids_dg, ids_bs, ids_row, ids_ints, ids_sref, ids_ref, ids_sl, blkAt] <;> fail); (repeat' (first | exact args_n | apply args_c | (first | exact arg_closed _ cl | (refine arg_rowA rfl mem ?_; (first | rfl | omega | (simp <;> fail) | (simp; omega))) | (refine arg_row rfl mem ?_; (first | rfl | omega | (simp <;> fail) | (simp; omega))) | (refine arg_fld mem ?_ ?_; (first | rfl | omega | (simp <;> fail) | (simp; omega)); (simp only [blkAt, List.getD_cons_zero, List.getD_cons_succ, Option.bind_some, rd_sE] <;> fail))))); (first | exact cl | exact cll); (first | exact nr | exact nrl)))
        simp (maxSteps := 2000000) -implicitDefEqProofs only [e4, rd_W0, rd_W1, rd_W2, rd_W3, sp_W0, sp_W1, sp_W2, sp_W3, cW_len, lr, lr2, oO, oN, oG, oNG, oM, oF, oL, rg, ci, seval, resAll, resL, resV, blkAt, undef, fillV, evParts, footOp, wrOp, chk, disj]
        refine wk_unroll 4 ?_
        (repeat' (first | simp (maxSteps := 2000000) -implicitDefEqProofs only [A_blend_Sum_L2, c3, lr, lr2, oO, oN, oG, oNG, oM, oF, oL, rg, ci, seval, resAll, resL, resV, blkAt, undef, fillV, evParts, footOp, wrOp, chk, disj] | split | ((first | apply ck_call | apply cfk_call); (first | (apply call_upd (stir_C _) rfl cll cll cll cl)))))
        exact hJ _ _ _ _ _ (by omega) ⟨j + 1, by omega, rfl, rfl, rfl⟩ (by refine .ren _ _ _ [0, 1, 2] (by decide) (by intro k h; first | exact absurd h (Nat.not_lt_zero k) | (simp at h; done) | (rcases k with _ | _ | _ | k <;> first | rfl | (exfalso; omega) | (simp at h; done))) ?_ ?_ <;> simp [KeepS, KeepH, ArgRel, ArgRelL, argL_cl, arg_cl, row_l_of, row_l_nil, bn_len, blkAt, absF, blockF, show 8 * (j + 1) = 8 * j + 8 from rfl, Nat.sub_sub])
      · have c1 : ¬ ((P.length - 8 * j : Nat) : Int) > 0 := by omega
        have hN : P.length / 8 = j := by omega
        rw [hN]
        simp (maxSteps := 2000000) -implicitDefEqProofs only [A_blend_Sum_L3, K_blend_Sum_L3, c1, lr, lr2, oO, oN, oG, oNG, oM, oF, oL, rg, ci, seval, resAll, resL, resV, blkAt, undef, fillV, evParts, footOp, wrOp, chk, disj]
        generalize absF P j = x
        refine wk_unroll 9 ?_
        (repeat' (first | simp (maxSteps := 2000000) -implicitDefEqProofs only [A_blend_Sum_L4, lr, lr2, oO, oN, oG, oNG, oM, oF, oL, rg, ci, seval, resAll, resL, resV, blkAt, undef, fillV, evParts, footOp, wrOp, chk, disj] | split | ((first | apply ck_call | apply cfk_call); (first | (apply call_upd (stir_C _) rfl cll cll cll cl)))))
        rw [show stirF (stirF (stirF (stirF (stirF (stirF (stirF (stirF x))))))) = stir8 x from rfl]
        generalize stir8 x = y
        refine wk_unroll 17 ?_
        simp (maxSteps := 2000000) -implicitDefEqProofs only [A_blend_Sum_L5, rd_W0, rd_W1, rd_W2, rd_W3, lr, lr2, oO, oN, oG, oNG, oM, oF, oL, rg, ci, seval, resAll, resL, resV, blkAt, undef, fillV, evParts, footOp, wrOp, chk, disj]
        refine out_eq ?_ (cl)
        congr 1
end Go.Proofs.YtfpoebmihjbknaaGreat.VA

/- The document's own sums. -/
set_option linter.unusedVariables false
set_option linter.unusedSimpArgs false
set_option maxRecDepth 100000
namespace Go.Proofs.YtfpoebmihjbknaaGreat.VA
open Go
attribute [local irreducible] WK NK XK TK RK FK CK CFK CallRel C
theorem u8_m1 (n : Nat) : UInt8.ofNat (n / 256 % 4294967296) = UInt8.ofNat (n / 256) := by
  apply UInt8.toNat_inj.1; rw [UInt8.toNat_ofNat', UInt8.toNat_ofNat']; omega
theorem u8_m2 (n : Nat) : UInt8.ofNat (n / 256 % 4294967296 / 256) = UInt8.ofNat (n / 65536) := by
  apply UInt8.toNat_inj.1; rw [UInt8.toNat_ofNat', UInt8.toNat_ofNat']; omega
theorem u8_m3 (n : Nat) (h : n < 4294967296) : UInt8.ofNat (n / 256 % 4294967296 / 65536) = UInt8.ofNat (n / 16777216) := by
  apply UInt8.toNat_inj.1; rw [UInt8.toNat_ofNat', UInt8.toNat_ofNat']; omega
def W4.ok (x : W4) : Prop := x.a < 4294967296 ∧ x.b < 4294967296 ∧ x.c < 4294967296 ∧ x.d < 4294967296
theorem stir_ok (x : W4) : (stirF x).ok := ⟨Nat.mod_lt _ (by decide), rotW_lt _ _, Nat.mod_lt _ (by decide), rotW_lt _ _⟩
set_option maxHeartbeats 2000000 in
theorem rsum_C (r : Row) (h : r.l.length ≤ 70368744177664) : C Tryz.prog 66 [rowV r] [] (.agg (dg (sumF r.l))) [] := by
  refine C_of mixed Tryz.func66 A_clavigerref2_Sum_ok A_clavigerref2_Sum_res _ A_clavigerref2_Sum_nt ?_
  have hs0 : Sm r.l 1 := by simp only [Sm]; omega
  have hs1 : r.l.length ≤ 140737488355328 := by omega
  simp (maxSteps := 2000000) -implicitDefEqProofs only [A_clavigerref2_Sum, hs0, hs1, lr, lr2, oO, oN, oG, oNG, oM, oF, oL, rg, ci, seval, resAll, resL, resV, blkAt, undef, fillV, evParts, footOp, wrOp, chk, disj]
  have hz : zerosN r.l.length ≤ 7 := by simp only [zerosN]; omega
  refine wk_loop (fun n S H => ∃ j : Nat, j ≤ zerosN r.l.length ∧ n = zerosN r.l.length - j ∧ S = (rowV r :: .dead :: .ref 0 0 :: .sref 1 0 4 1 :: .sref 2 0 (r.l ++ [128] ++ List.replicate j 0).length 1 :: .dead :: .dead :: .dead :: .dead :: .dead :: .dead :: .dead :: .dead :: .dead :: .dead :: .dead :: .dead :: .dead :: .dead :: .dead :: .dead :: .dead :: .dead :: .dead :: .dead :: .dead :: .dead :: .dead :: .dead :: .dead :: .dead :: .dead :: .dead :: .dead :: .dead :: .dead :: .dead :: .dead :: .dead :: .dead :: .dead :: .dead :: .dead :: .dead :: .dead :: .dead :: .dead :: .dead :: .dead :: .dead :: .dead :: .dead :: .dead :: .dead :: .dead :: .dead :: .dead :: .dead :: .dead :: .dead :: .dead :: .dead :: .dead :: .dead :: .dead :: .dead :: .dead :: .dead :: .dead :: .dead :: .dead :: .dead :: .dead :: .dead :: .dead :: .dead :: .dead :: .dead :: .dead :: .dead :: .dead :: .dead :: .dead :: .dead :: .dead :: .dead :: .dead :: .dead :: .dead :: .dead :: .dead :: .dead :: .dead :: .dead :: .dead :: .dead :: .dead :: .dead :: .dead :: .dead :: .dead :: .dead :: .dead :: .dead :: []) ∧ H = [some (dg (Bn.zero 16)), some (cW w0), some (bs (r.l ++ [128] ++ List.replicate j 0))]) (zerosN r.l.length) ⟨0, Nat.zero_le _, rfl, rfl, rfl⟩ (by refine .ren _ _ _ [0, 1, 5] (by decide) (by intro k h; first | exact absurd h (Nat.not_lt_zero k) | (simp at h; done) | (rcases k with _ | _ | _ | k <;> first | rfl | (exfalso; omega) | (simp at h; done))) ?_ ?_ <;> simp [KeepS, KeepH, ArgRel, ArgRelL, argL_cl, arg_cl, row_l_of, row_l_nil, bn_len, blkAt, cW, w0, by8_128]) ?_
  rintro n S H ⟨j, hj, rfl, rfl, rfl⟩ J hJ
  have hlen : (r.l ++ [128] ++ List.replicate j (0 : UInt8)).length = r.l.length + 1 + j := by simp; omega
  by_cases hjz : j < zerosN r.l.length
  · have c1 : ¬ (((r.l ++ [128] ++ List.replicate j (0 : UInt8)).length : Nat) : Int).tmod 8 = 0 := by
      rw [hlen, Int.tmod_eq_emod_of_nonneg (by omega)]
      simp only [zerosN] at hjz; omega
    have hs : Sm (r.l ++ [128] ++ List.replicate j (0 : UInt8)) 1 := by simp only [Sm, hlen]; omega
    simp (maxSteps := 2000000) -implicitDefEqProofs only [A_clavigerref2_Sum_L0, c1, hs, lr, lr2, oO, oN, oG, oNG, oM, oF, oL, rg, ci, seval, resAll, resL, resV, blkAt, undef, fillV, evParts, footOp, wrOp, chk, disj]
    exact hJ _ _ _ _ _ (by omega) ⟨j + 1, by omega, rfl, rfl, rfl⟩ (by refine .ren _ _ _ [0, 1, 4] (by decide) (by intro k h; first | exact absurd h (Nat.not_lt_zero k) | (simp at h; done) | (rcases k with _ | _ | _ | k <;> first | rfl | (exfalso; omega) | (simp at h; done))) ?_ ?_ <;> simp [KeepS, KeepH, ArgRel, ArgRelL, argL_cl, arg_cl, row_l_of, row_l_nil, bn_len, blkAt, List.replicate_succ', by8_0])
  · obtain rfl : j = zerosN r.l.length := by omega
    have c1 : (((r.l ++ [128] ++ List.replicate (zerosN r.l.length) (0 : UInt8)).length : Nat) : Int).tmod 8 = 0 := by
      rw [hlen, Int.tmod_eq_emod_of_nonneg (by omega)]
      simp only [zerosN]; omega
    have hs : ∀ k, k ≤ 100 → Sm (r.l ++ [128] ++ List.replicate (zerosN r.l.length) (0 : UInt8)) k := fun k hk => by simp only [Sm, hlen]; omega
    have hpad : padF r.l = (r.l ++ [128] ++ List.replicate (zerosN r.l.length) (0 : UInt8)) ++ lenF r.l.length := rfl
    generalize r.l ++ [128] ++ List.replicate (zerosN r.l.length) (0 : UInt8) = L0 at c1 hs hpad
    have d1 : (0 : Int) ≤ r.l.length := by omega
    have d2 : (r.l.length : Int) ≤ 18446744073709551615 := by omega
    have e1 : ∀ a : Nat, r.l.length / a % 18446744073709551616 = r.l.length / a := fun a => Nat.mod_eq_of_lt (Nat.lt_of_le_of_lt (Nat.div_le_self _ a) (by omega))
    simp (maxSteps := 2000000) -implicitDefEqProofs only [A_clavigerref2_Sum_L0, c1, lr, lr2, oO, oN, oG, oNG, oM, oF, oL, rg, ci, seval, resAll, resL, resV, blkAt, undef, fillV, evParts, footOp, wrOp, chk, disj]
    refine wk_unroll 9 ?_
    simp (maxSteps := 2000000) -implicitDefEqProofs only [A_clavigerref2_Sum_L1, hs, d1, d2, e1, Nat.div_div_eq_div_mul, lr, lr2, oO, oN, oG, oNG, oM, oF, oL, rg, ci, seval, resAll, resL, resV, blkAt, undef, fillV, evParts, footOp, wrOp, chk, disj]
    have hP : L0 ++ lenF r.l.length = padF r.l := hpad.symm
    refine wk_loop (fun n S H => ∃ j : Nat, 8 * j ≤ (padF r.l).length ∧ n = (padF r.l).length - 8 * j ∧ S = (rowV r :: .dead :: .ref 0 0 :: .sref 1 0 4 1 :: .sref 2 0 (padF r.l).length 1 :: .dead :: .dead :: vi .i64 (8 * j : Nat) :: .dead :: .dead :: .dead :: .dead :: .dead :: .dead :: .dead :: .dead :: .dead :: .dead :: .dead :: .dead :: .dead :: .dead :: .dead :: .dead :: .dead :: .dead :: .dead :: .dead :: .dead :: .dead :: .dead :: .dead :: .dead :: .dead :: .dead :: .dead :: .dead :: .dead :: .dead :: .dead :: .dead :: .dead :: .dead :: .dead :: .dead :: .dead :: .dead :: .dead :: .dead :: .dead :: .dead :: .dead :: .dead :: .dead :: .dead :: .dead :: .dead :: .dead :: .dead :: .dead :: .dead :: .dead :: .dead :: .dead :: .dead :: .dead :: .dead :: .dead :: .dead :: .dead :: .dead :: .dead :: .dead :: .dead :: .dead :: .dead :: .dead :: .dead :: .dead :: .dead :: .dead :: .dead :: .dead :: .dead :: .dead :: .dead :: .dead :: .dead :: .dead :: .dead :: .dead :: .dead :: .dead :: .dead :: .dead :: .dead :: .dead :: .dead :: .dead :: .dead :: .dead :: .dead :: .dead :: .dead :: []) ∧ H = [some (dg (Bn.zero 16)), some (cW (absF (padF r.l) j)), some (bs (padF r.l))]) (padF r.l).length ⟨0, Nat.zero_le _, rfl, rfl, rfl⟩ (by refine .ren _ _ _ [0, 1, 18] (by decide) (by intro k h; first | exact absurd h (Nat.not_lt_zero k) | (simp at h; done) | (rcases k with _ | _ | _ | k <;> first | rfl | (exfalso; omega) | (simp at h; done))) ?_ ?_ <;> simp [KeepS, KeepH, ArgRel, ArgRelL, argL_cl, arg_cl, row_l_of, row_l_nil, bn_len, blkAt, hpad, lenF, absF]) ?_
    have hb : (padF r.l).length ≤ 80368744177664 := by rw [pad_len]; omega
    clear hJ hs hP hpad c1 hjz hlen hj J
    rintro n S H ⟨j, hj, rfl, rfl, rfl⟩ J hJ
    have hmod := pad_mod r.l
    unfold sumF
    generalize padF r.l = P at hJ hmod hj hb
    by_cases hjz : 8 * j < P.length
    · have c1 : ((8 * j : Nat) : Int) < (P.length : Int) := by omega
      have c0 : (0 : Int) ≤ ((8 * j : Nat) : Int) := by omega
      have w4 : IntKind.i64.wrap (((8 * j : Nat) : Int) + 4) = ((8 * j + 4 : Nat) : Int) := by rw [wrap_id _ (by omega) (by omega)]; omega
      have w8 : IntKind.i64.wrap (((8 * j : Nat) : Int) + 8) = ((8 * j + 8 : Nat) : Int) := by rw [wrap_id _ (by omega) (by omega)]; omega
      have f4 : (0 : Int) ≤ ((8 * j + 4 : Nat) : Int) := by omega
      have f8 : (0 : Int) ≤ ((8 * j + 8 : Nat) : Int) := by omega
      have g0 : ((8 * j : Nat) : Int) ≤ ((8 * j + 4 : Nat) : Int) := by omega
      have g4 : ((8 * j + 4 : Nat) : Int) ≤ (P.length : Int) := by omega
      have g5 : ((8 * j + 4 : Nat) : Int) ≤ ((8 * j + 8 : Nat) : Int) := by omega
      have g8 : ((8 * j + 8 : Nat) : Int) ≤ (P.length : Int) := by omega
      have s1 : 8 * j + 4 - 8 * j = 4 := by omega
      have s2 : 8 * j + 8 - (8 * j + 4) = 4 := by omega
      have low1 := word_C ((P.drop (8 * j)).take 4) (by simp; omega)
      have low2 := word_C ((P.drop (8 * j + 4)).take 4) (by simp; omega)
      rw [lowF_take _ _ (by omega)] at low1 low2
      have e4 : lowF (P.drop (8 * j + 4)) = lowF ((P.drop (8 * j)).drop 4) := by rw [List.drop_drop]
      (repeat' (first | simp (maxSteps := 2000000) -implicitDefEqProofs only [A_clavigerref2_Sum_L2, c0, c1, w4, w8, f4, f8, g0, g4, g5, g8, s1, s2, e4, Nat.zero_add, rd_W0, rd_W1, rd_W2, rd_W3, sp_W0, sp_W1, sp_W2, sp_W3, cW_len, lr, lr2, oO, oN, oG, oNG, oM, oF, oL, rg, ci, seval, resAll, resL, resV, blkAt, undef, fillV, evParts, footOp, wrOp, chk, disj] | split | ((first | apply ck_call | apply cfk_call); (first | (apply call_roA (low1); (simp [ids_nil, ids_cons, ids_sc, ids_agg, ids_dg, ids_bs, ids_row, ids_ints, ids_sref, ids_ref, ids_sl, blkAt] <;> fail); (repeat' (first | exact args_n | apply args_c | (first | exact arg_closed _ cl | (refine arg_rowA rfl mem ?_; (first | rfl | omega | (simp <;> fail) | (simp; omega))) | (refine arg_row rfl mem ?_; (first | rfl | omega | (simp <;> fail) | (simp; omega))) | (refine arg_fld mem ?_ ?_; (first | rfl | omega | (simp <;> fail) | (simp; omega)); (simp only [blkAt, List.getD_cons_zero, List.getD_cons_succ, Option.bind_some, rd_sE] <;> fail))))); (first | exact cl | exact cll); (first | exact nr | exact nrl)) | (apply call_roA (low2); (simp [ids_nil, ids_cons, ids_sc, ids_agg, ids_dg, ids_bs, ids_row, ids_ints, ids_sref, ids_ref, ids_sl, blkAt] <;> fail); (repeat' (first | exact args_n | apply args_c | (first | exact arg_closed _ cl | (refine arg_rowA rfl mem ?_; (first | rfl | omega | (simp <;> fail) | (simp; omega))) | (refine arg_row rfl mem ?_; (first | rfl | omega | (simp <;> fail) | (simp; omega))) | (refine arg_fld mem ?_ ?_; (first | rfl | omega | (simp <;> fail) | (simp; omega)); (simp only [blkAt, List.getD_cons_zero, List.getD_cons_succ, Option.bind_some, rd_sE] <;> fail))))); (first | exact cl | exact cll); (first | exact nr | exact nrl)) | (apply call_updS (rstir_C _) rfl cll cll cll cl)))))
      exact hJ _ _ _ _ _ (by omega) ⟨j + 1, by omega, rfl, rfl, rfl⟩ (by refine .ren _ _ _ [0, 1, 2] (by decide) (by intro k h; first | exact absurd h (Nat.not_lt_zero k) | (simp at h; done) | (rcases k with _ | _ | _ | k <;> first | rfl | (exfalso; omega) | (simp at h; done))) ?_ ?_ <;> simp [KeepS, KeepH, ArgRel, ArgRelL, argL_cl, arg_cl, row_l_of, row_l_nil, bn_len, blkAt, absF, blockF, show 8 * (j + 1) = 8 * j + 8 from rfl, Nat.sub_sub])
    · have c1 : ¬ ((8 * j : Nat) : Int) < (P.length : Int) := by omega
      have hN : P.length / 8 = j := by omega
      rw [hN]
      simp (maxSteps := 2000000) -implicitDefEqProofs only [A_clavigerref2_Sum_L2, K_clavigerref2_Sum_L2, c1, lr, lr2, oO, oN, oG, oNG, oM, oF, oL, rg, ci, seval, resAll, resL, resV, blkAt, undef, fillV, evParts, footOp, wrOp, chk, disj]
      generalize absF P j = x
      refine wk_unroll 9 ?_
      (repeat' (first | simp (maxSteps := 2000000) -implicitDefEqProofs only [A_clavigerref2_Sum_L3, lr, lr2, oO, oN, oG, oNG, oM, oF, oL, rg, ci, seval, resAll, resL, resV, blkAt, undef, fillV, evParts, footOp, wrOp, chk, disj] | split | ((first | apply ck_call | apply cfk_call); (first | (apply call_updS (rstir_C _) rfl cll cll cll cl)))))
      rw [show stirF (stirF (stirF (stirF (stirF (stirF (stirF (stirF x))))))) = stir8 x from rfl]
      have hy : (stir8 x).ok := stir_ok _
      generalize stir8 x = y at hy
      obtain ⟨y1, y2, y3, y4⟩ := hy
      refine wk_unroll 17 ?_
      simp (maxSteps := 2000000) -implicitDefEqProofs only [A_clavigerref2_Sum_L4, rd_W0, rd_W1, rd_W2, rd_W3, sp_W0, sp_W1, sp_W2, sp_W3, cW_len, u8_m1, u8_m2, u8_m3, y1, y2, y3, y4, lr, lr2, oO, oN, oG, oNG, oM, oF, oL, rg, ci, seval, resAll, resL, resV, blkAt, undef, fillV, evParts, footOp, wrOp, chk, disj]
      refine out_eq ?_ (cl)
      congr 1
end Go.Proofs.YtfpoebmihjbknaaGreat.VA

/- Keyed sums, streams. -/
set_option linter.unusedVariables false
set_option linter.unusedSimpArgs false
set_option maxRecDepth 100000
namespace Go.Proofs.YtfpoebmihjbknaaGreat.VA
open Go
attribute [local irreducible] WK NK XK TK RK FK CK CFK CallRel C
def keyedF (k : Bn 16) (b : List UInt8) : Bn 16 := sumF (k.1 ++ b)
def twoF (a b : Bn 16) : Bn 16 := keyedF a b.1
theorem keyed_C (k : Bn 16) (r : Row) (h : r.l.length ≤ 35184372088832) : C Tryz.prog 82 [.agg (dg k), rowV r] [] (.agg (dg (keyedF k r.l))) [] := by
  refine C_of mixed Tryz.func82 A_blend_Keyed_ok A_blend_Keyed_res _ A_blend_Keyed_nt ?_
  have hk := k.2
  have hs : Sm k.1 r.l.length := by simp only [Sm]; omega
  have sm := sum_C (.of (k.1 ++ r.l)) (by rw [row_l_of, List.length_append]; omega)
  simp (maxSteps := 2000000) -implicitDefEqProofs only [A_blend_Keyed, lr, lr2, oO, oN, oG, oNG, oM, oF, oL, rg, ci, seval, resAll, resL, resV, blkAt, undef, fillV, evParts, footOp, wrOp, chk, disj]
  ((first | apply ck_call | apply cfk_call); (apply call_roA_new (clone_C k.1 (by omega)); (simp [ids_nil, ids_cons, ids_sc, ids_agg, ids_dg, ids_bs, ids_row, ids_ints, ids_sref, ids_ref, ids_sl, blkAt] <;> fail); (repeat' (first | exact args_n | apply args_c | (first | exact arg_closed _ cl | (refine arg_rowA rfl mem ?_; (first | rfl | omega | (simp <;> fail) | (simp; omega))) | (refine arg_row rfl mem ?_; (first | rfl | omega | (simp <;> fail) | (simp; omega))) | (refine arg_fld mem ?_ ?_; (first | rfl | omega | (simp <;> fail) | (simp; omega)); (simp only [blkAt, List.getD_cons_zero, List.getD_cons_succ, Option.bind_some, rd_sE] <;> fail))))); (first | exact cl | exact cll); (first | exact nr | exact nrl)))
  simp (maxSteps := 2000000) -implicitDefEqProofs only [hs, hk, lr, lr2, oO, oN, oG, oNG, oM, oF, oL, rg, ci, seval, resAll, resL, resV, blkAt, undef, fillV, evParts, footOp, wrOp, chk, disj]
  ((first | apply ck_call | apply cfk_call); (apply call_roA (sm); (simp [ids_nil, ids_cons, ids_sc, ids_agg, ids_dg, ids_bs, ids_row, ids_ints, ids_sref, ids_ref, ids_sl, blkAt] <;> fail); (repeat' (first | exact args_n | apply args_c | (first | exact arg_closed _ cl | (refine arg_rowA rfl mem ?_; (first | rfl | omega | (simp <;> fail) | (simp; omega))) | (refine arg_row rfl mem ?_; (first | rfl | omega | (simp <;> fail) | (simp; omega))) | (refine arg_fld mem ?_ ?_; (first | rfl | omega | (simp <;> fail) | (simp; omega)); (simp only [blkAt, List.getD_cons_zero, List.getD_cons_succ, Option.bind_some, rd_sE] <;> fail))))); (first | exact cl | exact cll); (first | exact nr | exact nrl)))
  simp (maxSteps := 2000000) -implicitDefEqProofs only [lr, lr2, oO, oN, oG, oNG, oM, oF, oL, rg, ci, seval, resAll, resL, resV, blkAt, undef, fillV, evParts, footOp, wrOp, chk, disj]
  all_goals (refine out_eq ?_ (cl); first | rfl | (simp_all []; done) | (simp_all []; intros; omega) | (simp []; (repeat' split) <;> first | rfl | omega | (simp_all; done) | (simp_all; intros; omega)))
theorem two_C (a b : Bn 16) : C Tryz.prog 97 [.agg (dg a), .agg (dg b)] [] (.agg (dg (twoF a b))) [] := by
  refine C_of mixed Tryz.func97 A_blend_Two_ok A_blend_Two_res _ A_blend_Two_nt ?_
  have kc := keyed_C a (.of b.1) (by rw [row_l_of, b.2]; omega)
  (repeat' (first | simp (maxSteps := 2000000) -implicitDefEqProofs only [A_blend_Two, lr, lr2, oO, oN, oG, oNG, oM, oF, oL, rg, ci, seval, resAll, resL, resV, blkAt, undef, fillV, evParts, footOp, wrOp, chk, disj] | split | ((first | apply ck_call | apply cfk_call); (first | (apply call_roA (kc); (simp [ids_nil, ids_cons, ids_sc, ids_agg, ids_dg, ids_bs, ids_row, ids_ints, ids_sref, ids_ref, ids_sl, blkAt] <;> fail); (repeat' (first | exact args_n | apply args_c | (first | exact arg_closed _ cl | (refine arg_rowA rfl mem ?_; (first | rfl | omega | (simp <;> fail) | (simp; omega))) | (refine arg_row rfl mem ?_; (first | rfl | omega | (simp <;> fail) | (simp; omega))) | (refine arg_fld mem ?_ ?_; (first | rfl | omega | (simp <;> fail) | (simp; omega)); (simp only [blkAt, List.getD_cons_zero, List.getD_cons_succ, Option.bind_some, rd_sE] <;> fail))))); (first | exact cl | exact cll); (first | exact nr | exact nrl))))))
  all_goals (refine out_eq ?_ (cl); first | rfl | (simp_all []; done) | (simp_all []; intros; omega) | (simp []; (repeat' split) <;> first | rfl | omega | (simp_all; done) | (simp_all; intros; omega)))
theorem numF_len (n : Nat) : (numF n).length = 8 := rfl
def chunksF (k : Bn 16) (n : Nat) : Nat → List UInt8
  | 0 => []
  | m + 1 => chunksF k n m ++ (keyedF k (numF n ++ numF m)).1
theorem chunks_len (k : Bn 16) (n : Nat) : ∀ m, (chunksF k n m).length = 16 * m
  | 0 => rfl
  | m + 1 => by rw [chunksF, List.length_append, chunks_len k n m, bn_len]; omega
theorem chunks_take (k : Bn 16) (n c : Nat) : ∀ m d, c ≤ 16 * m → (chunksF k n (m + d)).take c = (chunksF k n m).take c
  | m, 0, _ => rfl
  | m, d + 1, h => by rw [← Nat.add_assoc, chunksF, List.take_append_of_le_length (by rw [chunks_len]; omega), chunks_take k n c m d h]
def streamF (k : Bn 16) (n c : Nat) : List UInt8 := (chunksF k n 512).take c
theorem stream_of (k : Bn 16) (n c m : Nat) (h : c ≤ 16 * m) (hm : m ≤ 512) : (chunksF k n m).take c = streamF k n c := by
  rw [streamF, show 512 = m + (512 - m) from by omega, chunks_take k n c m _ h]
theorem stream_len (k : Bn 16) (n c : Nat) (h : c ≤ 8192) : (streamF k n c).length = c := by
  rw [streamF, List.length_take, chunks_len]; omega
theorem stream_C (k : Bn 16) (n : Nat) (count : Int) (c : Nat) (hc : max 0 (min count 8192) = (c : Int)) (h0 : 0 < c) : C Tryz.prog 96 [.agg (dg k), vi .u64 n, vi .i64 count] [] (.sref 0 0 c 1) [some (bs (streamF k n c))] := by
  refine C_of mixed Tryz.func96 A_blend_Stream_ok A_blend_Stream_res _ A_blend_Stream_nt ?_
  have hc8 : c ≤ 8192 := by omega
  simp (maxSteps := 2000000) -implicitDefEqProofs only [A_blend_Stream, hc, lr, lr2, oO, oN, oG, oNG, oM, oF, oL, rg, ci, seval, resAll, resL, resV, blkAt, undef, fillV, evParts, footOp, wrOp, chk, disj]
  refine wk_loop (fun m S H => ∃ j : Nat, 16 * j < c + 16 ∧ m = 513 - j ∧ ((j = 0 ∧ S = (.agg (dg k) :: vi .u64 n :: vi .i64 c :: .ref 0 0 :: .dead :: .dead :: vnil :: vnil :: vi .u64 0 :: .dead :: .dead :: .dead :: .dead :: .dead :: .dead :: .dead :: .dead :: .dead :: .dead :: .dead :: .dead :: .dead :: .dead :: .dead :: .dead :: .dead :: .dead :: .dead :: .dead :: .dead :: .dead :: .dead :: .dead :: []) ∧ H = [some (dg k)]) ∨ (0 < j ∧ S = (.agg (dg k) :: vi .u64 n :: vi .i64 c :: .ref 0 0 :: .dead :: .dead :: vnil :: .sref 1 0 (chunksF k n j).length 1 :: vi .u64 j :: .dead :: .dead :: .dead :: .dead :: .dead :: .dead :: .dead :: .dead :: .dead :: .dead :: .dead :: .dead :: .dead :: .dead :: .dead :: .dead :: .dead :: .dead :: .dead :: .dead :: .dead :: .dead :: .dead :: .dead :: []) ∧ H = [some (dg k), some (bs (chunksF k n j))]))) 513 ⟨0, by omega, rfl, .inl ⟨rfl, rfl, rfl⟩⟩ (by refine .ren _ _ _ [0] (by decide) (by intro k h; first | exact absurd h (Nat.not_lt_zero k) | (simp at h; done) | (rcases k with _ | _ | _ | k <;> first | rfl | (exfalso; omega) | (simp at h; done))) ?_ ?_ <;> simp [KeepS, KeepH, ArgRel, ArgRelL, argL_cl, arg_cl, row_l_of, row_l_nil, bn_len, blkAt]) ?_
  have hs : ∀ j, 16 * j < c + 16 → Sm (chunksF k n j) 16 := fun j hj => by simp only [Sm, chunks_len]; omega
  have hs1 : Sm (numF n) 8 := by simp only [Sm, numF_len]; omega
  rintro m S H ⟨j, hj, rfl, ⟨rfl, rfl, rfl⟩ | ⟨hj0, rfl, rfl⟩⟩ J hJ
  · have c1 : (0 : Int) < c := by omega
    have kc := keyed_C k (.of (numF n ++ numF 0)) (by rw [row_l_of, List.length_append, numF_len, numF_len]; omega)
    (repeat' (first | simp (maxSteps := 2000000) -implicitDefEqProofs only [A_blend_Stream_L0, c1, numF_len, hs1, lr, lr2, oO, oN, oG, oNG, oM, oF, oL, rg, ci, seval, resAll, resL, resV, blkAt, undef, fillV, evParts, footOp, wrOp, chk, disj] | split | ((first | apply ck_call | apply cfk_call); (first | (apply call_new (number_C n) cll cll) | (apply call_new (number_C 0) cll cll) | (apply call_roA (kc); (simp [ids_nil, ids_cons, ids_sc, ids_agg, ids_dg, ids_bs, ids_row, ids_ints, ids_sref, ids_ref, ids_sl, blkAt] <;> fail); (repeat' (first | exact args_n | apply args_c | (first | exact arg_closed _ cl | (refine arg_rowA rfl mem ?_; (first | rfl | omega | (simp <;> fail) | (simp; omega))) | (refine arg_row rfl mem ?_; (first | rfl | omega | (simp <;> fail) | (simp; omega))) | (refine arg_fld mem ?_ ?_; (first | rfl | omega | (simp <;> fail) | (simp; omega)); (simp only [blkAt, List.getD_cons_zero, List.getD_cons_succ, Option.bind_some, rd_sE] <;> fail))))); (first | exact cl | exact cll); (first | exact nr | exact nrl))))))
    exact hJ _ _ _ _ _ (by omega) ⟨1, by omega, rfl, .inr ⟨by omega, rfl, rfl⟩⟩ (by refine .ren _ _ _ [0, 5] (by decide) (by intro k h; first | exact absurd h (Nat.not_lt_zero k) | (simp at h; done) | (rcases k with _ | _ | _ | k <;> first | rfl | (exfalso; omega) | (simp at h; done))) ?_ ?_ <;> simp [KeepS, KeepH, ArgRel, ArgRelL, argL_cl, arg_cl, row_l_of, row_l_nil, bn_len, blkAt, chunksF, numF_len])
  · have e1 : (chunksF k n j).length = 16 * j := chunks_len k n j
    by_cases hjc : 16 * j < c
    · have c1 : ((chunksF k n j).length : Int) < c := by rw [e1]; omega
      have w1 : IntKind.u64.wrap ((j : Int) + 1) = ((j + 1 : Nat) : Int) := by rw [IntWalk.u64_in _ ⟨by omega, by omega⟩]; omega
      have hs2 := hs j hj
      have kc := keyed_C k (.of (numF n ++ numF j)) (by rw [row_l_of, List.length_append, numF_len, numF_len]; omega)
      (repeat' (first | simp (maxSteps := 2000000) -implicitDefEqProofs only [A_blend_Stream_L0, c1, w1, numF_len, hs1, hs2, lr, lr2, oO, oN, oG, oNG, oM, oF, oL, rg, ci, seval, resAll, resL, resV, blkAt, undef, fillV, evParts, footOp, wrOp, chk, disj] | split | ((first | apply ck_call | apply cfk_call); (first | (apply call_new (number_C n) cll cll) | (apply call_new (number_C j) cll cll) | (apply call_roA (kc); (simp [ids_nil, ids_cons, ids_sc, ids_agg, ids_dg, ids_bs, ids_row, ids_ints, ids_sref, ids_ref, ids_sl, blkAt] <;> fail); (repeat' (first | exact args_n | apply args_c | (first | exact arg_closed _ cl | (refine arg_rowA rfl mem ?_; (first | rfl | omega | (simp <;> fail) | (simp; omega))) | (refine arg_row rfl mem ?_; (first | rfl | omega | (simp <;> fail) | (simp; omega))) | (refine arg_fld mem ?_ ?_; (first | rfl | omega | (simp <;> fail) | (simp; omega)); (simp only [blkAt, List.getD_cons_zero, List.getD_cons_succ, Option.bind_some, rd_sE] <;> fail))))); (first | exact cl | exact cll); (first | exact nr | exact nrl))))))
      exact hJ _ _ _ _ _ (by omega) ⟨j + 1, by omega, rfl, .inr ⟨by omega, rfl, rfl⟩⟩ (by refine .ren _ _ _ [0, 6] (by decide) (by intro k h; first | exact absurd h (Nat.not_lt_zero k) | (simp at h; done) | (rcases k with _ | _ | _ | k <;> first | rfl | (exfalso; omega) | (simp at h; done))) ?_ ?_ <;> simp [KeepS, KeepH, ArgRel, ArgRelL, argL_cl, arg_cl, row_l_of, row_l_nil, bn_len, blkAt, chunksF, numF_len])
    · have c1 : ¬ ((chunksF k n j).length : Int) < c := by rw [e1]; omega
      have c2 : (0 : Int) ≤ c := by omega
      have c3 : (c : Int) ≤ ((chunksF k n j).length : Int) := by rw [e1]; omega
      have e2 := stream_of k n c j (by omega) (by omega)
      have cl : C Tryz.prog 92 [rowV (.of ((chunksF k n j).take c))] [] (.sref 0 0 c 1) [some (bs (streamF k n c))] := by
        have := clone_C (streamF k n c) (by rw [stream_len _ _ _ hc8]; omega)
        rw [stream_len _ _ _ hc8] at this
        rw [e2]; exact this
      simp (maxSteps := 2000000) -implicitDefEqProofs only [A_blend_Stream_L0, K_blend_Stream_L0, c1, c2, c3, Nat.sub_zero, lr, lr2, oO, oN, oG, oNG, oM, oF, oL, rg, ci, seval, resAll, resL, resV, blkAt, undef, fillV, evParts, footOp, wrOp, chk, disj]
      refine ck_call _ _ (call_ro_new cl [1] (by simp [idsInL, idsIn, blkAt]) (args_c (arg_row rfl (by simp) (by omega)) args_n) (bs_closed _) (no_ro_bs _)) ?_
      simp (maxSteps := 2000000) -implicitDefEqProofs only [lr, lr2, oO, oN, oG, oNG, oM, oF, oL, rg, ci, seval, resAll, resL, resV, blkAt, undef, fillV, evParts, footOp, wrOp, chk, disj]
      exact out_row rfl (bs_closed _)
theorem streamN_C (k : Bn 16) (n : Nat) (count : Int) (hc : max 0 (min count 8192) = 0) : C Tryz.prog 96 [.agg (dg k), vi .u64 n, vi .i64 count] [] vnil [] := by
  refine C_of mixed Tryz.func96 A_blend_Stream_ok A_blend_Stream_res _ A_blend_Stream_nt ?_
  simp (maxSteps := 2000000) -implicitDefEqProofs only [A_blend_Stream, hc, lr, lr2, oO, oN, oG, oNG, oM, oF, oL, rg, ci, seval, resAll, resL, resV, blkAt, undef, fillV, evParts, footOp, wrOp, chk, disj]
  refine wk_unroll 1 ?_
  (repeat' (first | simp (maxSteps := 2000000) -implicitDefEqProofs only [A_blend_Stream_L0, lr, lr2, oO, oN, oG, oNG, oM, oF, oL, rg, ci, seval, resAll, resL, resV, blkAt, undef, fillV, evParts, footOp, wrOp, chk, disj] | split | ((first | apply ck_call | apply cfk_call); (first | (apply call_pure (cloneN_C) cll cl)))))
  all_goals (refine out_eq ?_ (cl); first | rfl | (simp_all []; done) | (simp_all []; intros; omega) | (simp []; (repeat' split) <;> first | rfl | omega | (simp_all; done) | (simp_all; intros; omega)))
end Go.Proofs.YtfpoebmihjbknaaGreat.VA

/- The document's own keyed sums and streams. -/
set_option linter.unusedVariables false
set_option linter.unusedSimpArgs false
set_option maxRecDepth 100000
namespace Go.Proofs.YtfpoebmihjbknaaGreat.VA
open Go
attribute [local irreducible] WK NK XK TK RK FK CK CFK CallRel C
theorem rkeyed_C (k : Bn 16) (r : Row) (h : r.l.length ≤ 35184372088832) : C Tryz.prog 65 [.agg (dg k), rowV r] [] (.agg (dg (keyedF k r.l))) [] := by
  refine C_of mixed Tryz.func65 A_clavigerref2_Keyed_ok A_clavigerref2_Keyed_res _ A_clavigerref2_Keyed_nt ?_
  have hk := k.2
  have hs : Sm k.1 r.l.length := by simp only [Sm]; omega
  have sm := rsum_C (.of (k.1 ++ r.l)) (by rw [row_l_of, List.length_append]; omega)
  (repeat' (first | simp (maxSteps := 2000000) -implicitDefEqProofs only [A_clavigerref2_Keyed, hs, hk, lr, lr2, oO, oN, oG, oNG, oM, oF, oL, rg, ci, seval, resAll, resL, resV, blkAt, undef, fillV, evParts, footOp, wrOp, chk, disj] | split | ((first | apply ck_call | apply cfk_call); (first | (apply call_roA (sm); (simp [ids_nil, ids_cons, ids_sc, ids_agg, ids_dg, ids_bs, ids_row, ids_ints, ids_sref, ids_ref, ids_sl, blkAt] <;> fail); (repeat' (first | exact args_n | apply args_c | (first | exact arg_closed _ cl | (refine arg_rowA rfl mem ?_; (first | rfl | omega | (simp <;> fail) | (simp; omega))) | (refine arg_row rfl mem ?_; (first | rfl | omega | (simp <;> fail) | (simp; omega))) | (refine arg_fld mem ?_ ?_; (first | rfl | omega | (simp <;> fail) | (simp; omega)); (simp only [blkAt, List.getD_cons_zero, List.getD_cons_succ, Option.bind_some, rd_sE] <;> fail))))); (first | exact cl | exact cll); (first | exact nr | exact nrl))))))
  all_goals (refine out_eq ?_ (cl); first | rfl | (simp_all []; done) | (simp_all []; intros; omega) | (simp []; (repeat' split) <;> first | rfl | omega | (simp_all; done) | (simp_all; intros; omega)))
theorem rtwo_C (a b : Bn 16) : C Tryz.prog 84 [.agg (dg a), .agg (dg b)] [] (.agg (dg (twoF a b))) [] := by
  refine C_of mixed Tryz.func84 A_clavigerref2_Two_ok A_clavigerref2_Two_res _ A_clavigerref2_Two_nt ?_
  have kc := rkeyed_C a (.of b.1) (by rw [row_l_of, b.2]; omega)
  (repeat' (first | simp (maxSteps := 2000000) -implicitDefEqProofs only [A_clavigerref2_Two, lr, lr2, oO, oN, oG, oNG, oM, oF, oL, rg, ci, seval, resAll, resL, resV, blkAt, undef, fillV, evParts, footOp, wrOp, chk, disj] | split | ((first | apply ck_call | apply cfk_call); (first | (apply call_roA (kc); (simp [ids_nil, ids_cons, ids_sc, ids_agg, ids_dg, ids_bs, ids_row, ids_ints, ids_sref, ids_ref, ids_sl, blkAt] <;> fail); (repeat' (first | exact args_n | apply args_c | (first | exact arg_closed _ cl | (refine arg_rowA rfl mem ?_; (first | rfl | omega | (simp <;> fail) | (simp; omega))) | (refine arg_row rfl mem ?_; (first | rfl | omega | (simp <;> fail) | (simp; omega))) | (refine arg_fld mem ?_ ?_; (first | rfl | omega | (simp <;> fail) | (simp; omega)); (simp only [blkAt, List.getD_cons_zero, List.getD_cons_succ, Option.bind_some, rd_sE] <;> fail))))); (first | exact cl | exact cll); (first | exact nr | exact nrl))))))
  all_goals (refine out_eq ?_ (cl); first | rfl | (simp_all []; done) | (simp_all []; intros; omega) | (simp []; (repeat' split) <;> first | rfl | omega | (simp_all; done) | (simp_all; intros; omega)))
theorem rstream_C (k : Bn 16) (n : Nat) (count : Int) (c : Nat) (hn : n < 18446744073709551616) (hc : max (min count 8192) 0 = (c : Int)) (h0 : 0 < c) : C Tryz.prog 83 [.agg (dg k), vi .u64 n, vi .i64 count] [] (.sref 0 0 c 1) [some (bs (chunksF k n ((c + 15) / 16)))] := by
  refine C_of mixed Tryz.func83 A_clavigerref2_Stream_ok A_clavigerref2_Stream_res _ A_clavigerref2_Stream_nt ?_
  have hc8 : c ≤ 8192 := by omega
  simp (maxSteps := 2000000) -implicitDefEqProofs only [A_clavigerref2_Stream, hc, lr, lr2, oO, oN, oG, oNG, oM, oF, oL, rg, ci, seval, resAll, resL, resV, blkAt, undef, fillV, evParts, footOp, wrOp, chk, disj]
  refine wk_loop (fun m S H => ∃ j : Nat, 16 * j < c + 16 ∧ m = 513 - j ∧ ((j = 0 ∧ S = (.agg (dg k) :: vi .u64 n :: vi .i64 c :: .ref 0 0 :: .dead :: .dead :: vnil :: vnil :: vi .u64 0 :: .dead :: .dead :: .dead :: .dead :: .dead :: .dead :: .dead :: .dead :: .dead :: .dead :: .dead :: .dead :: .dead :: .dead :: .dead :: .dead :: .dead :: .dead :: .dead :: .dead :: .dead :: .dead :: .dead :: []) ∧ H = [some (dg k)]) ∨ (0 < j ∧ S = (.agg (dg k) :: vi .u64 n :: vi .i64 c :: .ref 0 0 :: .dead :: .dead :: vnil :: .sref 1 0 (chunksF k n j).length 1 :: vi .u64 j :: .dead :: .dead :: .dead :: .dead :: .dead :: .dead :: .dead :: .dead :: .dead :: .dead :: .dead :: .dead :: .dead :: .dead :: .dead :: .dead :: .dead :: .dead :: .dead :: .dead :: .dead :: .dead :: .dead :: []) ∧ H = [some (dg k), some (bs (chunksF k n j))]))) 513 ⟨0, by omega, rfl, .inl ⟨rfl, rfl, rfl⟩⟩ (by refine .ren _ _ _ [0] (by decide) (by intro k h; first | exact absurd h (Nat.not_lt_zero k) | (simp at h; done) | (rcases k with _ | _ | _ | k <;> first | rfl | (exfalso; omega) | (simp at h; done))) ?_ ?_ <;> simp [KeepS, KeepH, ArgRel, ArgRelL, argL_cl, arg_cl, row_l_of, row_l_nil, bn_len, blkAt]) ?_
  have hs : ∀ j, 16 * j < c + 16 → Sm (chunksF k n j) 16 := fun j hj => by simp only [Sm, chunks_len]; omega
  have hs1 : Sm (numF n) 8 := by simp only [Sm, numF_len]; omega
  rintro m S H ⟨j, hj, rfl, ⟨rfl, rfl, rfl⟩ | ⟨hj0, rfl, rfl⟩⟩ J hJ
  · have c1 : (0 : Int) < c := by omega
    have kc := rkeyed_C k (.of (numF n ++ numF 0)) (by rw [row_l_of, List.length_append, numF_len, numF_len]; omega)
    (repeat' (first | simp (maxSteps := 2000000) -implicitDefEqProofs only [A_clavigerref2_Stream_L0, c1, numF_len, hs1, lr, lr2, oO, oN, oG, oNG, oM, oF, oL, rg, ci, seval, resAll, resL, resV, blkAt, undef, fillV, evParts, footOp, wrOp, chk, disj] | split | ((first | apply ck_call | apply cfk_call); (first | (apply call_new (rnumber_C n hn) cll cll) | (apply call_new (rnumber_C 0 (by omega)) cll cll) | (apply call_roA (kc); (simp [ids_nil, ids_cons, ids_sc, ids_agg, ids_dg, ids_bs, ids_row, ids_ints, ids_sref, ids_ref, ids_sl, blkAt] <;> fail); (repeat' (first | exact args_n | apply args_c | (first | exact arg_closed _ cl | (refine arg_rowA rfl mem ?_; (first | rfl | omega | (simp <;> fail) | (simp; omega))) | (refine arg_row rfl mem ?_; (first | rfl | omega | (simp <;> fail) | (simp; omega))) | (refine arg_fld mem ?_ ?_; (first | rfl | omega | (simp <;> fail) | (simp; omega)); (simp only [blkAt, List.getD_cons_zero, List.getD_cons_succ, Option.bind_some, rd_sE] <;> fail))))); (first | exact cl | exact cll); (first | exact nr | exact nrl))))))
    exact hJ _ _ _ _ _ (by omega) ⟨1, by omega, rfl, .inr ⟨by omega, rfl, rfl⟩⟩ (by refine .ren _ _ _ [0, 5] (by decide) (by intro k h; first | exact absurd h (Nat.not_lt_zero k) | (simp at h; done) | (rcases k with _ | _ | _ | k <;> first | rfl | (exfalso; omega) | (simp at h; done))) ?_ ?_ <;> simp [KeepS, KeepH, ArgRel, ArgRelL, argL_cl, arg_cl, row_l_of, row_l_nil, bn_len, blkAt, chunksF, numF_len])
  · have e1 : (chunksF k n j).length = 16 * j := chunks_len k n j
    by_cases hjc : 16 * j < c
    · have c1 : ((chunksF k n j).length : Int) < c := by rw [e1]; omega
      have w1 : IntKind.u64.wrap ((j : Int) + 1) = ((j + 1 : Nat) : Int) := by rw [IntWalk.u64_in _ ⟨by omega, by omega⟩]; omega
      have hs2 := hs j hj
      have kc := rkeyed_C k (.of (numF n ++ numF j)) (by rw [row_l_of, List.length_append, numF_len, numF_len]; omega)
      (repeat' (first | simp (maxSteps := 2000000) -implicitDefEqProofs only [A_clavigerref2_Stream_L0, c1, w1, numF_len, hs1, hs2, lr, lr2, oO, oN, oG, oNG, oM, oF, oL, rg, ci, seval, resAll, resL, resV, blkAt, undef, fillV, evParts, footOp, wrOp, chk, disj] | split | ((first | apply ck_call | apply cfk_call); (first | (apply call_new (rnumber_C n hn) cll cll) | (apply call_new (rnumber_C j (by omega)) cll cll) | (apply call_roA (kc); (simp [ids_nil, ids_cons, ids_sc, ids_agg, ids_dg, ids_bs, ids_row, ids_ints, ids_sref, ids_ref, ids_sl, blkAt] <;> fail); (repeat' (first | exact args_n | apply args_c | (first | exact arg_closed _ cl | (refine arg_rowA rfl mem ?_; (first | rfl | omega | (simp <;> fail) | (simp; omega))) | (refine arg_row rfl mem ?_; (first | rfl | omega | (simp <;> fail) | (simp; omega))) | (refine arg_fld mem ?_ ?_; (first | rfl | omega | (simp <;> fail) | (simp; omega)); (simp only [blkAt, List.getD_cons_zero, List.getD_cons_succ, Option.bind_some, rd_sE] <;> fail))))); (first | exact cl | exact cll); (first | exact nr | exact nrl))))))
      exact hJ _ _ _ _ _ (by omega) ⟨j + 1, by omega, rfl, .inr ⟨by omega, rfl, rfl⟩⟩ (by refine .ren _ _ _ [0, 6] (by decide) (by intro k h; first | exact absurd h (Nat.not_lt_zero k) | (simp at h; done) | (rcases k with _ | _ | _ | k <;> first | rfl | (exfalso; omega) | (simp at h; done))) ?_ ?_ <;> simp [KeepS, KeepH, ArgRel, ArgRelL, argL_cl, arg_cl, row_l_of, row_l_nil, bn_len, blkAt, chunksF, numF_len])
    · have c1 : ¬ ((chunksF k n j).length : Int) < c := by rw [e1]; omega
      have c2 : (0 : Int) ≤ c := by omega
      have c3 : (c : Int) ≤ ((chunksF k n j).length : Int) := by rw [e1]; omega
      have e2 : (c + 15) / 16 = j := by omega
      simp (maxSteps := 2000000) -implicitDefEqProofs only [A_clavigerref2_Stream_L0, K_clavigerref2_Stream_L0, c1, c2, c3, Nat.sub_zero, lr, lr2, oO, oN, oG, oNG, oM, oF, oL, rg, ci, seval, resAll, resL, resV, blkAt, undef, fillV, evParts, footOp, wrOp, chk, disj]
      rw [e2]
      exact out_row rfl (bs_closed _)
theorem rstreamN_C (k : Bn 16) (n : Nat) (count : Int) (hc : max (min count 8192) 0 = 0) : C Tryz.prog 83 [.agg (dg k), vi .u64 n, vi .i64 count] [] vnil [] := by
  refine C_of mixed Tryz.func83 A_clavigerref2_Stream_ok A_clavigerref2_Stream_res _ A_clavigerref2_Stream_nt ?_
  simp (maxSteps := 2000000) -implicitDefEqProofs only [A_clavigerref2_Stream, hc, lr, lr2, oO, oN, oG, oNG, oM, oF, oL, rg, ci, seval, resAll, resL, resV, blkAt, undef, fillV, evParts, footOp, wrOp, chk, disj]
  refine wk_unroll 1 ?_
  (repeat' (first | simp (maxSteps := 2000000) -implicitDefEqProofs only [A_clavigerref2_Stream_L0, lr, lr2, oO, oN, oG, oNG, oM, oF, oL, rg, ci, seval, resAll, resL, resV, blkAt, undef, fillV, evParts, footOp, wrOp, chk, disj] | split))
  all_goals (refine out_eq ?_ (cl); first | rfl | (simp_all []; done) | (simp_all []; intros; omega) | (simp []; (repeat' split) <;> first | rfl | omega | (simp_all; done) | (simp_all; intros; omega)))
end Go.Proofs.YtfpoebmihjbknaaGreat.VA

/- Numbers out of bytes. -/
set_option linter.unusedVariables false
set_option linter.unusedSimpArgs false
namespace Go.Proofs.YtfpoebmihjbknaaGreat.VA
open Go
attribute [local irreducible] WK NK XK TK RK FK CK CFK CallRel C
theorem or64 (v : Nat) (b : UInt8) : evBin .or (.sc (.int .u64 ((v * 256 % 18446744073709551616 : Nat) : Int))) (.sc (.int .u64 (b.toNat : Int))) = some (.sc (.int .u64 ((v * 256 % 18446744073709551616 + b.toNat : Nat) : Int))) := by
  have hb := b.toNat_lt
  rw [bin_or]
  have e : (BitVec.ofInt IntKind.u64.bits ((v * 256 % 18446744073709551616 : Nat) : Int) ||| BitVec.ofInt IntKind.u64.bits (b.toNat : Int)).toNat = v * 256 % 18446744073709551616 + b.toNat := by
    rw [BitVec.toNat_or, ofInt_nat, ofInt_nat]
    have h1 : (2 : Nat) ^ IntKind.u64.bits = 18446744073709551616 := by decide
    have h2 : v * 256 % 18446744073709551616 = (v % 72057594037927936) * 2 ^ 8 := by omega
    rw [h1, Nat.mod_mod, Nat.mod_eq_of_lt (show b.toNat < 18446744073709551616 by omega), h2, ← Nat.shiftLeft_eq, Nat.shiftLeft_add_eq_or_of_lt (show b.toNat < 2 ^ 8 by omega)]
  rw [e, u64_id _ (by omega) (by omega)]
def numB (l : List UInt8) : Nat := l.foldl (fun n b => n * 256 + b.toNat) 0
theorem numB_snoc (l : List UInt8) (b : UInt8) : numB (l ++ [b]) = numB l * 256 + b.toNat := by simp [numB]
theorem numB_lt (l : List UInt8) : numB l < 256 ^ l.length := by
  have key : ∀ (l : List UInt8) (n k : Nat), n < 256 ^ k → l.foldl (fun n b => n * 256 + b.toNat) n < 256 ^ (k + l.length) := by
    intro l
    induction l with
    | nil => intro n k h; simpa using h
    | cons b l ih =>
      intro n k h
      have hb := b.toNat_lt
      have := ih (n * 256 + b.toNat) (k + 1) (by rw [Nat.pow_succ]; omega)
      rw [List.foldl_cons, List.length_cons, show k + (l.length + 1) = k + 1 + l.length by omega]
      exact this
  have := key l 0 0 (by decide)
  simpa [numB] using this
theorem numB_nil : numB [] = 0 := rfl
theorem w64_b (b : UInt8) : IntKind.i64.wrap (b.toNat : Int) = (b.toNat : Int) := by
  have := b.toNat_lt
  exact wrap_id _ (by omega) (by omega)
end Go.Proofs.YtfpoebmihjbknaaGreat.VA

/- The compact code of the book's functions. -/
set_option linter.unusedVariables false
set_option maxRecDepth 100000
namespace Go.Proofs.YtfpoebmihjbknaaGreat.VA
open Go
noncomputable section
def A_clavigerkeep_Cut : ACode := (.seq (rg [oO 4 (.mov (.c (.slice none 0 0)))]) (.seq (.seq (rg [oM 5 0, oO 6 (.lenSl (.t 5)), oM 7 1, oO 8 (.bin .gtr (.t 6) (.t 7))]) (.cond (.t 8) (.seq (rg [oM 9 0, oM 10 1, oO 11 (.sliceSl 1 (.t 9) none (some (.t 10))), oM 4 11]) .ret) .skip)) (.seq (rg [oM 12 0, oM 4 12]) .ret)))
theorem A_clavigerkeep_Cut_ok : Tryz.f48.body.bind (cCode Tryz.prog) = some A_clavigerkeep_Cut := by kernel_rfl
theorem A_clavigerkeep_Cut_res : cRes Tryz.prog Tryz.f48.results.toList = some [(.tmp 4)] := by kernel_rfl
theorem A_clavigerkeep_Cut_nt : Tryz.f48.ntmps = 13 := by kernel_rfl
end
end Go.Proofs.YtfpoebmihjbknaaGreat.VA

/- Rows cut, rows with room behind them. -/
set_option linter.unusedVariables false
set_option linter.unusedSimpArgs false
set_option maxRecDepth 100000
namespace Go.Proofs.YtfpoebmihjbknaaGreat.VA
open Go
attribute [local irreducible] WK NK XK TK RK FK CK CFK CallRel C
def cutF (r : Row) (n : Nat) : Row := if n < r.l.length then r.cut 0 n else r
theorem cutF_l (r : Row) (n : Nat) : (cutF r n).l = r.l.take n := by
  unfold cutF
  split
  · rw [cut_l, List.drop_zero, Nat.sub_zero]
  · rw [List.take_of_length_le (by omega)]
theorem cut_C (r : Row) (n : Nat) : C Tryz.prog 48 [rowV r, vi .i64 n] [] (rowV (cutF r n)) [] := by
  refine C_of mixed Tryz.func48 A_clavigerkeep_Cut_ok A_clavigerkeep_Cut_res _ A_clavigerkeep_Cut_nt ?_
  have c0 : (0 : Int) ≤ n := by omega
  by_cases h : n < r.l.length
  · have c1 : (r.l.length : Int) > n := by omega
    have c2 : (n : Int) ≤ r.l.length := by omega
    have e : cutF r n = r.cut 0 n := by unfold cutF; rw [if_pos h]
    rw [e]
    (repeat' (first | simp (maxSteps := 2000000) -implicitDefEqProofs only [A_clavigerkeep_Cut, c0, c1, c2, lr, lr2, oO, oN, oG, oNG, oM, oF, oL, rg, ci, seval, resAll, resL, resV, blkAt, undef, fillV, evParts, footOp, wrOp, chk, disj] | split))
    all_goals (refine out_eq ?_ (cl); first | rfl | (simp_all []; done) | (simp_all []; intros; omega) | (simp []; (repeat' split) <;> first | rfl | omega | (simp_all; done) | (simp_all; intros; omega)))
  · have c1 : ¬ (r.l.length : Int) > n := by omega
    have e : cutF r n = r := by unfold cutF; rw [if_neg h]
    rw [e]
    (repeat' (first | simp (maxSteps := 2000000) -implicitDefEqProofs only [A_clavigerkeep_Cut, c1, lr, lr2, oO, oN, oG, oNG, oM, oF, oL, rg, ci, seval, resAll, resL, resV, blkAt, undef, fillV, evParts, footOp, wrOp, chk, disj] | split))
    all_goals (refine out_eq ?_ (cl); first | rfl | (simp_all []; done) | (simp_all []; intros; omega) | (simp []; (repeat' split) <;> first | rfl | omega | (simp_all; done) | (simp_all; intros; omega)))
end Go.Proofs.YtfpoebmihjbknaaGreat.VA
