/- Letters are closed and opened: the program's and the document's. -/
import Derived.Test.YtfpoebmihjbknaaGreatLenv
import Derived.Test.YtfpoebmihjbknaaGreatPV
import Derived.Test.YtfpoebmihjbknaaGreatPB
import Derived.Test.YtfpoebmihjbknaaGreatVC
set_option linter.unusedVariables false
set_option linter.unusedSimpArgs false
set_option maxRecDepth 100000
namespace Go.Proofs.YtfpoebmihjbknaaGreat.VA
open Go
attribute [local irreducible] WK NK XK TK RK FK CK CFK CallRel C
def openV (k : Bn 16) (n : Nat) (b : List UInt8) : Row := if b.length = 8 then .nil else .of (textF k n b)
theorem openV_l (k : Bn 16) (n : Nat) (b : List UInt8) : (openV k n b).l = textF k n b := by
  unfold openV
  split
  · rename_i h; rw [text_8 k n b h]; rfl
  · rfl
def innerF (k : Bn 16) (n : Nat) : Bn 16 := keyedF k (numF n)
theorem inner_C (k : Bn 16) (n : Nat) : C Tryz.prog 62 [.agg (dg k), vi .u64 n] [] (.agg (dg (innerF k n))) [] := by
  refine C_of mixed Tryz.func62 A_envelope_Inner_ok A_envelope_Inner_res _ A_envelope_Inner_nt ?_
  (repeat' (first | simp (maxSteps := 2000000) -implicitDefEqProofs only [A_envelope_Inner, lr, lr2, oO, oN, oG, oNG, oM, oF, oL, rg, ci, seval, resAll, resL, resV, blkAt, undef, fillV, evParts, footOp, wrOp, chk, disj] | split | ((first | apply ck_call | apply cfk_call); (first | (apply call_new (number_C n) cll cll) | (apply call_roA (keyed_C k (.of (numF n)) (by rw [row_l_of, numF_len]; decide)); (simp [ids_nil, ids_cons, ids_sc, ids_agg, ids_dg, ids_bs, ids_row, ids_ints, ids_sref, ids_ref, ids_sl, blkAt] <;> fail); (repeat' (first | exact args_n | apply args_c | (first | exact arg_closed _ cl | (refine arg_rowA rfl mem ?_; (first | rfl | omega | (simp [bn_len] <;> fail) | (simp [bn_len]; omega))) | (refine arg_row rfl mem ?_; (first | rfl | omega | (simp [bn_len] <;> fail) | (simp [bn_len]; omega))) | (refine arg_fld mem ?_ ?_; (first | rfl | omega | (simp [bn_len] <;> fail) | (simp [bn_len]; omega)); (simp only [blkAt, List.getD_cons_zero, List.getD_cons_succ, Option.bind_some, rd_sE] <;> fail))))); (first | exact cl | exact cll); (first | exact nr | exact nrl))))))
  refine out_eq rfl ?_; simp [Closed, dg_closed]
theorem rinner_C (k : Bn 16) (n : Nat) (hn : n < 18446744073709551616) : C Tryz.prog 42 [.agg (dg k), vi .u64 n] [] (.agg (dg (innerF k n))) [] := by
  refine C_of mixed Tryz.func42 A_clavigerref4_Inner_ok A_clavigerref4_Inner_res _ A_clavigerref4_Inner_nt ?_
  (repeat' (first | simp (maxSteps := 2000000) -implicitDefEqProofs only [A_clavigerref4_Inner, lr, lr2, oO, oN, oG, oNG, oM, oF, oL, rg, ci, seval, resAll, resL, resV, blkAt, undef, fillV, evParts, footOp, wrOp, chk, disj] | split | ((first | apply ck_call | apply cfk_call); (first | (apply call_new (rnumber_C n hn) cll cll) | (apply call_roA (rkeyed_C k (.of (numF n)) (by rw [row_l_of, numF_len]; decide)); (simp [ids_nil, ids_cons, ids_sc, ids_agg, ids_dg, ids_bs, ids_row, ids_ints, ids_sref, ids_ref, ids_sl, blkAt] <;> fail); (repeat' (first | exact args_n | apply args_c | (first | exact arg_closed _ cl | (refine arg_rowA rfl mem ?_; (first | rfl | omega | (simp [bn_len] <;> fail) | (simp [bn_len]; omega))) | (refine arg_row rfl mem ?_; (first | rfl | omega | (simp [bn_len] <;> fail) | (simp [bn_len]; omega))) | (refine arg_fld mem ?_ ?_; (first | rfl | omega | (simp [bn_len] <;> fail) | (simp [bn_len]; omega)); (simp only [blkAt, List.getD_cons_zero, List.getD_cons_succ, Option.bind_some, rd_sE] <;> fail))))); (first | exact cl | exact cll); (first | exact nr | exact nrl))))))
  refine out_eq rfl ?_; simp [Closed, dg_closed]
def closeF (k : Bn 16) (n : Nat) (to : UInt8) (t : List UInt8) : List UInt8 := numF n ++ sealF (innerF k n) n [to] t
theorem close_len (k : Bn 16) (n : Nat) (to : UInt8) (t : List UInt8) (h : t.length ≤ 8192) : (closeF k n to t).length = t.length + 16 := by
  rw [closeF, List.length_append, numF_len, seal_len _ _ _ _ h]; omega
theorem closeO_C (k : Bn 16) (n : Nat) (to : UInt8) (t : Row) (h : t.l.length ≤ 8176) : C Tryz.prog 32 [.agg (dg k), vi .u64 n, vi .u8 (to.toNat : Int), rowV t] [] (.tup [.sref 0 0 (closeF k n to t.l).length 1, vi .i64 0]) [some (bs (closeF k n to t.l))] := by
  refine C_of mixed Tryz.func32 A_envelope_Close_ok A_envelope_Close_res _ A_envelope_Close_nt ?_
  have c1 : ¬ (t.l.length : Int) > 8176 := by omega
  have sl := seal_len (innerF k n) n [to] t.l (by omega)
  have hs : Sm (numF n) (t.l.length + 8) := by simp only [Sm, numF_len]; omega
  (repeat' (first | simp (maxSteps := 2000000) -implicitDefEqProofs only [A_envelope_Close, c1, sl, hs, numF_len, by8_nat, lr, lr2, oO, oN, oG, oNG, oM, oF, oL, rg, ci, seval, resAll, resL, resV, blkAt, undef, fillV, evParts, footOp, wrOp, chk, disj] | split | ((first | apply ck_call | apply cfk_call); (first | (apply call_new (number_C n) cll cll) | (apply call_pure (inner_C k n) cll cl) | (apply call_roA_new (seal_C (innerF k n) n (.of [to]) t (by rw [row_l_of]; simp) (by omega)); (simp [ids_nil, ids_cons, ids_sc, ids_agg, ids_dg, ids_bs, ids_row, ids_ints, ids_sref, ids_ref, ids_sl, blkAt] <;> fail); (repeat' (first | exact args_n | apply args_c | (first | exact arg_closed _ cl | (refine arg_rowA rfl mem ?_; (first | rfl | omega | (simp [bn_len, sl] <;> fail) | (simp [bn_len, sl]; omega))) | (refine arg_row rfl mem ?_; (first | rfl | omega | (simp [bn_len, sl] <;> fail) | (simp [bn_len, sl]; omega))) | (refine arg_fld mem ?_ ?_; (first | rfl | omega | (simp [bn_len, sl] <;> fail) | (simp [bn_len, sl]; omega)); (simp only [blkAt, List.getD_cons_zero, List.getD_cons_succ, Option.bind_some, rd_sE] <;> fail))))); (first | exact cl | exact cll); (first | exact nr | exact nrl))))))
  exact out_rowT rfl trivial (bs_closed _)
theorem rcloseO_C (k : Bn 16) (n : Nat) (hn : n < 18446744073709551616) (to : UInt8) (t : Row) (h : t.l.length ≤ 8176) : C Tryz.prog 15 [.agg (dg k), vi .u64 n, vi .u8 (to.toNat : Int), rowV t] [] (.tup [.sref 0 0 (closeF k n to t.l).length 1, vi .i64 0]) [some (bs (closeF k n to t.l))] := by
  refine C_of mixed Tryz.func15 A_clavigerref4_Close_ok A_clavigerref4_Close_res _ A_clavigerref4_Close_nt ?_
  have c1 : ¬ (t.l.length : Int) > 8176 := by omega
  have sl := seal_len (innerF k n) n [to] t.l (by omega)
  have hs : Sm (numF n) (t.l.length + 8) := by simp only [Sm, numF_len]; omega
  (repeat' (first | simp (maxSteps := 2000000) -implicitDefEqProofs only [A_clavigerref4_Close, c1, sl, hs, numF_len, by8_nat, lr, lr2, oO, oN, oG, oNG, oM, oF, oL, rg, ci, seval, resAll, resL, resV, blkAt, undef, fillV, evParts, footOp, wrOp, chk, disj] | split | ((first | apply ck_call | apply cfk_call); (first | (apply call_new (rnumber_C n hn) cll cll) | (apply call_pure (rinner_C k n hn) cll cl) | (apply call_roA_new (rseal_C (innerF k n) n hn (.of [to]) t (by rw [row_l_of]; simp) (by omega)); (simp [ids_nil, ids_cons, ids_sc, ids_agg, ids_dg, ids_bs, ids_row, ids_ints, ids_sref, ids_ref, ids_sl, blkAt] <;> fail); (repeat' (first | exact args_n | apply args_c | (first | exact arg_closed _ cl | (refine arg_rowA rfl mem ?_; (first | rfl | omega | (simp [bn_len, sl] <;> fail) | (simp [bn_len, sl]; omega))) | (refine arg_row rfl mem ?_; (first | rfl | omega | (simp [bn_len, sl] <;> fail) | (simp [bn_len, sl]; omega))) | (refine arg_fld mem ?_ ?_; (first | rfl | omega | (simp [bn_len, sl] <;> fail) | (simp [bn_len, sl]; omega)); (simp only [blkAt, List.getD_cons_zero, List.getD_cons_succ, Option.bind_some, rd_sE] <;> fail))))); (first | exact cl | exact cll); (first | exact nr | exact nrl))))))
  exact out_rowT rfl trivial (bs_closed _)
theorem numB8_lt (l : List UInt8) (i : Nat) (h : i < 8) : numB (l.take i) * 256 + 256 ≤ 18446744073709551616 := by
  have lt := numB_lt (l.take i)
  have h7 : (256 : Nat) ^ (l.take i).length ≤ 256 ^ 7 := Nat.pow_le_pow_right (by decide) (by rw [List.length_take]; omega)
  have : (256 : Nat) ^ 7 = 72057594037927936 := by decide
  omega
theorem numB8 (l : List UInt8) : numB (l.take 8) < 18446744073709551616 := by
  have lt := numB_lt (l.take 8)
  have h8 : (256 : Nat) ^ (l.take 8).length ≤ 256 ^ 8 := Nat.pow_le_pow_right (by decide) (by rw [List.length_take]; omega)
  have : (256 : Nat) ^ 8 = 18446744073709551616 := by decide
  omega
theorem seed_C (b : Row) (h : 8 ≤ b.l.length) : C Tryz.prog 67 [rowV b] [] (vi .u64 (numB (b.l.take 8) : Nat)) [] := by
  refine C_of mixed Tryz.func67 A_envelope_seed_ok A_envelope_seed_res _ A_envelope_seed_nt ?_
  have d8 : (8 : Int) ≤ b.l.length := by omega
  have el : (b.cut 0 8).l = b.l.take 8 := by rw [cut_l]; simp
  have ll : (b.l.take 8).length = 8 := by rw [List.length_take]; omega
  (repeat' (first | simp (maxSteps := 2000000) -implicitDefEqProofs only [A_envelope_seed, d8, el, ll, lr, lr2, oO, oN, oG, oNG, oM, oF, oL, rg, ci, seval, resAll, resL, resV, blkAt, undef, fillV, evParts, footOp, wrOp, chk, disj] | split))
  generalize b.cut 0 8 = r at el ⊢
  rw [← el] at ll ⊢
  generalize hl : r.l = l at ll ⊢
  refine wk_loop (fun m S H => ∃ i : Nat, i ≤ 8 ∧ m = 8 - i ∧ S = (.dead :: .dead :: .dead :: vi .u64 (numB (l.take i)) :: .dead :: .dead :: .dead :: rowV r :: vi .i64 8 :: vi .i64 i :: .dead :: .dead :: .dead :: .dead :: .dead :: .dead :: .dead :: .dead :: .dead :: .dead :: []) ∧ H = []) 8 ⟨0, Nat.zero_le _, rfl, rfl, rfl⟩ (by refine .ren _ _ _ [] (by decide) (by intro k h; first | exact absurd h (Nat.not_lt_zero k) | (simp at h; done) | (rcases k with _ | _ | _ | k <;> first | rfl | (exfalso; omega) | (simp at h; done))) ?_ ?_ <;> simp [KeepS, KeepH, ArgRel, ArgRelL, argL_cl, arg_cl, row_l_of, row_l_nil, bn_len, blkAt, numB_nil]) ?_
  rintro m S H ⟨i, hi, rfl, rfl, rfl⟩ J hJ
  have d0 : (0 : Int) ≤ i := by omega
  by_cases hi8 : i < 8
  · have d1 : (i : Int) < 8 := by omega
    have w1 : IntKind.i64.wrap ((i : Int) + 1) = ((i + 1 : Nat) : Int) := by rw [wrap_id _ (by omega) (by omega)]; omega
    have e : l.take (i + 1) = l.take i ++ [l.getD i 0] := by rw [List.take_add_one]; simp [List.getElem?_eq_getElem (show i < l.length by omega)]
    have hlt := numB8_lt l i hi8
    have sh : evBin .shl (.sc (.int .u64 (numB (l.take i) : Int))) (.sc (.int .u64 8)) = some (.sc (.int .u64 ((numB (l.take i) * 256 % 18446744073709551616 : Nat) : Int))) := shl_u64 .u64 (numB (l.take i)) 8 (by decide) (by decide)
    have hb := (l.getD i 0).toNat_lt
    have wb : IntKind.u64.wrap ((l.getD i 0).toNat : Int) = ((l.getD i 0).toNat : Int) := IntWalk.u64_in _ ⟨by omega, by omega⟩
    have eo : numB (l.take i) * 256 % 18446744073709551616 + (l.getD i 0).toNat = numB (l.take (i + 1)) := by rw [Nat.mod_eq_of_lt (by omega), e, numB_snoc]
    have og := or64 (numB (l.take i)) (l.getD i 0)
    rw [eo] at og
    (repeat' (first | simp (maxSteps := 2000000) -implicitDefEqProofs only [A_envelope_seed_L0, d0, d1, hl, ll, w1, sh, wb, og, hi8, rd_bs_drop, lr, lr2, oO, oN, oG, oNG, oM, oF, oL, rg, ci, seval, resAll, resL, resV, blkAt, undef, fillV, evParts, footOp, wrOp, chk, disj] | split))
    exact hJ _ _ _ _ _ (by omega) ⟨i + 1, by omega, rfl, rfl, rfl⟩ (by refine .ren _ _ _ [] (by decide) (by intro k h; first | exact absurd h (Nat.not_lt_zero k) | (simp at h; done) | (rcases k with _ | _ | _ | k <;> first | rfl | (exfalso; omega) | (simp at h; done))) ?_ ?_ <;> simp [KeepS, KeepH, ArgRel, ArgRelL, argL_cl, arg_cl, row_l_of, row_l_nil, bn_len, blkAt])
  · obtain rfl : i = 8 := by omega
    rw [List.take_of_length_le (by omega)]
    (repeat' (first | simp (maxSteps := 2000000) -implicitDefEqProofs only [A_envelope_seed_L0, K_envelope_seed_L0, lr, lr2, oO, oN, oG, oNG, oM, oF, oL, rg, ci, seval, resAll, resL, resV, blkAt, undef, fillV, evParts, footOp, wrOp, chk, disj] | split))
    exact out_eq rfl trivial
theorem rseed_C (b : Row) (h : 8 ≤ b.l.length) : C Tryz.prog 51 [rowV b] [] (vi .u64 (numB (b.l.take 8) : Nat)) [] := by
  refine C_of mixed Tryz.func51 A_clavigerref4_Seed_ok A_clavigerref4_Seed_res _ A_clavigerref4_Seed_nt ?_
  generalize hl : b.l = l at h ⊢
  (repeat' (first | simp (maxSteps := 2000000) -implicitDefEqProofs only [A_clavigerref4_Seed, lr, lr2, oO, oN, oG, oNG, oM, oF, oL, rg, ci, seval, resAll, resL, resV, blkAt, undef, fillV, evParts, footOp, wrOp, chk, disj] | split))
  refine wk_loop (fun m S H => ∃ i : Nat, i ≤ 8 ∧ m = 8 - i ∧ S = (rowV b :: .dead :: .dead :: vi .u64 (numB (l.take i)) :: vi .i64 i :: .dead :: .dead :: .dead :: .dead :: .dead :: .dead :: .dead :: .dead :: .dead :: .dead :: .dead :: .dead :: .dead :: []) ∧ H = []) 8 ⟨0, Nat.zero_le _, rfl, rfl, rfl⟩ (by refine .ren _ _ _ [] (by decide) (by intro k h; first | exact absurd h (Nat.not_lt_zero k) | (simp at h; done) | (rcases k with _ | _ | _ | k <;> first | rfl | (exfalso; omega) | (simp at h; done))) ?_ ?_ <;> simp [KeepS, KeepH, ArgRel, ArgRelL, argL_cl, arg_cl, row_l_of, row_l_nil, bn_len, blkAt, numB_nil]) ?_
  rintro m S H ⟨i, hi, rfl, rfl, rfl⟩ J hJ
  have d0 : (0 : Int) ≤ i := by omega
  by_cases hi8 : i < 8
  · have d1 : (i : Int) < 8 := by omega
    have d2 : (i : Int) < l.length := by omega
    have d3 : i < l.length := by omega
    have w1 : IntKind.i64.wrap ((i : Int) + 1) = ((i + 1 : Nat) : Int) := by rw [wrap_id _ (by omega) (by omega)]; omega
    have e : l.take (i + 1) = l.take i ++ [l.getD i 0] := by rw [List.take_add_one]; simp [List.getElem?_eq_getElem (show i < l.length by omega)]
    have hlt := numB8_lt l i hi8
    have hb := (l.getD i 0).toNat_lt
    have wb : IntKind.u64.wrap ((l.getD i 0).toNat : Int) = ((l.getD i 0).toNat : Int) := IntWalk.u64_in _ ⟨by omega, by omega⟩
    have wm : IntKind.u64.wrap ((numB (l.take i) : Int) * 256) = ((numB (l.take i) * 256 : Nat) : Int) := by rw [IntWalk.u64_in _ ⟨by omega, by omega⟩]; omega
    have wa : IntKind.u64.wrap (((numB (l.take i) * 256 : Nat) : Int) + ((l.getD i 0).toNat : Int)) = ((numB (l.take (i + 1)) : Nat) : Int) := by
      rw [e, numB_snoc, IntWalk.u64_in _ ⟨by omega, by omega⟩]; omega
    (repeat' (first | simp (maxSteps := 2000000) -implicitDefEqProofs only [A_clavigerref4_Seed_L0, d0, d1, d2, d3, hl, w1, wb, wm, wa, hi8, rd_bs_drop, lr, lr2, oO, oN, oG, oNG, oM, oF, oL, rg, ci, seval, resAll, resL, resV, blkAt, undef, fillV, evParts, footOp, wrOp, chk, disj] | split))
    exact hJ _ _ _ _ _ (by omega) ⟨i + 1, by omega, rfl, rfl, rfl⟩ (by refine .ren _ _ _ [] (by decide) (by intro k h; first | exact absurd h (Nat.not_lt_zero k) | (simp at h; done) | (rcases k with _ | _ | _ | k <;> first | rfl | (exfalso; omega) | (simp at h; done))) ?_ ?_ <;> simp [KeepS, KeepH, ArgRel, ArgRelL, argL_cl, arg_cl, row_l_of, row_l_nil, bn_len, blkAt])
  · obtain rfl : i = 8 := by omega
    (repeat' (first | simp (maxSteps := 2000000) -implicitDefEqProofs only [A_clavigerref4_Seed_L0, K_clavigerref4_Seed_L0, lr, lr2, oO, oN, oG, oNG, oM, oF, oL, rg, ci, seval, resAll, resL, resV, blkAt, undef, fillV, evParts, footOp, wrOp, chk, disj] | split))
    exact out_eq rfl trivial
end Go.Proofs.YtfpoebmihjbknaaGreat.VA
