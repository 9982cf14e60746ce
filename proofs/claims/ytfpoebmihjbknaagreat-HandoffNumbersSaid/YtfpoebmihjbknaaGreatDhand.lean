/- Handoff: letters are opened. -/
import Derived.Test.YtfpoebmihjbknaaGreatChand
import Derived.Test.YtfpoebmihjbknaaGreatVC
set_option linter.unusedVariables false
set_option linter.unusedSimpArgs false
set_option maxRecDepth 100000
namespace Go.Proofs.YtfpoebmihjbknaaGreat.VA
open Go
attribute [local irreducible] WK NK XK TK RK FK CK CFK CallRel C
attribute [local irreducible] putR sealF textF fits recS RightR closeF
theorem env_cases (k : Bn 16) (to : UInt8) (b : Row) :
    (∃ e : Int, e ≠ 0 ∧ C Tryz.prog 49 [.agg (dg k), vi .u8 (to.toNat : Int), rowV b] [] (.tup [vnil, vi .i64 e]) [] ∧ C Tryz.prog 20 [.agg (dg k), vi .u8 (to.toNat : Int), rowV b] [] (.tup [vnil, vi .i64 e]) []) ∨
    (C Tryz.prog 49 [.agg (dg k), vi .u8 (to.toNat : Int), rowV b] [] (.tup [vnil, vi .i64 0]) [] ∧ C Tryz.prog 20 [.agg (dg k), vi .u8 (to.toNat : Int), rowV b] [] (.tup [rowV (.of []), vi .i64 0]) []) ∨
    (∃ t : List UInt8, t ≠ [] ∧ t.length ≤ 8192 ∧ C Tryz.prog 49 [.agg (dg k), vi .u8 (to.toNat : Int), rowV b] [] (.tup [rowV (.of t), vi .i64 0]) [] ∧ C Tryz.prog 20 [.agg (dg k), vi .u8 (to.toNat : Int), rowV b] [] (.tup [rowV (.of t), vi .i64 0]) []) := by
  by_cases h1 : b.l.length < 16
  · exact .inl ⟨12, by decide, openShort_C k to b h1, uncShort_C k to b h1⟩
  · by_cases h2 : 8192 < b.l.length
    · exact .inl ⟨3, by decide, openLong_C k to b h2, uncLong_C k to b h2⟩
    · by_cases h : lfits k to b.l
      · have o := openGood_C k to b (by omega) (by omega) h
        have u := uncGood_C k to b (by omega) (by omega) h
        have ld : (b.l.drop 8).length = b.l.length - 8 := List.length_drop
        have tl := text_len (lkey k b.l) (numB (b.l.take 8)) (b.l.drop 8) (by omega)
        unfold openV at o
        by_cases h8 : (b.l.drop 8).length = 8
        · rw [if_pos h8] at o
          rw [text_8 _ _ _ h8] at u
          exact .inr (.inl ⟨o, u⟩)
        · rw [if_neg h8] at o
          refine .inr (.inr ⟨_, fun e => ?_, ?_, o, u⟩)
          · rw [e] at tl; simp only [List.length_nil] at tl; omega
          · rw [tl]; omega
      · exact .inl ⟨30, by decide, openBad_C k to b (by omega) (by omega) h, uncBad_C k to b (by omega) (by omega) h⟩
theorem env_back (k : Bn 16) (n : Nat) (hn : n < 18446744073709551616) (to : UInt8) (t : List UInt8) (h0 : t ≠ []) (h : t.length ≤ 8176) :
    C Tryz.prog 49 [.agg (dg k), vi .u8 (to.toNat : Int), rowV (.of (closeF k n to t))] [] (.tup [rowV (.of t), vi .i64 0]) [] := by
  obtain ⟨r, hr, hc⟩ := opened_C k n hn to t h (.of (closeF k n to t)) (row_l_of _)
  have ld : ((closeF k n to t).drop 8).length = t.length + 8 := by rw [List.length_drop, close_len k n to t (by omega)]; omega
  have tp : 0 < t.length := List.length_pos_iff.2 h0
  cases r with
  | nil => exact absurd hr.symm h0
  | of l => rwa [show l = t from hr] at hc
theorem cut1 (t : List UInt8) : (Row.of t).cut 1 t.length = .of (t.drop 1) := by
  show Row.of ((t.drop 1).take (t.length - 1)) = _
  rw [List.take_of_length_le (by rw [List.length_drop]; omega)]
section
variable (k : Bn 16) (to : Int) (b : Row)
theorem hopenE_C (e : Int) (he : e ≠ 0) (c : C Tryz.prog 49 [.agg (dg k), vi .u8 ((tb 64 to).toNat : Int), rowV b] [] (.tup [vnil, vi .i64 e]) []) :
    C Tryz.prog 19 [.agg (dg k), vi .i64 to, rowV b] [] (.tup [.agg (cPcl Pcl.zero), vi .i64 e]) [] := by
  have wt := tb_eq 64 to
  refine C_of mixed Tryz.func19 A_handoff_Open_ok A_handoff_Open_res _ A_handoff_Open_nt ?_
  (repeat' (first | simp (maxSteps := 2000000) -implicitDefEqProofs only [A_handoff_Open, wt, he, len_lst, cells_lst, rk_ext, fk_ext, sm_c, sm_a, lr_api, lr_keep, lr_hand, lr, lr2, oO, oN, oG, oNG, oM, oF, oL, rg, ci, seval, resAll, resL, resV, blkAt, undef, fillV, evParts, footOp, wrOp, chk, disj] | split | ((first | apply ck_call | apply cfk_call); (first | (apply call_pure (c) cll cl)))))
  exact out_eq rfl cl
theorem hopen0_C (c : C Tryz.prog 49 [.agg (dg k), vi .u8 ((tb 64 to).toNat : Int), rowV b] [] (.tup [vnil, vi .i64 0]) []) :
    C Tryz.prog 19 [.agg (dg k), vi .i64 to, rowV b] [] (.tup [.agg (cPcl Pcl.zero), vi .i64 12]) [] := by
  have wt := tb_eq 64 to
  refine C_of mixed Tryz.func19 A_handoff_Open_ok A_handoff_Open_res _ A_handoff_Open_nt ?_
  (repeat' (first | simp (maxSteps := 2000000) -implicitDefEqProofs only [A_handoff_Open, wt, len_lst, cells_lst, rk_ext, fk_ext, sm_c, sm_a, lr_api, lr_keep, lr_hand, lr, lr2, oO, oN, oG, oNG, oM, oF, oL, rg, ci, seval, resAll, resL, resV, blkAt, undef, fillV, evParts, footOp, wrOp, chk, disj] | split | ((first | apply ck_call | apply cfk_call); (first | (apply call_pure (c) cll cl)))))
  exact out_eq rfl cl
theorem hopenM_C (t : List UInt8) (h0 : t ≠ []) (h1 : ¬ memb ((t.getD 0 0).toNat : Int)) (c : C Tryz.prog 49 [.agg (dg k), vi .u8 ((tb 64 to).toNat : Int), rowV b] [] (.tup [rowV (.of t), vi .i64 0]) []) :
    C Tryz.prog 19 [.agg (dg k), vi .i64 to, rowV b] [] (.tup [.agg (cPcl Pcl.zero), vi .i64 12]) [] := by
  have wt := tb_eq 64 to
  have tp : 0 < t.length := List.length_pos_iff.2 h0
  have c1 : ¬ (t.length : Int) < 1 := by omega
  have c2 : (0 : Int) < t.length := by omega
  have g := rd_bs0 t tp
  have hb := (t.getD 0 0).toNat_lt
  have wb : IntKind.i64.wrap ((t.getD 0 0).toNat : Int) = ((t.getD 0 0).toNat : Int) := wrap_id _ (by omega) (by omega)
  refine C_of mixed Tryz.func19 A_handoff_Open_ok A_handoff_Open_res _ A_handoff_Open_nt ?_
  (repeat' (first | simp (maxSteps := 2000000) -implicitDefEqProofs only [A_handoff_Open, wt, c1, c2, tp, g, wb, len_lst, cells_lst, rk_ext, fk_ext, sm_c, sm_a, lr_api, lr_keep, lr_hand, lr, lr2, oO, oN, oG, oNG, oM, oF, oL, rg, ci, seval, resAll, resL, resV, blkAt, undef, fillV, evParts, footOp, wrOp, chk, disj] | split | ((first | apply ck_call | apply cfk_call); (first | (apply call_pure (c) cll cl) | (apply call_pure (hmemberF_C _ h1) cll cl)))))
  exact out_eq rfl cl
theorem hopenN_C (t : List UInt8) (h0 : t ≠ []) (h1 : memb ((t.getD 0 0).toNat : Int)) (h2 : ¬ (R3 (recS (rd0 (.of (t.drop 1)))) ∧ (recS (rd0 (.of (t.drop 1)))).x.kind = 3))
    (c : C Tryz.prog 49 [.agg (dg k), vi .u8 ((tb 64 to).toNat : Int), rowV b] [] (.tup [rowV (.of t), vi .i64 0]) []) :
    C Tryz.prog 19 [.agg (dg k), vi .i64 to, rowV b] [] (.tup [.agg (cPcl Pcl.zero), vi .i64 12]) [] := by
  have wt := tb_eq 64 to
  have tp : 0 < t.length := List.length_pos_iff.2 h0
  have c1 : ¬ (t.length : Int) < 1 := by omega
  have c2 : (0 : Int) < t.length := by omega
  have c3 : (1 : Int) ≤ t.length := by omega
  have g := rd_bs0 t tp
  have hb := (t.getD 0 0).toNat_lt
  have wb : IntKind.i64.wrap ((t.getD 0 0).toNat : Int) = ((t.getD 0 0).toNat : Int) := wrap_id _ (by omega) (by omega)
  have e1 := cut1 t
  have tr := toRecord_C (.of (t.drop 1))
  generalize recS (rd0 (.of (t.drop 1))) = s at *
  by_cases h3 : R3 s
  · have h4 : ¬ s.x.kind = 3 := fun h4 => h2 ⟨h3, h4⟩
    rw [recOut_yes h3] at tr
    refine C_of mixed Tryz.func19 A_handoff_Open_ok A_handoff_Open_res _ A_handoff_Open_nt ?_
    (repeat' (first | simp (maxSteps := 2000000) -implicitDefEqProofs only [A_handoff_Open, wt, c1, c2, c3, tp, g, wb, e1, h4, len_lst, cells_lst, rk_ext, fk_ext, sm_c, sm_a, lr_api, lr_keep, lr_hand, lr, lr2, oO, oN, oG, oNG, oM, oF, oL, rg, ci, seval, resAll, resL, resV, blkAt, undef, fillV, evParts, footOp, wrOp, chk, disj] | split | ((first | apply ck_call | apply cfk_call); (first | (apply call_pure (c) cll cl) | (apply call_pure (hmemberT_C _ h1) cll cl) | (apply call_pure (tr) cll cl)))))
    exact out_eq rfl cl
  · rw [recOut_no h3] at tr
    refine C_of mixed Tryz.func19 A_handoff_Open_ok A_handoff_Open_res _ A_handoff_Open_nt ?_
    (repeat' (first | simp (maxSteps := 2000000) -implicitDefEqProofs only [A_handoff_Open, wt, c1, c2, c3, tp, g, wb, e1, len_lst, cells_lst, rk_ext, fk_ext, sm_c, sm_a, lr_api, lr_keep, lr_hand, lr, lr2, oO, oN, oG, oNG, oM, oF, oL, rg, ci, seval, resAll, resL, resV, blkAt, undef, fillV, evParts, footOp, wrOp, chk, disj] | split | ((first | apply ck_call | apply cfk_call); (first | (apply call_pure (c) cll cl) | (apply call_pure (hmemberT_C _ h1) cll cl) | (apply call_pure (tr) cll cl)))))
    exact out_eq rfl cl
theorem hopenT_C (t : List UInt8) (h0 : t ≠ []) (h1 : memb ((t.getD 0 0).toNat : Int)) (v : Rec) (hk : v.kind = 3)
    (tr : C Tryz.prog 50 [rowV (.of (t.drop 1))] [] (.tup [.agg (cRec v), vi .i64 0]) [])
    (c : C Tryz.prog 49 [.agg (dg k), vi .u8 ((tb 64 to).toNat : Int), rowV b] [] (.tup [rowV (.of t), vi .i64 0]) []) :
    C Tryz.prog 19 [.agg (dg k), vi .i64 to, rowV b] [] (.tup [.agg (cPcl ⟨((t.getD 0 0).toNat : Int), v.shard, v.epoch, v.vaults⟩), vi .i64 0]) [] := by
  have wt := tb_eq 64 to
  have tp : 0 < t.length := List.length_pos_iff.2 h0
  have c1 : ¬ (t.length : Int) < 1 := by omega
  have c2 : (0 : Int) < t.length := by omega
  have c3 : (1 : Int) ≤ t.length := by omega
  have g := rd_bs0 t tp
  have hb := (t.getD 0 0).toNat_lt
  have wb : IntKind.i64.wrap ((t.getD 0 0).toNat : Int) = ((t.getD 0 0).toNat : Int) := wrap_id _ (by omega) (by omega)
  have e1 := cut1 t
  generalize t.getD 0 0 = t0 at *
  refine C_of mixed Tryz.func19 A_handoff_Open_ok A_handoff_Open_res _ A_handoff_Open_nt ?_
  (repeat' (first | simp (maxSteps := 2000000) -implicitDefEqProofs only [A_handoff_Open, wt, c1, c2, c3, tp, g, wb, e1, hk, len_lst, cells_lst, rk_ext, fk_ext, sm_c, sm_a, lr_api, lr_keep, lr_hand, lr, lr2, oO, oN, oG, oNG, oM, oF, oL, rg, ci, seval, resAll, resL, resV, blkAt, undef, fillV, evParts, footOp, wrOp, chk, disj] | split | ((first | apply ck_call | apply cfk_call); (first | (apply call_pure (c) cll cl) | (apply call_pure (hmemberT_C _ h1) cll cl) | (apply call_pure (tr) cll cl)))))
  exact out_eq rfl cl
theorem thxE_C (e : Int) (he : e ≠ 0) (c : C Tryz.prog 49 [.agg (dg k), vi .u8 ((tb 96 to).toNat : Int), rowV b] [] (.tup [vnil, vi .i64 e]) []) :
    C Tryz.prog 23 [.agg (dg k), vi .i64 to, rowV b] [] (.tup [.agg (cTok Tok.zero), vi .i64 e]) [] := by
  have wt := tb_eq 96 to
  refine C_of mixed Tryz.func23 A_handoff_Thanked_ok A_handoff_Thanked_res _ A_handoff_Thanked_nt ?_
  (repeat' (first | simp (maxSteps := 2000000) -implicitDefEqProofs only [A_handoff_Thanked, wt, he, len_lst, cells_lst, rk_ext, fk_ext, sm_c, sm_a, lr_api, lr_keep, lr_hand, lr, lr2, oO, oN, oG, oNG, oM, oF, oL, rg, ci, seval, resAll, resL, resV, blkAt, undef, fillV, evParts, footOp, wrOp, chk, disj] | split | ((first | apply ck_call | apply cfk_call); (first | (apply call_pure (c) cll cl)))))
  exact out_eq rfl cl
theorem thx0_C (c : C Tryz.prog 49 [.agg (dg k), vi .u8 ((tb 96 to).toNat : Int), rowV b] [] (.tup [vnil, vi .i64 0]) []) :
    C Tryz.prog 23 [.agg (dg k), vi .i64 to, rowV b] [] (.tup [.agg (cTok Tok.zero), vi .i64 12]) [] := by
  have wt := tb_eq 96 to
  refine C_of mixed Tryz.func23 A_handoff_Thanked_ok A_handoff_Thanked_res _ A_handoff_Thanked_nt ?_
  (repeat' (first | simp (maxSteps := 2000000) -implicitDefEqProofs only [A_handoff_Thanked, wt, len_lst, cells_lst, rk_ext, fk_ext, sm_c, sm_a, lr_api, lr_keep, lr_hand, lr, lr2, oO, oN, oG, oNG, oM, oF, oL, rg, ci, seval, resAll, resL, resV, blkAt, undef, fillV, evParts, footOp, wrOp, chk, disj] | split | ((first | apply ck_call | apply cfk_call); (first | (apply call_pure (c) cll cl)))))
  exact out_eq rfl cl
theorem thxL_C (t : List UInt8) (h0 : t.length ≠ 10) (c : C Tryz.prog 49 [.agg (dg k), vi .u8 ((tb 96 to).toNat : Int), rowV b] [] (.tup [rowV (.of t), vi .i64 0]) []) :
    C Tryz.prog 23 [.agg (dg k), vi .i64 to, rowV b] [] (.tup [.agg (cTok Tok.zero), vi .i64 12]) [] := by
  have wt := tb_eq 96 to
  have c1 : ¬ (t.length : Int) = 10 := by omega
  refine C_of mixed Tryz.func23 A_handoff_Thanked_ok A_handoff_Thanked_res _ A_handoff_Thanked_nt ?_
  (repeat' (first | simp (maxSteps := 2000000) -implicitDefEqProofs only [A_handoff_Thanked, wt, c1, len_lst, cells_lst, rk_ext, fk_ext, sm_c, sm_a, lr_api, lr_keep, lr_hand, lr, lr2, oO, oN, oG, oNG, oM, oF, oL, rg, ci, seval, resAll, resL, resV, blkAt, undef, fillV, evParts, footOp, wrOp, chk, disj] | split | ((first | apply ck_call | apply cfk_call); (first | (apply call_pure (c) cll cl)))))
  exact out_eq rfl cl
theorem zt_e : Tok.zero.epoch = 0 := rfl
def tokT (t : List UInt8) : Tok := ⟨((t.getD 0 0).toNat : Int), ((t.getD 1 0).toNat : Int), (numB (t.drop 2) : Nat)⟩
theorem thx_C (t : List UInt8) (h0 : t.length = 10) (c : C Tryz.prog 49 [.agg (dg k), vi .u8 ((tb 96 to).toNat : Int), rowV b] [] (.tup [rowV (.of t), vi .i64 0]) []) (w : Bool) (hw : C Tryz.prog 34 [.agg (cTok (tokT t))] [] (vb w) []) (r : V) (hr : r = if w = true then .tup [.agg (cTok (tokT t)), vi .i64 0] else .tup [.agg (cTok Tok.zero), vi .i64 12]) :
    C Tryz.prog 23 [.agg (dg k), vi .i64 to, rowV b] [] r [] := by
  have wt := tb_eq 96 to
  have g0 := rd_bs0 t (by omega)
  have g1 : rd none (bs (t.drop 1)) 0 = some (vi .u8 (t.getD 1 0).toNat) := rd_bs_drop t 1 (by omega)
  have c10 : (t.length : Int) = 10 := by omega
  have hb0 := (t.getD 0 0).toNat_lt
  have w0 : IntKind.i64.wrap ((t.getD 0 0).toNat : Int) = ((t.getD 0 0).toNat : Int) := wrap_id _ (by omega) (by omega)
  have hb1 := (t.getD 1 0).toNat_lt
  have w01 : IntKind.i64.wrap ((t.getD 1 0).toNat : Int) = ((t.getD 1 0).toNat : Int) := wrap_id _ (by omega) (by omega)
  have e2 : (Row.of t).cut 2 10 = .of (t.drop 2) := by
    show Row.of ((t.drop 2).take (10 - 2)) = _
    rw [List.take_of_length_le (by rw [List.length_drop]; omega)]
  have ll : (t.drop 2).length = 8 := by rw [List.length_drop]; omega
  unfold tokT at *
  generalize t.getD 0 0 = a at *
  generalize t.getD 1 0 = s at *
  refine C_of mixed Tryz.func23 A_handoff_Thanked_ok A_handoff_Thanked_res _ A_handoff_Thanked_nt ?_
  (repeat' (first | simp (maxSteps := 2000000) -implicitDefEqProofs only [A_handoff_Thanked, wt, h0, c10, g0, g1, w0, w01, e2, ll, len_lst, cells_lst, rk_ext, fk_ext, sm_c, sm_a, lr_api, lr_keep, lr_hand, lr, lr2, oO, oN, oG, oNG, oM, oF, oL, rg, ci, seval, resAll, resL, resV, blkAt, undef, fillV, evParts, footOp, wrOp, chk, disj] | split | ((first | apply ck_call | apply cfk_call); (first | (apply call_pure (c) cll cl)))))
  generalize t.drop 2 = l at *
  refine wk_loop (fun m S H => ∃ i : Nat, i ≤ 8 ∧ m = 8 - i ∧ S = (.dead :: .dead :: .dead :: .dead :: .dead :: .dead :: .ref 0 0 :: .dead :: .dead :: .dead :: .ref 1 0 :: .dead :: .dead :: .dead :: .dead :: .dead :: .dead :: .dead :: .dead :: .dead :: .dead :: .dead :: .dead :: .dead :: .dead :: .dead :: .dead :: .dead :: .dead :: .dead :: .dead :: .dead :: .dead :: .dead :: .dead :: .dead :: .dead :: .dead :: .dead :: .dead :: rowV (.of l) :: vi .i64 8 :: vi .i64 i :: .dead :: .dead :: .dead :: .dead :: .dead :: .dead :: .dead :: .dead :: .dead :: .dead :: .dead :: .dead :: .dead :: .dead :: .dead :: .dead :: []) ∧ H = [some (cTok Tok.zero), some (cTok ⟨(a.toNat : Int), (s.toNat : Int), (numB (l.take i) : Nat)⟩)]) 8 ⟨0, Nat.zero_le _, rfl, rfl, rfl⟩ (by refine .ren _ _ _ [1, 2] (by decide) (by intro k h; first | exact absurd h (Nat.not_lt_zero k) | (simp at h; done) | (rcases k with _ | _ | _ | k <;> first | rfl | (exfalso; omega) | (simp at h; done))) ?_ ?_ <;> simp [KeepS, KeepH, ArgRel, ArgRelL, argL_cl, arg_cl, row_l_of, row_l_nil, bn_len, blkAt, numB_nil, zt_e]) ?_
  rintro m S H ⟨i, hi, rfl, rfl, rfl⟩ J hJ
  have d0 : (0 : Int) ≤ i := by omega
  by_cases hi8 : i < 8
  · have d1 : (i : Int) < 8 := by omega
    have w1 : IntKind.i64.wrap ((i : Int) + 1) = ((i + 1 : Nat) : Int) := by rw [wrap_id _ (by omega) (by omega)]; omega
    have e : l.take (i + 1) = l.take i ++ [l.getD i 0] := by rw [List.take_add_one]; simp [List.getElem?_eq_getElem (show i < l.length by omega)]
    have hlt := numB8_lt l i hi8
    have sh : evBin .shl (.sc (.int .u64 (numB (l.take i) : Int))) (.sc (.int .u64 8)) = some (.sc (.int .u64 ((numB (l.take i) * 256 % 18446744073709551616 : Nat) : Int))) := shl_u64 .u64 (numB (l.take i)) 8 (by decide) (by decide)
    have hb := (l.getD i 0).toNat_lt
    have wb : IntKind.u64.wrap ((l.getD i 0).toNat : Int) = ((l.getD i 0).toNat : Int) := IntWalk.u64_in _ ⟨by omega, by omega⟩
    have eo : numB (l.take i) * 256 % 18446744073709551616 + (l.getD i 0).toNat = numB (l.take (i + 1)) := by rw [Nat.mod_eq_of_lt (by omega), e, numB_snoc]
    have og := or64 (numB (l.take i)) (l.getD i 0)
    rw [eo] at og
    (repeat' (first | simp (maxSteps := 2000000) -implicitDefEqProofs only [A_handoff_Thanked_L0, d0, d1, ll, w1, sh, wb, og, hi8, rd_bs_drop, len_lst, cells_lst, rk_ext, fk_ext, sm_c, sm_a, lr_api, lr_keep, lr_hand, lr, lr2, oO, oN, oG, oNG, oM, oF, oL, rg, ci, seval, resAll, resL, resV, blkAt, undef, fillV, evParts, footOp, wrOp, chk, disj] | split))
    exact hJ _ _ _ _ _ (by omega) ⟨i + 1, by omega, rfl, rfl, rfl⟩ (by refine .ren _ _ _ [0, 1] (by decide) (by intro k h; first | exact absurd h (Nat.not_lt_zero k) | (simp at h; done) | (rcases k with _ | _ | _ | k <;> first | rfl | (exfalso; omega) | (simp at h; done))) ?_ ?_ <;> simp [KeepS, KeepH, ArgRel, ArgRelL, argL_cl, arg_cl, row_l_of, row_l_nil, bn_len, blkAt])
  · obtain rfl : i = 8 := by omega
    rw [List.take_of_length_le (by omega)]
    cases w with
    | true =>
      obtain rfl := hr
      (repeat' (first | simp (maxSteps := 2000000) -implicitDefEqProofs only [A_handoff_Thanked_L0, K_handoff_Thanked_L0, len_lst, cells_lst, rk_ext, fk_ext, sm_c, sm_a, lr_api, lr_keep, lr_hand, lr, lr2, oO, oN, oG, oNG, oM, oF, oL, rg, ci, seval, resAll, resL, resV, blkAt, undef, fillV, evParts, footOp, wrOp, chk, disj] | split | ((first | apply ck_call | apply cfk_call); (first | (apply call_pure (hw) cll cl)))))
      exact out_eq rfl cl
    | false =>
      obtain rfl := hr
      (repeat' (first | simp (maxSteps := 2000000) -implicitDefEqProofs only [A_handoff_Thanked_L0, K_handoff_Thanked_L0, len_lst, cells_lst, rk_ext, fk_ext, sm_c, sm_a, lr_api, lr_keep, lr_hand, lr, lr2, oO, oN, oG, oNG, oM, oF, oL, rg, ci, seval, resAll, resL, resV, blkAt, undef, fillV, evParts, footOp, wrOp, chk, disj] | split | ((first | apply ck_call | apply cfk_call); (first | (apply call_pure (hw) cll cl)))))
      exact out_eq rfl cl
end
end Go.Proofs.YtfpoebmihjbknaaGreat.VA
