/- Journals: the document's Load, and both side by side (seat .Z). -/
import Derived.Test.YtmmaenfjnkoknaaGreatLjou2
import Derived.Test.YtmmaenfjnkoknaaGreatQjou
import Derived.Test.YtmmaenfjnkoknaaGreatVC
set_option linter.unusedVariables false
set_option linter.unusedSimpArgs false
set_option maxRecDepth 100000
namespace Go.Proofs.YtmmaenfjnkoknaaGreat.VA
open Go
attribute [local irreducible] WK NK XK TK RK FK CK CFK CallRel C
attribute [local irreducible] sealF textF fits sumF heldR rightR frec headF imgR
theorem rget_C (m : Rsk) (hm : m.ok) (n : Nat) (hn : n < 10) : C Tryz.prog 42 [.ref 0 0, vi .i64 n] [cRsk m]
    (.tup [rowV (m.now.getD n default).b, vb (m.now.getD n default).has]) [some (cRsk m)] := by
  refine C_of mixed Tryz.func42 A_clavigerref7_Disk_Get_ok A_clavigerref7_Disk_Get_res _ A_clavigerref7_Disk_Get_nt ?_
  have c1 : ¬ (n : Int) < 0 := by omega
  have c2 : ¬ (n : Int) ≥ 10 := by omega
  have c5 : (0 : Int) ≤ n := by omega
  have c6 : (n : Int) < 10 := by omega
  have r1 := rd_rsk_has m hm n hn
  have r2 := rd_rsk_b m hm n hn
  (repeat' (first | simp (maxSteps := 2000000) -implicitDefEqProofs only [A_clavigerref7_Disk_Get, c1, c2, c5, c6, r1, r2, len_lst, cells_lst, rk_ext, fk_ext, lrp, lr_api, lr_keep, lr_register, lr, lr2, oO, oN, oG, oNG, oM, oF, oL, rg, ci, seval, resAll, resL, resV, blkAt, undef, fillV, evParts, footOp, wrOp, chk, disj] | split))
  exact out_updE rfl rfl rfl cll cl
def rloadV (b : Nat) : Option (Row × List Rec) → V
  | none => .tup [vnil, vnil, vi .i64 30]
  | some (i, l) => .tup [rowV (if b = 0 then .nil else .of i.l), lstV cRec (lsOf l), vi .i64 0]
theorem rloadV_closed (b : Nat) : ∀ o, Closed (rloadV b o)
  | none => (cl : Closed (.tup [vnil, vnil, vi .i64 30]))
  | some (i, l) => (cl : Closed (.tup [rowV (if b = 0 then .nil else .of i.l), lstV cRec (lsOf l), vi .i64 0]))
instance (b : Nat) (o : Option (Row × List Rec)) : Cl (rloadV b o) := ⟨rloadV_closed b o⟩
theorem ropenI_C (k : Bn 16) (b : Nat) (hb : b < 18446744073709551616) (x : Row) (h : fits k b adI x.l) : C Tryz.prog 43 [.agg (dg k), vi .u64 b, rowV (.of adI), rowV x] [] (.tup [rowV (.of (textF k b x.l)), vi .i64 0]) [] := by
  have h' := h
  unfold fits at h'
  refine C_shutT (n := x.l.length - 8) (ropen_C k b hb (.of adI) x h) ?_ trivial
  rw [text_len k b x.l h'.2.1]
theorem rloadNo_C (k : Bn 16) (m : Rsk) (r : Rgr) (hr : rightR r = false) : C Tryz.prog 15 [.agg (dg k), .ref 0 0, .agg (cRgr r)] [cRsk m] (.tup [vnil, vnil, vi .i64 1]) [some (cRsk m)] := by
  have k1 := rright_C r
  rw [hr] at k1
  refine C_of mixed Tryz.func15 A_clavigerref10_Load_ok A_clavigerref10_Load_res _ A_clavigerref10_Load_nt ?_
  (repeat' (first | simp (maxSteps := 2000000) -implicitDefEqProofs only [A_clavigerref10_Load, len_lst, cells_lst, rk_ext, fk_ext, lrp, lr_api, lr_keep, lr_register, lr, lr2, oO, oN, oG, oNG, oM, oF, oL, rg, ci, seval, resAll, resL, resV, blkAt, undef, fillV, evParts, footOp, wrOp, chk, disj] | split | ((first | apply ck_call | apply cfk_call); (first | (apply call_pure (k1) cll cl)))))
  exact out_updE rfl rfl rfl cll cl
theorem loadNo_C (k : Bn 16) (d : Dsk) (r : Rgr) (hr : rightR r = false) : C Tryz.prog 14 [.agg (dg k), .ref 0 0, .agg (cRgr r)] [cDsk d] (.tup [vnil, vnil, vi .i64 1]) [some (cDsk d)] := by
  have k1 := right_C r
  rw [hr] at k1
  refine C_of mixed Tryz.func14 A_journal_Load_ok A_journal_Load_res _ A_journal_Load_nt ?_
  (repeat' (first | simp (maxSteps := 2000000) -implicitDefEqProofs only [A_journal_Load, len_lst, cells_lst, rk_ext, fk_ext, lrp, lr_api, lr_keep, lr_register, lr, lr2, oO, oN, oG, oNG, oM, oF, oL, rg, ci, seval, resAll, resL, resV, blkAt, undef, fillV, evParts, footOp, wrOp, chk, disj] | split | ((first | apply ck_call | apply cfk_call); (first | (apply call_pure (k1) cll cl)))))
  exact out_updE rfl rfl rfl cll cl
set_option maxHeartbeats 8000000 in
theorem rloadL_C (k : Bn 16) (m : Rsk) (hm : m.fine) (r : Rgr) (c b p N : Nat) (hc : r.count = c) (hc2 : c ≤ 1099511627776) (hbc : b ≤ c) (hb : r.base = b) (hN : N ≤ 8) (hheld : heldR r = (N : Int)) (img : Row) (h0 : Bn 16) (RV : V)
    (hV : (match ldN k (vwR m) b h0 N with | none => (.tup [vnil, vnil, vi .i64 30] : V) | some (l, h) => if h = r.head then .tup [rowV img, lstV cRec (lsOf l), vi .i64 0] else .tup [vnil, vnil, vi .i64 30]) = RV) (S0 : List V) (H0 : Heap)
    (hw : Weak 1 ⟨S0, H0⟩ ⟨(.dead :: .ref 0 0 :: .dead :: .ref 1 0 :: .dead :: .ref 2 0 :: .dead :: .dead :: .dead :: rowV img :: .ref 3 0 :: .dead :: .dead :: .dead :: .dead :: vnil :: vi .i64 0 :: .dead :: .dead :: .dead :: .dead :: .dead :: .dead :: .dead :: .dead :: .dead :: .dead :: .dead :: .dead :: .dead :: .dead :: .dead :: .dead :: .dead :: .dead :: .dead :: .dead :: .dead :: .dead :: .dead :: .dead :: .dead :: .dead :: .dead :: .dead :: .dead :: .dead :: .dead :: .dead :: .dead :: .dead :: .dead :: .dead :: .dead :: .dead :: .dead :: .dead :: .dead :: .dead :: .dead :: .dead :: .dead :: .dead :: .dead :: .dead :: .dead :: .dead :: .dead :: .dead :: .dead :: .dead :: .dead :: .dead :: .dead :: .dead :: .dead :: .dead :: .dead :: .dead :: .dead :: .dead :: .dead :: .dead :: .dead :: .dead :: .dead :: .dead :: .dead :: .dead :: .dead :: .dead :: .dead :: .dead :: .dead :: .dead :: .dead :: .dead :: .dead :: []), [some (cRsk m), some (dg k), some (cRgr r), some (dg h0)]⟩) :
    WK Tryz.prog 1 (Post [.tmp 6, .tmp 7, .tmp 8] 1 RV [some (cRsk m)]) (.loop A_clavigerref10_Load_L0) K_clavigerref10_Load_L0 S0 H0 := by
  have k2 := rheld_C r
  rw [hheld] at k2
  have hfail : ldN k (vwR m) b h0 N = none → RV = .tup [vnil, vnil, vi .i64 30] := fun h => by rw [← hV, h]
  refine wk_loop (fun mm S H => ∃ (i : Nat) (l : List Rec) (h : Bn 16), i ≤ N ∧ mm = N - i ∧ ldN k (vwR m) b h0 i = some (l, h) ∧
      (i = 0 ∧ S = (.dead :: .ref 0 0 :: .dead :: .ref 1 0 :: .dead :: .ref 2 0 :: .dead :: .dead :: .dead :: rowV img :: .ref 3 0 :: .dead :: .dead :: .dead :: .dead :: vnil :: vi .i64 i :: .dead :: .dead :: .dead :: .dead :: .dead :: .dead :: .dead :: .dead :: .dead :: .dead :: .dead :: .dead :: .dead :: .dead :: .dead :: .dead :: .dead :: .dead :: .dead :: .dead :: .dead :: .dead :: .dead :: .dead :: .dead :: .dead :: .dead :: .dead :: .dead :: .dead :: .dead :: .dead :: .dead :: .dead :: .dead :: .dead :: .dead :: .dead :: .dead :: .dead :: .dead :: .dead :: .dead :: .dead :: .dead :: .dead :: .dead :: .dead :: .dead :: .dead :: .dead :: .dead :: .dead :: .dead :: .dead :: .dead :: .dead :: .dead :: .dead :: .dead :: .dead :: .dead :: .dead :: .dead :: .dead :: .dead :: .dead :: .dead :: .dead :: .dead :: .dead :: .dead :: .dead :: .dead :: .dead :: .dead :: .dead :: .dead :: .dead :: .dead :: .dead :: []) ∧ H = [some (cRsk m), some (dg k), some (cRgr r), some (dg h)] ∨
       0 < i ∧ S = (.dead :: .ref 0 0 :: .dead :: .ref 1 0 :: .dead :: .ref 2 0 :: .dead :: .dead :: .dead :: rowV img :: .ref 3 0 :: .dead :: .dead :: .dead :: .dead :: .sref 4 0 i 47 :: vi .i64 i :: .dead :: .dead :: .dead :: .dead :: .dead :: .dead :: .dead :: .dead :: .dead :: .dead :: .dead :: .dead :: .dead :: .dead :: .dead :: .dead :: .dead :: .dead :: .dead :: .dead :: .dead :: .dead :: .dead :: .dead :: .dead :: .dead :: .dead :: .dead :: .dead :: .dead :: .dead :: .dead :: .dead :: .dead :: .dead :: .dead :: .dead :: .dead :: .dead :: .dead :: .dead :: .dead :: .dead :: .dead :: .dead :: .dead :: .dead :: .dead :: .dead :: .dead :: .dead :: .dead :: .dead :: .dead :: .dead :: .dead :: .dead :: .dead :: .dead :: .dead :: .dead :: .dead :: .dead :: .dead :: .dead :: .dead :: .dead :: .dead :: .dead :: .dead :: .dead :: .dead :: .dead :: .dead :: .dead :: .dead :: .dead :: .dead :: .dead :: .dead :: .dead :: []) ∧ H = [some (cRsk m), some (dg k), some (cRgr r), some (dg h), some (l.flatMap cRec)])) N
      ⟨0, [], h0, Nat.zero_le _, rfl, rfl, .inl ⟨rfl, rfl, rfl⟩⟩ hw ?_
  rintro mm S H ⟨i, l, h, hi, rfl, hld, hH⟩ J hJ
  have hll := ldN_len hld
  by_cases hin : i < N
  · have d1 : (i : Int) < N := by omega
    have w1 : IntKind.i64.wrap ((i : Int) + 1) = ((i + 1 : Nat) : Int) := by rw [wrap_id _ (by omega) (by omega)]; omega
    have w2 : IntKind.i64.wrap (2 + (i : Int)) = ((2 + i : Nat) : Int) := by rw [wrap_id _ (by omega) (by omega)]; omega
    have w3 : IntKind.u64.wrap (i : Int) = (i : Int) := IntWalk.u64_in _ ⟨by omega, by omega⟩
    have w4 : IntKind.u64.wrap ((b : Int) + i) = ((b + i : Nat) : Int) := by rw [IntWalk.u64_in _ ⟨by omega, by omega⟩]; omega
    have w5 : IntKind.u64.wrap (((b + i : Nat) : Int) + 1) = ((b + i + 1 : Nat) : Int) := by rw [IntWalk.u64_in _ ⟨by omega, by omega⟩]; omega
    have g := rget_C m hm.1 (2 + i) (by omega)
    have hx8 := hm.2 (2 + i)
    have hT := ldN_T hld
    have hF := ldN_F hld
    change _ ∧ _ → _ at hT
    simp only [vwR] at hT hF hfail
    generalize m.now.getD (2 + i) default = x at *
    have hbad : ldN k ⟨m.now, m.old, 0, 0, .nil⟩ b h0 (i + 1) = none → RV = .tup [vnil, vnil, vi .i64 30] := fun h => by
      have := ldN_none h (N - (i + 1))
      rw [show i + 1 + (N - (i + 1)) = N by omega] at this
      exact hfail this
    by_cases hx : x.has = true
    · rw [hx] at g
      by_cases hv : frecV k (b + i + 1) h x.b.l
      · have hS := hT ⟨hx, hv⟩
        have o := rfopenT_C k (b + i + 1) (by omega) h x.b hv
        have fh := rfhead_C h x.b (by omega)
        generalize (frec k (b + i + 1) x.b.l).x = y at *
        generalize headF h x.b.l = h' at *
        rcases hH with ⟨hi0, rfl, rfl⟩ | ⟨hi0, rfl, rfl⟩
        · have e1 : i + 1 = 1 := by omega
          have el : l = [] := List.length_eq_zero_iff.1 (by omega)
          rw [el, List.nil_append] at hS
          (repeat' (first | simp (maxSteps := 2000000) -implicitDefEqProofs only [A_clavigerref10_Load_L0, d1, w1, w2, w3, w4, w5, hb, blk_zRec, slB_st, len_lst, cells_lst, rk_ext, fk_ext, lrp, lr_api, lr_keep, lr_register, lr, lr2, oO, oN, oG, oNG, oM, oF, oL, rg, ci, seval, resAll, resL, resV, blkAt, undef, fillV, evParts, footOp, wrOp, chk, disj] | split | ((first | apply ck_call | apply cfk_call); (first | (apply call_pure (k2) cll cl) | (apply call_upd (g) rfl cll cll cll cl) | (apply call_pure (o) cll cl) | (apply call_pure (fh) cll cl)))))
          exact hJ _ _ _ _ _ (by omega) ⟨i + 1, _, _, by omega, rfl, hS, .inr ⟨by omega, rfl, rfl⟩⟩ (by refine .ren _ _ _ [0, 1, 2, 3, 6] (by decide) (by intro k h; first | exact absurd h (Nat.not_lt_zero k) | (simp at h; done) | (rcases k with _ | _ | _ | k <;> first | rfl | (exfalso; omega) | (simp at h; done))) ?_ ?_ <;> simp [KeepS, KeepH, ArgRel, ArgRelL, argL_cl, arg_cl, row_l_of, row_l_nil, bn_len, blkAt, e1, flat_closed cRec_closed])
        · have af := fun H id => app_fl cRec_len H l y id i 152 hll.symm (by omega) (by decide)
          (repeat' (first | simp (maxSteps := 2000000) -implicitDefEqProofs only [A_clavigerref10_Load_L0, d1, w1, w2, w3, w4, w5, hb, blk_zRec, slB_st, af, len_lst, cells_lst, rk_ext, fk_ext, lrp, lr_api, lr_keep, lr_register, lr, lr2, oO, oN, oG, oNG, oM, oF, oL, rg, ci, seval, resAll, resL, resV, blkAt, undef, fillV, evParts, footOp, wrOp, chk, disj] | split | ((first | apply ck_call | apply cfk_call); (first | (apply call_pure (k2) cll cl) | (apply call_upd (g) rfl cll cll cll cl) | (apply call_pure (o) cll cl) | (apply call_pure (fh) cll cl)))))
          exact hJ _ _ _ _ _ (by omega) ⟨i + 1, _, _, by omega, rfl, hS, .inr ⟨by omega, rfl, rfl⟩⟩ (by refine .ren _ _ _ [0, 1, 2, 3, 7] (by decide) (by intro k h; first | exact absurd h (Nat.not_lt_zero k) | (simp at h; done) | (rcases k with _ | _ | _ | k <;> first | rfl | (exfalso; omega) | (simp at h; done))) ?_ ?_ <;> simp [KeepS, KeepH, ArgRel, ArgRelL, argL_cl, arg_cl, row_l_of, row_l_nil, bn_len, blkAt, flat_closed cRec_closed])
      · have hR := hbad (hF fun h => hv h.2)
        clear hT hF
        by_cases hf : fits k (b + i + 1) h.1 x.b.l
        · have o := rfopenF_C k (b + i + 1) (by omega) h x.b hf (fun h3 => hv ⟨hf, h3⟩)
          rcases hH with ⟨hi0, rfl, rfl⟩ | ⟨hi0, rfl, rfl⟩
          · (repeat' (first | simp (maxSteps := 2000000) -implicitDefEqProofs only [A_clavigerref10_Load_L0, d1, w1, w2, w3, w4, w5, hb, blk_zRec, slB_st, K_clavigerref10_Load_L0, len_lst, cells_lst, rk_ext, fk_ext, lrp, lr_api, lr_keep, lr_register, lr, lr2, oO, oN, oG, oNG, oM, oF, oL, rg, ci, seval, resAll, resL, resV, blkAt, undef, fillV, evParts, footOp, wrOp, chk, disj] | split | ((first | apply ck_call | apply cfk_call); (first | (apply call_pure (k2) cll cl) | (apply call_upd (g) rfl cll cll cll cl) | (apply call_pure (o) cll cl)))))
            exact out_updE rfl rfl hR.symm cll (by rw [hR]; exact cl)
          · (repeat' (first | simp (maxSteps := 2000000) -implicitDefEqProofs only [A_clavigerref10_Load_L0, d1, w1, w2, w3, w4, w5, hb, blk_zRec, slB_st, K_clavigerref10_Load_L0, len_lst, cells_lst, rk_ext, fk_ext, lrp, lr_api, lr_keep, lr_register, lr, lr2, oO, oN, oG, oNG, oM, oF, oL, rg, ci, seval, resAll, resL, resV, blkAt, undef, fillV, evParts, footOp, wrOp, chk, disj] | split | ((first | apply ck_call | apply cfk_call); (first | (apply call_pure (k2) cll cl) | (apply call_upd (g) rfl cll cll cll cl) | (apply call_pure (o) cll cl)))))
            exact out_updE rfl rfl hR.symm cll (by rw [hR]; exact cl)
        · have o := rfopenE_C k (b + i + 1) (by omega) h x.b hf
          rcases hH with ⟨hi0, rfl, rfl⟩ | ⟨hi0, rfl, rfl⟩
          · (repeat' (first | simp (maxSteps := 2000000) -implicitDefEqProofs only [A_clavigerref10_Load_L0, d1, w1, w2, w3, w4, w5, hb, blk_zRec, slB_st, K_clavigerref10_Load_L0, len_lst, cells_lst, rk_ext, fk_ext, lrp, lr_api, lr_keep, lr_register, lr, lr2, oO, oN, oG, oNG, oM, oF, oL, rg, ci, seval, resAll, resL, resV, blkAt, undef, fillV, evParts, footOp, wrOp, chk, disj] | split | ((first | apply ck_call | apply cfk_call); (first | (apply call_pure (k2) cll cl) | (apply call_upd (g) rfl cll cll cll cl) | (apply call_pure (o) cll cl)))))
            exact out_updE rfl rfl hR.symm cll (by rw [hR]; exact cl)
          · (repeat' (first | simp (maxSteps := 2000000) -implicitDefEqProofs only [A_clavigerref10_Load_L0, d1, w1, w2, w3, w4, w5, hb, blk_zRec, slB_st, K_clavigerref10_Load_L0, len_lst, cells_lst, rk_ext, fk_ext, lrp, lr_api, lr_keep, lr_register, lr, lr2, oO, oN, oG, oNG, oM, oF, oL, rg, ci, seval, resAll, resL, resV, blkAt, undef, fillV, evParts, footOp, wrOp, chk, disj] | split | ((first | apply ck_call | apply cfk_call); (first | (apply call_pure (k2) cll cl) | (apply call_upd (g) rfl cll cll cll cl) | (apply call_pure (o) cll cl)))))
            exact out_updE rfl rfl hR.symm cll (by rw [hR]; exact cl)
    · have hR := hbad (hF fun h => hx h.1)
      clear hT hF
      have hx : x.has = false := by simpa using hx
      rw [hx] at g
      have ho : ∃ e : Rec × Int, C Tryz.prog 46 [.agg (dg k), vi .u64 ((b + i + 1 : Nat) : Int), .agg (dg h), rowV x.b] [] (.tup [.agg (cRec e.1), vi .i64 e.2]) [] := by
        by_cases hv : frecV k (b + i + 1) h x.b.l
        · exact ⟨(_, _), rfopenT_C k (b + i + 1) (by omega) h x.b hv⟩
        · by_cases hf : fits k (b + i + 1) h.1 x.b.l
          · exact ⟨(_, _), rfopenF_C k (b + i + 1) (by omega) h x.b hf (fun h3 => hv ⟨hf, h3⟩)⟩
          · exact ⟨(_, _), rfopenE_C k (b + i + 1) (by omega) h x.b hf⟩
      obtain ⟨⟨e1, e2⟩, o⟩ := ho
      rcases hH with ⟨hi0, rfl, rfl⟩ | ⟨hi0, rfl, rfl⟩
      · (repeat' (first | simp (maxSteps := 2000000) -implicitDefEqProofs only [A_clavigerref10_Load_L0, d1, w1, w2, w3, w4, w5, hb, blk_zRec, slB_st, K_clavigerref10_Load_L0, len_lst, cells_lst, rk_ext, fk_ext, lrp, lr_api, lr_keep, lr_register, lr, lr2, oO, oN, oG, oNG, oM, oF, oL, rg, ci, seval, resAll, resL, resV, blkAt, undef, fillV, evParts, footOp, wrOp, chk, disj] | split | ((first | apply ck_call | apply cfk_call); (first | (apply call_pure (k2) cll cl) | (apply call_upd (g) rfl cll cll cll cl) | (apply call_pure (o) cll cl)))))
        exact out_updE rfl rfl hR.symm cll (by rw [hR]; exact cl)
      · (repeat' (first | simp (maxSteps := 2000000) -implicitDefEqProofs only [A_clavigerref10_Load_L0, d1, w1, w2, w3, w4, w5, hb, blk_zRec, slB_st, K_clavigerref10_Load_L0, len_lst, cells_lst, rk_ext, fk_ext, lrp, lr_api, lr_keep, lr_register, lr, lr2, oO, oN, oG, oNG, oM, oF, oL, rg, ci, seval, resAll, resL, resV, blkAt, undef, fillV, evParts, footOp, wrOp, chk, disj] | split | ((first | apply ck_call | apply cfk_call); (first | (apply call_pure (k2) cll cl) | (apply call_upd (g) rfl cll cll cll cl) | (apply call_pure (o) cll cl)))))
        exact out_updE rfl rfl hR.symm cll (by rw [hR]; exact cl)
  · obtain rfl : i = N := by omega
    have d1 : ¬ (i : Int) < i := by omega
    rw [hld] at hV
    simp only [] at hV
    by_cases hh : h = r.head
    · rw [if_pos hh] at hV
      rcases hH with ⟨hi0, rfl, rfl⟩ | ⟨hi0, rfl, rfl⟩
      · (repeat' (first | simp (maxSteps := 2000000) -implicitDefEqProofs only [A_clavigerref10_Load_L0, K_clavigerref10_Load_L0, d1, hh, len_lst, cells_lst, rk_ext, fk_ext, lrp, lr_api, lr_keep, lr_register, lr, lr2, oO, oN, oG, oNG, oM, oF, oL, rg, ci, seval, resAll, resL, resV, blkAt, undef, fillV, evParts, footOp, wrOp, chk, disj] | split | ((first | apply ck_call | apply cfk_call); (first | (apply call_pure (k2) cll cl)))))
        rw [← hV, List.length_eq_zero_iff.1 (hll.trans hi0)]
        exact out_updE rfl rfl rfl cll cl
      · (repeat' (first | simp (maxSteps := 2000000) -implicitDefEqProofs only [A_clavigerref10_Load_L0, K_clavigerref10_Load_L0, d1, hh, len_lst, cells_lst, rk_ext, fk_ext, lrp, lr_api, lr_keep, lr_register, lr, lr2, oO, oN, oG, oNG, oM, oF, oL, rg, ci, seval, resAll, resL, resV, blkAt, undef, fillV, evParts, footOp, wrOp, chk, disj] | split | ((first | apply ck_call | apply cfk_call); (first | (apply call_pure (k2) cll cl)))))
        rw [← hV, lsOf_ne (by omega)]
        refine out_updBV [4] rfl (fun id h => ?_) (argL_closed _ (cRsk_closed m)) (arg_tup (argL_cons (arg_closed _ cl) (argL_cons ?_ (argL_cons (arg_closed _ cl) argL_nil))))
        · simp at h; subst h; exact ⟨_, rfl⟩
        · subst hll
          exact arg_lstB cRec_len cRec_closed rfl (by simp) (by simp) rfl
    · rw [if_neg hh] at hV
      rcases hH with ⟨hi0, rfl, rfl⟩ | ⟨hi0, rfl, rfl⟩
      · (repeat' (first | simp (maxSteps := 2000000) -implicitDefEqProofs only [A_clavigerref10_Load_L0, K_clavigerref10_Load_L0, d1, hh, len_lst, cells_lst, rk_ext, fk_ext, lrp, lr_api, lr_keep, lr_register, lr, lr2, oO, oN, oG, oNG, oM, oF, oL, rg, ci, seval, resAll, resL, resV, blkAt, undef, fillV, evParts, footOp, wrOp, chk, disj] | split | ((first | apply ck_call | apply cfk_call); (first | (apply call_pure (k2) cll cl)))))
        exact out_updE rfl rfl hV cll (by rw [← hV]; exact cl)
      · (repeat' (first | simp (maxSteps := 2000000) -implicitDefEqProofs only [A_clavigerref10_Load_L0, K_clavigerref10_Load_L0, d1, hh, len_lst, cells_lst, rk_ext, fk_ext, lrp, lr_api, lr_keep, lr_register, lr, lr2, oO, oN, oG, oNG, oM, oF, oL, rg, ci, seval, resAll, resL, resV, blkAt, undef, fillV, evParts, footOp, wrOp, chk, disj] | split | ((first | apply ck_call | apply cfk_call); (first | (apply call_pure (k2) cll cl)))))
        exact out_updE rfl rfl hV cll (by rw [← hV]; exact cl)
end Go.Proofs.YtmmaenfjnkoknaaGreat.VA
