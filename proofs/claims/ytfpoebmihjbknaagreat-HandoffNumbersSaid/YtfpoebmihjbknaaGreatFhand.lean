/- Handoff: the document's parcels and thanks; both sides read alike; HandoffNumbers. -/
import Derived.Test.YtfpoebmihjbknaaGreatLhand2
import Derived.Test.YtfpoebmihjbknaaGreatEhand
import Derived.Test.YtfpoebmihjbknaaGreatVC
set_option linter.unusedVariables false
set_option linter.unusedSimpArgs false
set_option maxRecDepth 100000
namespace Go.Proofs.YtfpoebmihjbknaaGreat.VA
open Go
attribute [local irreducible] WK NK XK TK RK FK CK CFK CallRel C
theorem recQ_right {p : Pcl} : RightR ⟨3, p.shard, 0, p.epoch, Vlt.zero, p.vaults⟩ ↔ RightR (recP p) := by
  unfold RightR recP EpochP
  simp only [lsOf_l]
theorem recQ_put (p : Pcl) : putR ⟨3, p.shard, 0, p.epoch, Vlt.zero, p.vaults⟩ = putR (recP p) := by
  unfold putR recP
  simp only [lsOf_l]
attribute [local irreducible] putR sealF textF fits recS closeF RightR
theorem lmember_C (n : Int) : C Tryz.prog 13 [vi .i64 n] [] (vb (decide (0 ≤ n) && decide (n < 8))) [] := by
  refine C_of mixed Tryz.func13 A_clavigerlaw19_member_ok A_clavigerlaw19_member_res _ A_clavigerlaw19_member_nt ?_
  (repeat' (first | simp (maxSteps := 2000000) -implicitDefEqProofs only [A_clavigerlaw19_member, len_lst, cells_lst, rk_ext, fk_ext, sm_c, sm_a, lrp, lr_api, lr_keep, lr_hand, lr, lr2, oO, oN, oG, oNG, oM, oF, oL, rg, ci, seval, resAll, resL, resV, blkAt, undef, fillV, evParts, footOp, wrOp, chk, disj] | split))
  all_goals (refine out_eq ?_ (cl); first | rfl | (simp_all []; done) | (simp_all []; intros; omega) | (simp []; (repeat' split) <;> first | rfl | omega | (simp_all; done) | (simp_all; intros; omega)))
theorem lmemberT_C (n : Int) (h : memb n) : C Tryz.prog 13 [vi .i64 n] [] (vb true) [] := by
  have := lmember_C n
  rwa [decide_eq_true h.1, decide_eq_true h.2] at this
theorem lmemberF_C (n : Int) (h : ¬ memb n) : C Tryz.prog 13 [vi .i64 n] [] (vb false) [] := by
  have := lmember_C n
  rwa [show (decide (0 ≤ n) && decide (n < 8)) = false by rw [← Bool.decide_and]; exact decide_eq_false h] at this
set_option maxHeartbeats 2000000 in
theorem closed_C (k : Bn 16) (to : Int) (p : Pcl) (h : RightR (recP p)) (hf : memb p.frm) (ht : memb to) :
    C Tryz.prog 5 [.agg (dg k), vi .i64 to, .agg (cPcl p)] [] (.tup [rowV (.of (ltrP k to p)), vi .i64 0]) [] := by
  obtain ⟨⟨s0, s1⟩, ⟨e0, e1⟩, n4, hsec⟩ := recP_le h
  have rr := rrightR_C ⟨3, p.shard, 0, p.epoch, Vlt.zero, p.vaults⟩
  rw [decide_eq_true (recQ_right.2 h)] at rr
  have kc := rputR_C ⟨3, p.shard, 0, p.epoch, Vlt.zero, p.vaults⟩ (recQ_right.2 h) (by show 0 ≤ p.epoch; omega) (by show p.epoch < _; omega)
  rw [recQ_put] at kc
  have hle := putR_le h
  obtain ⟨s, hs⟩ := Int.eq_ofNat_of_zero_le s0
  obtain ⟨e, he⟩ := Int.eq_ofNat_of_zero_le (show 0 ≤ p.epoch by omega)
  have eN : (p.epoch * 16 + p.shard).toNat = e * 16 + s := by rw [hs, he]; omega
  unfold ltrP
  rw [eN]
  refine C_shutT (n := (closeF k (e * 16 + s) (tb 64 to) (by8 p.frm :: putR (recP p))).length) ?_ rfl trivial
  have co := rcloseO_C k (e * 16 + s) (by omega) (tb 64 to) (.of (by8 p.frm :: putR (recP p))) (by rw [row_l_of, List.length_cons]; omega)
  rw [row_l_of] at co
  have m1 := hf.1
  have m2 : p.frm ≤ 255 := by have := hf.2; omega
  have wf : IntKind.u8.wrap p.frm = p.frm := by rw [IntKind.wrap_u8]; omega
  have wt := tb_eq 64 to
  have q1 : IntKind.u64.wrap ((e : Int) * 16) = ((e * 16 : Nat) : Int) := by rw [IntWalk.u64_in _ ⟨by omega, by omega⟩]; omega
  have q2 : IntKind.u64.wrap (s : Int) = s := by rw [IntWalk.u64_in _ ⟨by omega, by omega⟩]
  have q3 : IntKind.u64.wrap (((e * 16 : Nat) : Int) + s) = ((e * 16 + s : Nat) : Int) := by rw [IntWalk.u64_in _ ⟨by omega, by omega⟩]; omega
  have hS : Sm [by8 p.frm] (putR (recP p)).length := by simp only [Sm, List.length_cons, List.length_nil]; omega
  generalize putR (recP p) = R at *
  rw [hs, he] at rr kc
  refine C_of mixed Tryz.func5 A_clavigerlaw19_closed_ok A_clavigerlaw19_closed_res _ A_clavigerlaw19_closed_nt ?_
  (repeat' (first | simp (maxSteps := 2000000) -implicitDefEqProofs only [A_clavigerlaw19_closed, hs, he, m1, m2, wf, wt, hS, q1, q2, q3, len_lst, cells_lst, rk_ext, fk_ext, sm_c, sm_a, lrp, lr_api, lr_keep, lr_hand, lr, lr2, oO, oN, oG, oNG, oM, oF, oL, rg, ci, seval, resAll, resL, resV, blkAt, undef, fillV, evParts, footOp, wrOp, chk, disj] | split | ((first | apply ck_call | apply cfk_call); (first | (apply call_pure (lmemberT_C _ hf) cll cl) | (apply call_pure (lmemberT_C _ ht) cll cl) | (apply call_pure (rr) cll cl) | (apply call_pure (kc) cll cl) | (apply call_inT (co); (simp [ids_nil, ids_cons, ids_sc, ids_agg, ids_dg, ids_bs, ids_row, ids_ints, ids_sref, ids_ref, ids_sl, blkAt] <;> fail); (repeat' (first | exact args_n | apply args_c | (first | exact arg_closed _ cl | (refine arg_rowA rfl mem ?_; (first | rfl | omega | (simp [bn_len] <;> fail) | (simp [bn_len]; omega))) | (refine arg_row rfl mem ?_; (first | rfl | omega | (simp [bn_len] <;> fail) | (simp [bn_len]; omega))) | (refine arg_fld mem ?_ ?_; (first | rfl | omega | (simp [bn_len] <;> fail) | (simp [bn_len]; omega)); (simp only [len_lst, cells_lst, rk_ext, fk_ext, sm_c, sm_a, lrp, lr_api, lr_keep, lr_hand, blkAt, List.getD_cons_zero, List.getD_cons_succ, Option.bind_some, rd_sE] <;> fail))))); (first | exact cl | exact cll); (first | exact nr | exact nrl); (first | exact cl | exact cll); (first | exact nr | exact nrl))))))
  exact out_rowT rfl trivial (bs_closed _)
theorem closedN_C (k : Bn 16) (to : Int) (p : Pcl) (h : ¬ (RightR (recP p) ∧ memb p.frm ∧ memb to)) :
    C Tryz.prog 5 [.agg (dg k), vi .i64 to, .agg (cPcl p)] [] (.tup [vnil, vi .i64 1]) [] := by
  have rr := rrightR_C ⟨3, p.shard, 0, p.epoch, Vlt.zero, p.vaults⟩
  refine C_of mixed Tryz.func5 A_clavigerlaw19_closed_ok A_clavigerlaw19_closed_res _ A_clavigerlaw19_closed_nt ?_
  by_cases h2 : memb p.frm
  · by_cases h3 : memb to
    · have h1 : ¬ RightR (recP p) := fun h1 => h ⟨h1, h2, h3⟩
      rw [decide_eq_false (fun h4 => h1 (recQ_right.1 h4))] at rr
      (repeat' (first | simp (maxSteps := 2000000) -implicitDefEqProofs only [A_clavigerlaw19_closed, len_lst, cells_lst, rk_ext, fk_ext, sm_c, sm_a, lrp, lr_api, lr_keep, lr_hand, lr, lr2, oO, oN, oG, oNG, oM, oF, oL, rg, ci, seval, resAll, resL, resV, blkAt, undef, fillV, evParts, footOp, wrOp, chk, disj] | split | ((first | apply ck_call | apply cfk_call); (first | (apply call_pure (lmemberT_C _ h2) cll cl) | (apply call_pure (lmemberT_C _ h3) cll cl) | (apply call_pure (rr) cll cl)))))
      exact out_eq rfl cl
    · (repeat' (first | simp (maxSteps := 2000000) -implicitDefEqProofs only [A_clavigerlaw19_closed, len_lst, cells_lst, rk_ext, fk_ext, sm_c, sm_a, lrp, lr_api, lr_keep, lr_hand, lr, lr2, oO, oN, oG, oNG, oM, oF, oL, rg, ci, seval, resAll, resL, resV, blkAt, undef, fillV, evParts, footOp, wrOp, chk, disj] | split | ((first | apply ck_call | apply cfk_call); (first | (apply call_pure (lmemberT_C _ h2) cll cl) | (apply call_pure (lmemberF_C _ h3) cll cl)))))
      exact out_eq rfl cl
  · (repeat' (first | simp (maxSteps := 2000000) -implicitDefEqProofs only [A_clavigerlaw19_closed, len_lst, cells_lst, rk_ext, fk_ext, sm_c, sm_a, lrp, lr_api, lr_keep, lr_hand, lr, lr2, oO, oN, oG, oNG, oM, oF, oL, rg, ci, seval, resAll, resL, resV, blkAt, undef, fillV, evParts, footOp, wrOp, chk, disj] | split | ((first | apply ck_call | apply cfk_call); (first | (apply call_pure (lmemberF_C _ h2) cll cl)))))
    exact out_eq rfl cl
set_option maxHeartbeats 2000000 in
theorem lthanks_C (k : Bn 16) (to : Int) (t : Tok) (h : RightT t) (ht : memb to) :
    C Tryz.prog 12 [.agg (dg k), vi .i64 to, .agg (cTok t)] [] (.tup [rowV (.of (ltrT k to t)), vi .i64 0]) [] := by
  obtain ⟨hf, ⟨s0, s1⟩, e0, e1⟩ := h
  obtain ⟨s, hs⟩ := Int.eq_ofNat_of_zero_le s0
  obtain ⟨e, he⟩ := Int.eq_ofNat_of_zero_le (show 0 ≤ t.epoch by omega)
  have eN : (t.epoch * 16 + t.shard).toNat = e * 16 + s := by rw [hs, he]; omega
  have eE : t.epoch.toNat = e := by rw [he]; rfl
  unfold ltrT
  rw [eN, eE, hs]
  have nl := numF_len e
  refine C_shutT (n := (closeF k (e * 16 + s) (tb 96 to) (by8 t.frm :: by8 s :: numF e)).length) ?_ rfl trivial
  have co := rcloseO_C k (e * 16 + s) (by omega) (tb 96 to) (.of (by8 t.frm :: by8 s :: numF e)) (by rw [row_l_of, List.length_cons, List.length_cons]; omega)
  rw [row_l_of] at co
  have m1 := hf.1
  have m2 : t.frm ≤ 255 := by have := hf.2; omega
  have wf : IntKind.u8.wrap t.frm = t.frm := by rw [IntKind.wrap_u8]; have := hf.2; omega
  have n1 : (0 : Int) ≤ s := by omega
  have n2 : (s : Int) ≤ 255 := by omega
  have ws : IntKind.u8.wrap (s : Int) = s := by rw [IntKind.wrap_u8]; omega
  have wt := tb_eq 96 to
  have kn := rnumber_C e (by omega)
  have hS : Sm [by8 t.frm, by8 s] 8 := by simp only [Sm, List.length_cons, List.length_nil]; omega
  have q1 : IntKind.u64.wrap ((e : Int) * 16) = ((e * 16 : Nat) : Int) := by rw [IntWalk.u64_in _ ⟨by omega, by omega⟩]; omega
  have q2 : IntKind.u64.wrap (s : Int) = s := by rw [IntWalk.u64_in _ ⟨by omega, by omega⟩]
  have q3 : IntKind.u64.wrap (((e * 16 : Nat) : Int) + s) = ((e * 16 + s : Nat) : Int) := by rw [IntWalk.u64_in _ ⟨by omega, by omega⟩]; omega
  have b1 : ¬ (s : Int) < 0 := by omega
  have b2 : ¬ (s : Int) ≥ 16 := by omega
  have b3 : ¬ (e : Int) < 1 := by omega
  have b4 : ¬ (e : Int) > 1099511627776 := by omega
  generalize numF e = R at *
  refine C_of mixed Tryz.func12 A_clavigerlaw19_thanks_ok A_clavigerlaw19_thanks_res _ A_clavigerlaw19_thanks_nt ?_
  (repeat' (first | simp (maxSteps := 2000000) -implicitDefEqProofs only [A_clavigerlaw19_thanks, hs, he, m1, m2, wf, n1, n2, ws, wt, hS, nl, q1, q2, q3, b1, b2, b3, b4, len_lst, cells_lst, rk_ext, fk_ext, sm_c, sm_a, lrp, lr_api, lr_keep, lr_hand, lr, lr2, oO, oN, oG, oNG, oM, oF, oL, rg, ci, seval, resAll, resL, resV, blkAt, undef, fillV, evParts, footOp, wrOp, chk, disj] | split | ((first | apply ck_call | apply cfk_call); (first | (apply call_pure (lmemberT_C _ hf) cll cl) | (apply call_pure (lmemberT_C _ ht) cll cl) | (apply call_new (kn) cll cll) | (apply call_inT (co); (simp [ids_nil, ids_cons, ids_sc, ids_agg, ids_dg, ids_bs, ids_row, ids_ints, ids_sref, ids_ref, ids_sl, blkAt] <;> fail); (repeat' (first | exact args_n | apply args_c | (first | exact arg_closed _ cl | (refine arg_rowA rfl mem ?_; (first | rfl | omega | (simp [bn_len] <;> fail) | (simp [bn_len]; omega))) | (refine arg_row rfl mem ?_; (first | rfl | omega | (simp [bn_len] <;> fail) | (simp [bn_len]; omega))) | (refine arg_fld mem ?_ ?_; (first | rfl | omega | (simp [bn_len] <;> fail) | (simp [bn_len]; omega)); (simp only [len_lst, cells_lst, rk_ext, fk_ext, sm_c, sm_a, lrp, lr_api, lr_keep, lr_hand, blkAt, List.getD_cons_zero, List.getD_cons_succ, Option.bind_some, rd_sE] <;> fail))))); (first | exact cl | exact cll); (first | exact nr | exact nrl); (first | exact cl | exact cll); (first | exact nr | exact nrl))))))
  exact out_rowT rfl trivial (bs_closed _)
theorem lthanksN_C (k : Bn 16) (to : Int) (t : Tok) (h : ¬ (RightT t ∧ memb to)) :
    C Tryz.prog 12 [.agg (dg k), vi .i64 to, .agg (cTok t)] [] (.tup [vnil, vi .i64 1]) [] := by
  refine C_of mixed Tryz.func12 A_clavigerlaw19_thanks_ok A_clavigerlaw19_thanks_res _ A_clavigerlaw19_thanks_nt ?_
  by_cases h1 : memb t.frm
  · by_cases h2 : memb to
    · by_cases b1 : t.shard < 0
      · (repeat' (first | simp (maxSteps := 2000000) -implicitDefEqProofs only [A_clavigerlaw19_thanks, b1, len_lst, cells_lst, rk_ext, fk_ext, sm_c, sm_a, lrp, lr_api, lr_keep, lr_hand, lr, lr2, oO, oN, oG, oNG, oM, oF, oL, rg, ci, seval, resAll, resL, resV, blkAt, undef, fillV, evParts, footOp, wrOp, chk, disj] | split | ((first | apply ck_call | apply cfk_call); (first | (apply call_pure (lmemberT_C _ h1) cll cl) | (apply call_pure (lmemberT_C _ h2) cll cl)))))
        exact out_eq rfl cl
      · by_cases b2 : t.shard ≥ 16
        · (repeat' (first | simp (maxSteps := 2000000) -implicitDefEqProofs only [A_clavigerlaw19_thanks, b1, b2, len_lst, cells_lst, rk_ext, fk_ext, sm_c, sm_a, lrp, lr_api, lr_keep, lr_hand, lr, lr2, oO, oN, oG, oNG, oM, oF, oL, rg, ci, seval, resAll, resL, resV, blkAt, undef, fillV, evParts, footOp, wrOp, chk, disj] | split | ((first | apply ck_call | apply cfk_call); (first | (apply call_pure (lmemberT_C _ h1) cll cl) | (apply call_pure (lmemberT_C _ h2) cll cl)))))
          exact out_eq rfl cl
        · by_cases b3 : t.epoch < 1
          · (repeat' (first | simp (maxSteps := 2000000) -implicitDefEqProofs only [A_clavigerlaw19_thanks, b1, b2, b3, len_lst, cells_lst, rk_ext, fk_ext, sm_c, sm_a, lrp, lr_api, lr_keep, lr_hand, lr, lr2, oO, oN, oG, oNG, oM, oF, oL, rg, ci, seval, resAll, resL, resV, blkAt, undef, fillV, evParts, footOp, wrOp, chk, disj] | split | ((first | apply ck_call | apply cfk_call); (first | (apply call_pure (lmemberT_C _ h1) cll cl) | (apply call_pure (lmemberT_C _ h2) cll cl)))))
            exact out_eq rfl cl
          · have b4 : t.epoch > 1099511627776 := by
              by_cases b4 : 1099511627776 < t.epoch
              · exact b4
              · exact absurd ⟨⟨h1, ⟨by omega, by omega⟩, by omega, by omega⟩, h2⟩ h
            (repeat' (first | simp (maxSteps := 2000000) -implicitDefEqProofs only [A_clavigerlaw19_thanks, b1, b2, b3, b4, len_lst, cells_lst, rk_ext, fk_ext, sm_c, sm_a, lrp, lr_api, lr_keep, lr_hand, lr, lr2, oO, oN, oG, oNG, oM, oF, oL, rg, ci, seval, resAll, resL, resV, blkAt, undef, fillV, evParts, footOp, wrOp, chk, disj] | split | ((first | apply ck_call | apply cfk_call); (first | (apply call_pure (lmemberT_C _ h1) cll cl) | (apply call_pure (lmemberT_C _ h2) cll cl)))))
            exact out_eq rfl cl
    · (repeat' (first | simp (maxSteps := 2000000) -implicitDefEqProofs only [A_clavigerlaw19_thanks, len_lst, cells_lst, rk_ext, fk_ext, sm_c, sm_a, lrp, lr_api, lr_keep, lr_hand, lr, lr2, oO, oN, oG, oNG, oM, oF, oL, rg, ci, seval, resAll, resL, resV, blkAt, undef, fillV, evParts, footOp, wrOp, chk, disj] | split | ((first | apply ck_call | apply cfk_call); (first | (apply call_pure (lmemberT_C _ h1) cll cl) | (apply call_pure (lmemberF_C _ h2) cll cl)))))
      exact out_eq rfl cl
  · (repeat' (first | simp (maxSteps := 2000000) -implicitDefEqProofs only [A_clavigerlaw19_thanks, len_lst, cells_lst, rk_ext, fk_ext, sm_c, sm_a, lrp, lr_api, lr_keep, lr_hand, lr, lr2, oO, oN, oG, oNG, oM, oF, oL, rg, ci, seval, resAll, resL, resV, blkAt, undef, fillV, evParts, footOp, wrOp, chk, disj] | split | ((first | apply ck_call | apply cfk_call); (first | (apply call_pure (lmemberF_C _ h1) cll cl)))))
    exact out_eq rfl cl
end Go.Proofs.YtfpoebmihjbknaaGreat.VA
