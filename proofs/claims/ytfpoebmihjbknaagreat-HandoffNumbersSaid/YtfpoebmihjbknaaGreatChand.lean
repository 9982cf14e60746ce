/- Handoff: parcels as records, parcels and thanks closed and opened. -/
import Derived.Test.YtfpoebmihjbknaaGreatLhand
import Derived.Test.YtfpoebmihjbknaaGreatClaw5
import Derived.Test.YtfpoebmihjbknaaGreatPR
import Derived.Test.YtfpoebmihjbknaaGreatCframe
import Derived.Test.YtfpoebmihjbknaaGreatLshard
import Derived.Test.YtfpoebmihjbknaaGreatPK
import Derived.Test.YtfpoebmihjbknaaGreatVC
set_option linter.unusedVariables false
set_option linter.unusedSimpArgs false
set_option maxRecDepth 100000
namespace Go.Proofs.YtfpoebmihjbknaaGreat.VA
open Go
attribute [local irreducible] WK NK XK TK RK FK CK CFK CallRel C
theorem hmember_C (n : Int) : C Tryz.prog 31 [vi .i64 n] [] (vb (decide (0 ≤ n) && decide (n < 8))) [] := by
  refine C_of mixed Tryz.func31 A_handoff_member_ok A_handoff_member_res _ A_handoff_member_nt ?_
  (repeat' (first | simp (maxSteps := 2000000) -implicitDefEqProofs only [A_handoff_member, len_lst, cells_lst, rk_ext, fk_ext, sm_c, sm_a, lr_api, lr_keep, lr_hand, lr, lr2, oO, oN, oG, oNG, oM, oF, oL, rg, ci, seval, resAll, resL, resV, blkAt, undef, fillV, evParts, footOp, wrOp, chk, disj] | split))
  all_goals (refine out_eq ?_ (cl); first | rfl | (simp_all []; done) | (simp_all []; intros; omega) | (simp []; (repeat' split) <;> first | rfl | omega | (simp_all; done) | (simp_all; intros; omega)))
def memb (n : Int) : Prop := 0 ≤ n ∧ n < 8
theorem hmemberT_C (n : Int) (h : memb n) : C Tryz.prog 31 [vi .i64 n] [] (vb true) [] := by
  have := hmember_C n
  rwa [decide_eq_true h.1, decide_eq_true h.2] at this
theorem hmemberF_C (n : Int) (h : ¬ memb n) : C Tryz.prog 31 [vi .i64 n] [] (vb false) [] := by
  have := hmember_C n
  rwa [show (decide (0 ≤ n) && decide (n < 8)) = false by rw [← Bool.decide_and]; exact decide_eq_false h] at this
theorem rightSh_C (n : Int) : C Tryz.prog 56 [vi .i64 n] [] (vb (decide (0 ≤ n ∧ n < 16))) [] := by
  refine C_of mixed Tryz.func56 A_shard_Right_ok A_shard_Right_res _ A_shard_Right_nt ?_
  (repeat' (first | simp (maxSteps := 2000000) -implicitDefEqProofs only [A_shard_Right, len_lst, cells_lst, rk_ext, fk_ext, sm_c, sm_a, lr_api, lr_keep, lr_hand, lr, lr2, oO, oN, oG, oNG, oM, oF, oL, rg, ci, seval, resAll, resL, resV, blkAt, undef, fillV, evParts, footOp, wrOp, chk, disj] | split))
  all_goals (refine out_eq ?_ (cl); first | rfl | (simp_all []; done) | (simp_all []; intros; omega) | (simp []; (repeat' split) <;> first | rfl | omega | (simp_all; done) | (simp_all; intros; omega)))
def RightT (t : Tok) : Prop := memb t.frm ∧ (0 ≤ t.shard ∧ t.shard < 16) ∧ 1 ≤ t.epoch ∧ t.epoch ≤ 1099511627776
theorem rightT_C (t : Tok) (h : RightT t) : C Tryz.prog 34 [.agg (cTok t)] [] (vb true) [] := by
  have s1 := rightSh_C t.shard
  rw [decide_eq_true h.2.1] at s1
  have c1 : t.epoch ≥ 1 := h.2.2.1
  have c2 := h.2.2.2
  refine C_of mixed Tryz.func34 A_handoff_Token_right_ok A_handoff_Token_right_res _ A_handoff_Token_right_nt ?_
  (repeat' (first | simp (maxSteps := 2000000) -implicitDefEqProofs only [A_handoff_Token_right, c1, c2, len_lst, cells_lst, rk_ext, fk_ext, sm_c, sm_a, lr_api, lr_keep, lr_hand, lr, lr2, oO, oN, oG, oNG, oM, oF, oL, rg, ci, seval, resAll, resL, resV, blkAt, undef, fillV, evParts, footOp, wrOp, chk, disj] | split | ((first | apply ck_call | apply cfk_call); (first | (apply call_pure (hmemberT_C _ h.1) cll cl) | (apply call_pure (s1) cll cl)))))
  all_goals (exact out_eq (by simp_all) cl)
theorem rightTF_C (t : Tok) (h : ¬ RightT t) : C Tryz.prog 34 [.agg (cTok t)] [] (vb false) [] := by
  have s1 := rightSh_C t.shard
  refine C_of mixed Tryz.func34 A_handoff_Token_right_ok A_handoff_Token_right_res _ A_handoff_Token_right_nt ?_
  by_cases h1 : memb t.frm
  · by_cases h2 : 0 ≤ t.shard ∧ t.shard < 16
    · rw [decide_eq_true h2] at s1
      by_cases h3 : 1 ≤ t.epoch
      · have c1 : t.epoch ≥ 1 := h3
        have c2 : ¬ t.epoch ≤ 1099511627776 := fun h4 => h ⟨h1, h2, h3, h4⟩
        (repeat' (first | simp (maxSteps := 2000000) -implicitDefEqProofs only [A_handoff_Token_right, c1, c2, len_lst, cells_lst, rk_ext, fk_ext, sm_c, sm_a, lr_api, lr_keep, lr_hand, lr, lr2, oO, oN, oG, oNG, oM, oF, oL, rg, ci, seval, resAll, resL, resV, blkAt, undef, fillV, evParts, footOp, wrOp, chk, disj] | split | ((first | apply ck_call | apply cfk_call); (first | (apply call_pure (hmemberT_C _ h1) cll cl) | (apply call_pure (s1) cll cl)))))
        exact out_eq rfl cl
      · have c1 : ¬ t.epoch ≥ 1 := h3
        (repeat' (first | simp (maxSteps := 2000000) -implicitDefEqProofs only [A_handoff_Token_right, c1, len_lst, cells_lst, rk_ext, fk_ext, sm_c, sm_a, lr_api, lr_keep, lr_hand, lr, lr2, oO, oN, oG, oNG, oM, oF, oL, rg, ci, seval, resAll, resL, resV, blkAt, undef, fillV, evParts, footOp, wrOp, chk, disj] | split | ((first | apply ck_call | apply cfk_call); (first | (apply call_pure (hmemberT_C _ h1) cll cl) | (apply call_pure (s1) cll cl)))))
        exact out_eq rfl cl
    · rw [decide_eq_false h2] at s1
      (repeat' (first | simp (maxSteps := 2000000) -implicitDefEqProofs only [A_handoff_Token_right, len_lst, cells_lst, rk_ext, fk_ext, sm_c, sm_a, lr_api, lr_keep, lr_hand, lr, lr2, oO, oN, oG, oNG, oM, oF, oL, rg, ci, seval, resAll, resL, resV, blkAt, undef, fillV, evParts, footOp, wrOp, chk, disj] | split | ((first | apply ck_call | apply cfk_call); (first | (apply call_pure (hmemberT_C _ h1) cll cl) | (apply call_pure (s1) cll cl)))))
      exact out_eq rfl cl
  · (repeat' (first | simp (maxSteps := 2000000) -implicitDefEqProofs only [A_handoff_Token_right, len_lst, cells_lst, rk_ext, fk_ext, sm_c, sm_a, lr_api, lr_keep, lr_hand, lr, lr2, oO, oN, oG, oNG, oM, oF, oL, rg, ci, seval, resAll, resL, resV, blkAt, undef, fillV, evParts, footOp, wrOp, chk, disj] | split | ((first | apply ck_call | apply cfk_call); (first | (apply call_pure (hmemberF_C _ h1) cll cl)))))
    exact out_eq rfl cl
theorem hseed_C (n e : Int) : C Tryz.prog 33 [vi .i64 n, vi .u64 e] [] (vi .u64 (IntKind.u64.wrap (IntKind.u64.wrap (e * 16) + IntKind.u64.wrap n))) [] := by
  refine C_of mixed Tryz.func33 A_handoff_seed_ok A_handoff_seed_res _ A_handoff_seed_nt ?_
  (repeat' (first | simp (maxSteps := 2000000) -implicitDefEqProofs only [A_handoff_seed, len_lst, cells_lst, rk_ext, fk_ext, sm_c, sm_a, lr_api, lr_keep, lr_hand, lr, lr2, oO, oN, oG, oNG, oM, oF, oL, rg, ci, seval, resAll, resL, resV, blkAt, undef, fillV, evParts, footOp, wrOp, chk, disj] | split))
  exact out_eq rfl cl
theorem hseedR_C (n e : Nat) (hn : n < 16) (he : e ≤ 1099511627776) : C Tryz.prog 33 [vi .i64 n, vi .u64 e] [] (vi .u64 ((e * 16 + n : Nat) : Int)) [] := by
  have := hseed_C n e
  have e1 : IntKind.u64.wrap (IntKind.u64.wrap ((e : Int) * 16) + IntKind.u64.wrap (n : Int)) = ((e * 16 + n : Nat) : Int) := by
    rw [IntWalk.u64_in ((e : Int) * 16) ⟨by omega, by omega⟩, IntWalk.u64_in (n : Int) ⟨by omega, by omega⟩, IntWalk.u64_in _ ⟨by omega, by omega⟩]; omega
  rwa [e1] at this
theorem sclone_C (l : List UInt8) (h : l.length ≤ 140737488355328) : C Tryz.prog 60 [rowV (.of l)] [] (.sref 0 0 l.length 1) [some (bs l)] := by
  refine C_of mixed Tryz.func60 A_slices_Clone_byte_byte_ok A_slices_Clone_byte_byte_res _ A_slices_Clone_byte_byte_nt ?_
  (repeat' (first | simp (maxSteps := 2000000) -implicitDefEqProofs only [A_slices_Clone_byte_byte, app_bs0, h, len_lst, cells_lst, rk_ext, fk_ext, sm_c, sm_a, lr_api, lr_keep, lr_hand, lr, lr2, oO, oN, oG, oNG, oM, oF, oL, rg, ci, seval, resAll, resL, resV, blkAt, undef, fillV, evParts, footOp, wrOp, chk, disj] | split))
  exact out_row rfl (bs_closed _)
theorem scloneN_C : C Tryz.prog 60 [vnil] [] vnil [] := by
  refine C_of mixed Tryz.func60 A_slices_Clone_byte_byte_ok A_slices_Clone_byte_byte_res _ A_slices_Clone_byte_byte_nt ?_
  (repeat' (first | simp (maxSteps := 2000000) -implicitDefEqProofs only [A_slices_Clone_byte_byte, len_lst, cells_lst, rk_ext, fk_ext, sm_c, sm_a, lr_api, lr_keep, lr_hand, lr, lr2, oO, oN, oG, oNG, oM, oF, oL, rg, ci, seval, resAll, resL, resV, blkAt, undef, fillV, evParts, footOp, wrOp, chk, disj] | split))
  all_goals (refine out_eq ?_ (cl); first | rfl | (simp_all []; done) | (simp_all []; intros; omega) | (simp []; (repeat' split) <;> first | rfl | omega | (simp_all; done) | (simp_all; intros; omega)))
theorem scloneR_C (x : Row) (h : x.l.length ≤ 140737488355328) : C Tryz.prog 60 [rowV x] [] (rowV x) [] := by
  cases x with
  | nil => exact scloneN_C
  | of l => exact C_shut (sclone_C l h) rfl
def recP (p : Pcl) : Rec := ⟨3, p.shard, 0, p.epoch, Vlt.zero, lsOf p.vaults.l⟩
set_option maxHeartbeats 4000000 in
theorem hrecord_C (p : Pcl) (hn : p.vaults.l.length ≤ 5) (hs : ∀ v ∈ p.vaults.l, v.secret.l.length ≤ 1000000) : C Tryz.prog 30 [.agg (cPcl p)] [] (.agg (cRec (recP p))) [] := by
  refine C_of mixed Tryz.func30 A_handoff_Record_ok A_handoff_Record_res _ A_handoff_Record_nt ?_
  (repeat' (first | simp (maxSteps := 2000000) -implicitDefEqProofs only [A_handoff_Record, zr_shard, zr_to, zr_epoch, zr_vault, zr_vaults, len_lst, cells_lst, rk_ext, fk_ext, sm_c, sm_a, lr_api, lr_keep, lr_hand, lr, lr2, oO, oN, oG, oNG, oM, oF, oL, rg, ci, seval, resAll, resL, resV, blkAt, undef, fillV, evParts, footOp, wrOp, chk, disj] | split))
  refine wk_loop (fun m S H => ∃ i : Nat, i ≤ p.vaults.l.length ∧ m = p.vaults.l.length - i ∧ S = (.dead :: .dead :: .ref 0 0 :: .ref 1 0 :: .dead :: .dead :: .dead :: .dead :: .dead :: .dead :: .dead :: .dead :: lstV cVlt p.vaults :: vi .i64 p.vaults.l.length :: vi .i64 i :: .dead :: .dead :: .dead :: .dead :: .dead :: .dead :: .dead :: .dead :: .dead :: .dead :: .dead :: .dead :: .dead :: .dead :: .dead :: []) ∧
      (i = 0 ∧ H = [some (cRec Rec.zero), some (cRec ⟨3, p.shard, 0, p.epoch, Vlt.zero, .nil⟩)] ∨
       0 < i ∧ H = [some (cRec Rec.zero), some (gRec_vaults ⟨3, p.shard, 0, p.epoch, Vlt.zero, .nil⟩ (.sref 2 0 i 42)), some ((p.vaults.l.take i).flatMap cVlt)])) p.vaults.l.length ⟨0, Nat.zero_le _, rfl, rfl, .inl ⟨rfl, rfl⟩⟩ (by refine .ren _ _ _ [1, 2] (by decide) (by intro k h; first | exact absurd h (Nat.not_lt_zero k) | (simp at h; done) | (rcases k with _ | _ | _ | k <;> first | rfl | (exfalso; omega) | (simp at h; done))) ?_ ?_ <;> simp [KeepS, KeepH, ArgRel, ArgRelL, argL_cl, arg_cl, row_l_of, row_l_nil, bn_len, blkAt]) ?_
  rintro m S H ⟨i, hi, rfl, rfl, hH⟩ J hJ
  have d0 : (0 : Int) ≤ i := by omega
  by_cases hin : i < p.vaults.l.length
  · have d1 : (i : Int) < p.vaults.l.length := by omega
    have w1 : IntKind.i64.wrap ((i : Int) + 1) = ((i + 1 : Nat) : Int) := by rw [wrap_id _ (by omega) (by omega)]; omega
    have g1 := rd_flat cVlt_len p.vaults.l i hin
    have hS := take_snoc p.vaults.l i hin
    have kc : C Tryz.prog 60 [rowV (p.vaults.l.getD i default).secret] [] (rowV (p.vaults.l.getD i default).secret) [] := scloneR_C _ (by
      have : p.vaults.l.getD i default ∈ p.vaults.l := by rw [List.getD_eq_getElem?_getD, List.getElem?_eq_getElem hin]; exact List.getElem_mem _
      have := hs _ this; omega)
    have q1 : splice (cVlt (p.vaults.l.getD i default)) 21 [rowV (p.vaults.l.getD i default).secret] = cVlt (p.vaults.l.getD i default) := sp_Vlt_secret _ _
    generalize p.vaults.l.getD i default = x at *
    rcases hH with ⟨hi0, rfl⟩ | ⟨hi0, rfl⟩
    · have e1 : i + 1 = 1 := by omega
      have et : p.vaults.l.take i = [] := by rw [hi0]; rfl
      rw [et, List.nil_append, e1] at hS
      (repeat' (first | simp (maxSteps := 2000000) -implicitDefEqProofs only [A_handoff_Record_L0, d0, d1, w1, g1, q1, blk_zVlt, slB_st, lstV_nil, idx_lst cVlt_len, zr_shard, zr_to, zr_epoch, zr_vault, zr_vaults, len_lst, cells_lst, rk_ext, fk_ext, sm_c, sm_a, lr_api, lr_keep, lr_hand, lr, lr2, oO, oN, oG, oNG, oM, oF, oL, rg, ci, seval, resAll, resL, resV, blkAt, undef, fillV, evParts, footOp, wrOp, chk, disj] | split | ((first | apply ck_call | apply cfk_call); (first | (apply call_pure (kc) cll cl)))))
      exact hJ _ _ _ _ _ (by omega) ⟨i + 1, by omega, rfl, rfl, .inr ⟨by omega, rfl⟩⟩ (by refine .ren _ _ _ [0, 1, 4] (by decide) (by intro k h; first | exact absurd h (Nat.not_lt_zero k) | (simp at h; done) | (rcases k with _ | _ | _ | k <;> first | rfl | (exfalso; omega) | (simp at h; done))) ?_ ?_ <;> simp [KeepS, KeepH, ArgRel, ArgRelL, argL_cl, arg_cl, row_l_of, row_l_nil, bn_len, blkAt, argGG_Rec, hS, e1, flat_closed cVlt_closed])
    · have ln : i = (p.vaults.l.take i).length := by rw [List.length_take]; omega
      have af := fun H id' => app_fl cVlt_len H (p.vaults.l.take i) x id' i 96 ln (by omega) (by decide)
      (repeat' (first | simp (maxSteps := 2000000) -implicitDefEqProofs only [A_handoff_Record_L0, d0, d1, w1, g1, q1, af, blk_zVlt, slB_st, idx_lst cVlt_len, zr_shard, zr_to, zr_epoch, zr_vault, zr_vaults, len_lst, cells_lst, rk_ext, fk_ext, sm_c, sm_a, lr_api, lr_keep, lr_hand, lr, lr2, oO, oN, oG, oNG, oM, oF, oL, rg, ci, seval, resAll, resL, resV, blkAt, undef, fillV, evParts, footOp, wrOp, chk, disj] | split | ((first | apply ck_call | apply cfk_call); (first | (apply call_pure (kc) cll cl)))))
      exact hJ _ _ _ _ _ (by omega) ⟨i + 1, by omega, rfl, rfl, .inr ⟨by omega, rfl⟩⟩ (by refine .ren _ _ _ [0, 1, 5] (by decide) (by intro k h; first | exact absurd h (Nat.not_lt_zero k) | (simp at h; done) | (rcases k with _ | _ | _ | k <;> first | rfl | (exfalso; omega) | (simp at h; done))) ?_ ?_ <;> simp [KeepS, KeepH, ArgRel, ArgRelL, argL_cl, arg_cl, row_l_of, row_l_nil, bn_len, blkAt, argGG_Rec, hS, flat_closed cVlt_closed])
  · obtain rfl : i = p.vaults.l.length := by omega
    have d1 : ¬ (p.vaults.l.length : Int) < p.vaults.l.length := by omega
    unfold recP
    rcases hH with ⟨hi0, rfl⟩ | ⟨hi0, rfl⟩
    · have e0 : p.vaults.l = [] := List.length_eq_zero_iff.1 hi0
      rw [show lsOf p.vaults.l = .nil from by rw [e0]; rfl]
      (repeat' (first | simp (maxSteps := 2000000) -implicitDefEqProofs only [A_handoff_Record_L0, K_handoff_Record_L0, d1, zr_shard, zr_to, zr_epoch, zr_vault, zr_vaults, len_lst, cells_lst, rk_ext, fk_ext, sm_c, sm_a, lr_api, lr_keep, lr_hand, lr, lr2, oO, oN, oG, oNG, oM, oF, oL, rg, ci, seval, resAll, resL, resV, blkAt, undef, fillV, evParts, footOp, wrOp, chk, disj] | split))
      exact out_eq rfl cl
    · rw [lsOf_ne hi0]
      have hag : ∀ {H : Heap} {bs' : List Nat}, blkAt H 2 = some (p.vaults.l.flatMap cVlt) → 2 ∈ bs' → ArgRel H [] bs' (.agg (gRec_vaults ⟨3, p.shard, 0, p.epoch, Vlt.zero, .nil⟩ (.sref 2 0 p.vaults.l.length 42))) (.agg (cRec ⟨3, p.shard, 0, p.epoch, Vlt.zero, .of p.vaults.l⟩)) := fun hb hm =>
        arg_agg (argG_Rec_vaults _ (arg_lst cVlt_len cVlt_closed hb hm rfl))
      (repeat' (first | simp (maxSteps := 2000000) -implicitDefEqProofs only [A_handoff_Record_L0, K_handoff_Record_L0, d1, List.take_length, zr_shard, zr_to, zr_epoch, zr_vault, zr_vaults, len_lst, cells_lst, rk_ext, fk_ext, sm_c, sm_a, lr_api, lr_keep, lr_hand, lr, lr2, oO, oN, oG, oNG, oM, oF, oL, rg, ci, seval, resAll, resL, resV, blkAt, undef, fillV, evParts, footOp, wrOp, chk, disj] | split))
      exact out_show [2] (fun id h => by simp at h; subst h; exact ⟨_, rfl⟩) (hag rfl (by simp))
def tb (c to : Int) : UInt8 := by8 (IntKind.u8.wrap (IntKind.i64.wrap (c + to)))
theorem tb_eq (c to : Int) : IntKind.u8.wrap (IntKind.i64.wrap (c + to)) = ((tb c to).toNat : Int) := by
  have h : 0 ≤ IntKind.u8.wrap (IntKind.i64.wrap (c + to)) ∧ IntKind.u8.wrap (IntKind.i64.wrap (c + to)) ≤ 255 := by rw [IntKind.wrap_u8]; omega
  have := by8_V _ h.1 h.2
  simp only [u8V, V.sc.injEq, Value.int.injEq, true_and] at this
  exact this
theorem recP_le {p : Pcl} (h : RightR (recP p)) : (0 ≤ p.shard ∧ p.shard < 16) ∧ (1 ≤ p.epoch ∧ p.epoch ≤ 1099511627776) ∧ p.vaults.l.length ≤ 4 ∧ ∀ v ∈ p.vaults.l, v.secret.l.length ≤ 64 := by
  have h2 := h
  unfold RightR recP at h2
  rcases h2 with ⟨h3, _⟩ | ⟨he, h3 | h3 | h3⟩
  · cases h3
  · cases h3.1
  · have hr := h3.2.2
    simp only [lsOf_l] at hr
    exact ⟨⟨he.2.2.1, he.2.2.2.1⟩, ⟨he.1, he.2.1⟩, hr.1, fun v hv => by
      obtain ⟨i, hi, rfl⟩ := List.getElem_of_mem hv
      have := right_sec (hr.2 i hi).1
      rwa [List.getD_eq_getElem?_getD, List.getElem?_eq_getElem hi] at this⟩
  · cases h3.1
def ltrP (k : Bn 16) (to : Int) (p : Pcl) : List UInt8 := closeF k (p.epoch * 16 + p.shard).toNat (tb 64 to) (by8 p.frm :: putR (recP p))
set_option maxHeartbeats 2000000 in
theorem hclose_C (k : Bn 16) (to : Int) (p : Pcl) (h : RightR (recP p)) (hf : memb p.frm) (ht : memb to) :
    C Tryz.prog 10 [.agg (dg k), vi .i64 to, .agg (cPcl p)] [] (.tup [rowV (.of (ltrP k to p)), vi .i64 0]) [] := by
  obtain ⟨⟨s0, s1⟩, ⟨e0, e1⟩, n4, hsec⟩ := recP_le h
  have kr := hrecord_C p (by omega) (fun v hv => by have := hsec v hv; omega)
  have kc := record_C (recP p) h (by show 0 ≤ p.epoch; omega)
  have hle := putR_le h
  obtain ⟨s, hs⟩ := Int.eq_ofNat_of_zero_le s0
  obtain ⟨e, he⟩ := Int.eq_ofNat_of_zero_le (show 0 ≤ p.epoch by omega)
  have ks := hseedR_C s e (by omega) (by omega)
  have eN : (p.epoch * 16 + p.shard).toNat = e * 16 + s := by rw [hs, he]; omega
  unfold ltrP
  rw [eN]
  refine C_shutT (n := (closeF k (e * 16 + s) (tb 64 to) (by8 p.frm :: putR (recP p))).length) ?_ rfl trivial
  have co := closeO_C k (e * 16 + s) (tb 64 to) (.of (by8 p.frm :: putR (recP p))) (by rw [row_l_of, List.length_cons]; omega)
  rw [row_l_of] at co
  have m1 := hf.1
  have m2 : p.frm ≤ 255 := by have := hf.2; omega
  have wf : IntKind.u8.wrap p.frm = p.frm := by rw [IntKind.wrap_u8]; omega
  have wt := tb_eq 64 to
  have hS : Sm [by8 p.frm] (putR (recP p)).length := by simp only [Sm, List.length_cons, List.length_nil]; omega
  generalize putR (recP p) = R at *
  refine C_of mixed Tryz.func10 A_handoff_Close_ok A_handoff_Close_res _ A_handoff_Close_nt ?_
  (repeat' (first | simp (maxSteps := 2000000) -implicitDefEqProofs only [A_handoff_Close, hs, he, m1, m2, wf, wt, hS, zr_shard, zr_to, zr_epoch, zr_vault, zr_vaults, len_lst, cells_lst, rk_ext, fk_ext, sm_c, sm_a, lr_api, lr_keep, lr_hand, lr, lr2, oO, oN, oG, oNG, oM, oF, oL, rg, ci, seval, resAll, resL, resV, blkAt, undef, fillV, evParts, footOp, wrOp, chk, disj] | split | ((first | apply ck_call | apply cfk_call); (first | (apply call_pure (kr) cll cl) | (apply call_pure (kc) cll cl) | (apply call_pure (hmemberT_C _ hf) cll cl) | (apply call_pure (hmemberT_C _ ht) cll cl) | (apply call_pure (ks) cll cl) | (apply call_inT (co); (simp [ids_nil, ids_cons, ids_sc, ids_agg, ids_dg, ids_bs, ids_row, ids_ints, ids_sref, ids_ref, ids_sl, blkAt] <;> fail); (repeat' (first | exact args_n | apply args_c | (first | exact arg_closed _ cl | (refine arg_rowA rfl mem ?_; (first | rfl | omega | (simp [bn_len] <;> fail) | (simp [bn_len]; omega))) | (refine arg_row rfl mem ?_; (first | rfl | omega | (simp [bn_len] <;> fail) | (simp [bn_len]; omega))) | (refine arg_fld mem ?_ ?_; (first | rfl | omega | (simp [bn_len] <;> fail) | (simp [bn_len]; omega)); (simp only [zr_shard, zr_to, zr_epoch, zr_vault, zr_vaults, len_lst, cells_lst, rk_ext, fk_ext, sm_c, sm_a, lr_api, lr_keep, lr_hand, blkAt, List.getD_cons_zero, List.getD_cons_succ, Option.bind_some, rd_sE] <;> fail))))); (first | exact cl | exact cll); (first | exact nr | exact nrl); (first | exact cl | exact cll); (first | exact nr | exact nrl))))))
  exact out_rowT rfl trivial (bs_closed _)
theorem hcloseN_C (k : Bn 16) (to : Int) (p : Pcl) (hn : p.vaults.l.length ≤ 5) (hs : ∀ v ∈ p.vaults.l, v.secret.l.length ≤ 1000000) (he : 0 ≤ p.epoch) (h : ¬ (RightR (recP p) ∧ memb p.frm ∧ memb to)) :
    C Tryz.prog 10 [.agg (dg k), vi .i64 to, .agg (cPcl p)] [] (.tup [vnil, vi .i64 1]) [] := by
  have kr := hrecord_C p hn hs
  refine C_of mixed Tryz.func10 A_handoff_Close_ok A_handoff_Close_res _ A_handoff_Close_nt ?_
  by_cases h1 : RightR (recP p)
  · have kc := record_C (recP p) h1 he
    by_cases h2 : memb p.frm
    · have h3 : ¬ memb to := fun h3 => h ⟨h1, h2, h3⟩
      (repeat' (first | simp (maxSteps := 2000000) -implicitDefEqProofs only [A_handoff_Close, zr_shard, zr_to, zr_epoch, zr_vault, zr_vaults, len_lst, cells_lst, rk_ext, fk_ext, sm_c, sm_a, lr_api, lr_keep, lr_hand, lr, lr2, oO, oN, oG, oNG, oM, oF, oL, rg, ci, seval, resAll, resL, resV, blkAt, undef, fillV, evParts, footOp, wrOp, chk, disj] | split | ((first | apply ck_call | apply cfk_call); (first | (apply call_pure (kr) cll cl) | (apply call_pure (kc) cll cl) | (apply call_pure (hmemberT_C _ h2) cll cl) | (apply call_pure (hmemberF_C _ h3) cll cl)))))
      exact out_eq rfl cl
    · (repeat' (first | simp (maxSteps := 2000000) -implicitDefEqProofs only [A_handoff_Close, zr_shard, zr_to, zr_epoch, zr_vault, zr_vaults, len_lst, cells_lst, rk_ext, fk_ext, sm_c, sm_a, lr_api, lr_keep, lr_hand, lr, lr2, oO, oN, oG, oNG, oM, oF, oL, rg, ci, seval, resAll, resL, resV, blkAt, undef, fillV, evParts, footOp, wrOp, chk, disj] | split | ((first | apply ck_call | apply cfk_call); (first | (apply call_pure (kr) cll cl) | (apply call_pure (kc) cll cl) | (apply call_pure (hmemberF_C _ h2) cll cl)))))
      exact out_eq rfl cl
  · (repeat' (first | simp (maxSteps := 2000000) -implicitDefEqProofs only [A_handoff_Close, zr_shard, zr_to, zr_epoch, zr_vault, zr_vaults, len_lst, cells_lst, rk_ext, fk_ext, sm_c, sm_a, lr_api, lr_keep, lr_hand, lr, lr2, oO, oN, oG, oNG, oM, oF, oL, rg, ci, seval, resAll, resL, resV, blkAt, undef, fillV, evParts, footOp, wrOp, chk, disj] | split | ((first | apply ck_call | apply cfk_call); (first | (apply call_pure (kr) cll cl) | (apply call_pure (recordN_C _ h1) cll cl)))))
    exact out_eq rfl cl
def ltrT (k : Bn 16) (to : Int) (t : Tok) : List UInt8 := closeF k (t.epoch * 16 + t.shard).toNat (tb 96 to) (by8 t.frm :: by8 t.shard :: numF t.epoch.toNat)
set_option maxHeartbeats 2000000 in
theorem hthanks_C (k : Bn 16) (to : Int) (t : Tok) (h : RightT t) (ht : memb to) :
    C Tryz.prog 11 [.agg (dg k), vi .i64 to, .agg (cTok t)] [] (.tup [rowV (.of (ltrT k to t)), vi .i64 0]) [] := by
  obtain ⟨hf, ⟨s0, s1⟩, e0, e1⟩ := h
  obtain ⟨s, hs⟩ := Int.eq_ofNat_of_zero_le s0
  obtain ⟨e, he⟩ := Int.eq_ofNat_of_zero_le (show 0 ≤ t.epoch by omega)
  have ks := hseedR_C s e (by omega) (by omega)
  have eN : (t.epoch * 16 + t.shard).toNat = e * 16 + s := by rw [hs, he]; omega
  have eE : t.epoch.toNat = e := by rw [he]; rfl
  unfold ltrT
  rw [eN, eE, hs]
  have nl := numF_len e
  refine C_shutT (n := (closeF k (e * 16 + s) (tb 96 to) (by8 t.frm :: by8 s :: numF e)).length) ?_ rfl trivial
  have co := closeO_C k (e * 16 + s) (tb 96 to) (.of (by8 t.frm :: by8 s :: numF e)) (by rw [row_l_of, List.length_cons, List.length_cons]; omega)
  rw [row_l_of] at co
  have m1 := hf.1
  have m2 : t.frm ≤ 255 := by have := hf.2; omega
  have wf : IntKind.u8.wrap t.frm = t.frm := by rw [IntKind.wrap_u8]; have := hf.2; omega
  have n1 : (0 : Int) ≤ s := by omega
  have n2 : (s : Int) ≤ 255 := by omega
  have ws : IntKind.u8.wrap (s : Int) = s := by rw [IntKind.wrap_u8]; omega
  have wt := tb_eq 96 to
  have kn := number_C e
  have hS : Sm [by8 t.frm, by8 s] 8 := by simp only [Sm, List.length_cons, List.length_nil]; omega
  have tr := rightT_C t ⟨hf, ⟨s0, s1⟩, e0, e1⟩
  generalize numF e = R at *
  refine C_of mixed Tryz.func11 A_handoff_Thanks_ok A_handoff_Thanks_res _ A_handoff_Thanks_nt ?_
  (repeat' (first | simp (maxSteps := 2000000) -implicitDefEqProofs only [A_handoff_Thanks, hs, he, m1, m2, wf, n1, n2, ws, wt, hS, nl, zr_shard, zr_to, zr_epoch, zr_vault, zr_vaults, len_lst, cells_lst, rk_ext, fk_ext, sm_c, sm_a, lr_api, lr_keep, lr_hand, lr, lr2, oO, oN, oG, oNG, oM, oF, oL, rg, ci, seval, resAll, resL, resV, blkAt, undef, fillV, evParts, footOp, wrOp, chk, disj] | split | ((first | apply ck_call | apply cfk_call); (first | (apply call_pure (tr) cll cl) | (apply call_pure (hmemberT_C _ ht) cll cl) | (apply call_pure (ks) cll cl) | (apply call_new (kn) cll cll) | (apply call_inT (co); (simp [ids_nil, ids_cons, ids_sc, ids_agg, ids_dg, ids_bs, ids_row, ids_ints, ids_sref, ids_ref, ids_sl, blkAt] <;> fail); (repeat' (first | exact args_n | apply args_c | (first | exact arg_closed _ cl | (refine arg_rowA rfl mem ?_; (first | rfl | omega | (simp [bn_len] <;> fail) | (simp [bn_len]; omega))) | (refine arg_row rfl mem ?_; (first | rfl | omega | (simp [bn_len] <;> fail) | (simp [bn_len]; omega))) | (refine arg_fld mem ?_ ?_; (first | rfl | omega | (simp [bn_len] <;> fail) | (simp [bn_len]; omega)); (simp only [zr_shard, zr_to, zr_epoch, zr_vault, zr_vaults, len_lst, cells_lst, rk_ext, fk_ext, sm_c, sm_a, lr_api, lr_keep, lr_hand, blkAt, List.getD_cons_zero, List.getD_cons_succ, Option.bind_some, rd_sE] <;> fail))))); (first | exact cl | exact cll); (first | exact nr | exact nrl); (first | exact cl | exact cll); (first | exact nr | exact nrl))))))
  exact out_rowT rfl trivial (bs_closed _)
theorem hthanksN_C (k : Bn 16) (to : Int) (t : Tok) (h : ¬ (RightT t ∧ memb to)) :
    C Tryz.prog 11 [.agg (dg k), vi .i64 to, .agg (cTok t)] [] (.tup [vnil, vi .i64 1]) [] := by
  refine C_of mixed Tryz.func11 A_handoff_Thanks_ok A_handoff_Thanks_res _ A_handoff_Thanks_nt ?_
  by_cases h1 : memb to
  · (repeat' (first | simp (maxSteps := 2000000) -implicitDefEqProofs only [A_handoff_Thanks, zr_shard, zr_to, zr_epoch, zr_vault, zr_vaults, len_lst, cells_lst, rk_ext, fk_ext, sm_c, sm_a, lr_api, lr_keep, lr_hand, lr, lr2, oO, oN, oG, oNG, oM, oF, oL, rg, ci, seval, resAll, resL, resV, blkAt, undef, fillV, evParts, footOp, wrOp, chk, disj] | split | ((first | apply ck_call | apply cfk_call); (first | (apply call_pure (hmemberT_C _ h1) cll cl) | (apply call_pure (rightTF_C _ (fun h2 => h ⟨h2, h1⟩)) cll cl)))))
    exact out_eq rfl cl
  · (repeat' (first | simp (maxSteps := 2000000) -implicitDefEqProofs only [A_handoff_Thanks, zr_shard, zr_to, zr_epoch, zr_vault, zr_vaults, len_lst, cells_lst, rk_ext, fk_ext, sm_c, sm_a, lr_api, lr_keep, lr_hand, lr, lr2, oO, oN, oG, oNG, oM, oF, oL, rg, ci, seval, resAll, resL, resV, blkAt, undef, fillV, evParts, footOp, wrOp, chk, disj] | split | ((first | apply ck_call | apply cfk_call); (first | (apply call_pure (hmemberF_C _ h1) cll cl)))))
    exact out_eq rfl cl
end Go.Proofs.YtfpoebmihjbknaaGreat.VA
