/- HandoffNumbers. -/
import Derived.Test.YtfpoebmihjbknaaGreatGhand
import Derived.Test.YtfpoebmihjbknaaGreatVC
set_option linter.unusedVariables false
set_option linter.unusedSimpArgs false
set_option maxRecDepth 100000
namespace Go.Proofs.YtfpoebmihjbknaaGreat.VA
open Go
attribute [local irreducible] WK NK XK TK RK FK CK CFK CallRel C
attribute [local irreducible] putR sealF textF fits recS closeF
set_option maxHeartbeats 4000000 in
theorem same19_C (k : Bn 16) (to : Int) (p : Pcl) (hn : p.vaults.l.length ≤ 5) (hs : ∀ v ∈ p.vaults.l, v.secret.l.length ≤ 1000000) (he : 0 ≤ p.epoch) (t : Tok) :
    C Tryz.prog 4 [.agg (dg k), vi .i64 to, .agg (cPcl p), .agg (cTok t)] [] (vb true) [] := by
  have o1 := fun b => opens_C k to b
  have o2 := fun b => opens_C k (IntKind.i64.wrap (to + 1)) b
  have on1 : C Tryz.prog 7 [.agg (dg k), vi .i64 to, vnil] [] (vb true) [] := opens_C k to .nil
  have on2 : C Tryz.prog 7 [.agg (dg k), vi .i64 (IntKind.i64.wrap (to + 1)), vnil] [] (vb true) [] := opens_C k _ .nil
  by_cases hP : RightR (recP p) ∧ memb p.frm ∧ memb to
  · have a1 := hclose_C k to p hP.1 hP.2.1 hP.2.2
    have a2 := closed_C k to p hP.1 hP.2.1 hP.2.2
    by_cases hT : RightT t
    · have b1 := hthanks_C k to t hT hP.2.2
      have b2 := lthanks_C k to t hT hP.2.2
      generalize ltrP k to p = A at *
      generalize ltrT k to t = B at *
      refine C_of mixed Tryz.func4 A_clavigerlaw19_same_ok A_clavigerlaw19_same_res _ A_clavigerlaw19_same_nt ?_
      (repeat' (first | simp (maxSteps := 2000000) -implicitDefEqProofs only [A_clavigerlaw19_same, len_lst, cells_lst, rk_ext, fk_ext, sm_c, sm_a, lrp, lr_api, lr_keep, lr_hand, lr, lr2, oO, oN, oG, oNG, oM, oF, oL, rg, ci, seval, resAll, resL, resV, blkAt, undef, fillV, evParts, footOp, wrOp, chk, disj] | split | ((first | apply ck_call | apply cfk_call); (first | (apply call_pure (a1) cll cl) | (apply call_pure (a2) cll cl) | (apply call_pure (b1) cll cl) | (apply call_pure (b2) cll cl) | (apply call_pure (o1 _) cll cl) | (apply call_pure (o2 _) cll cl)))))
      all_goals (exact out_eq rfl cl)
    · have b1 := hthanksN_C k to t (fun h => hT h.1)
      have b2 := lthanksN_C k to t (fun h => hT h.1)
      generalize ltrP k to p = A at *
      refine C_of mixed Tryz.func4 A_clavigerlaw19_same_ok A_clavigerlaw19_same_res _ A_clavigerlaw19_same_nt ?_
      (repeat' (first | simp (maxSteps := 2000000) -implicitDefEqProofs only [A_clavigerlaw19_same, len_lst, cells_lst, rk_ext, fk_ext, sm_c, sm_a, lrp, lr_api, lr_keep, lr_hand, lr, lr2, oO, oN, oG, oNG, oM, oF, oL, rg, ci, seval, resAll, resL, resV, blkAt, undef, fillV, evParts, footOp, wrOp, chk, disj] | split | ((first | apply ck_call | apply cfk_call); (first | (apply call_pure (a1) cll cl) | (apply call_pure (a2) cll cl) | (apply call_pure (b1) cll cl) | (apply call_pure (b2) cll cl) | (apply call_pure (on1) cll cl) | (apply call_pure (o1 _) cll cl) | (apply call_pure (o2 _) cll cl)))))
      all_goals (exact out_eq rfl cl)
  · have a1 := hcloseN_C k to p hn hs he hP
    have a2 := closedN_C k to p hP
    by_cases hT : RightT t ∧ memb to
    · have b1 := hthanks_C k to t hT.1 hT.2
      have b2 := lthanks_C k to t hT.1 hT.2
      generalize ltrT k to t = B at *
      refine C_of mixed Tryz.func4 A_clavigerlaw19_same_ok A_clavigerlaw19_same_res _ A_clavigerlaw19_same_nt ?_
      (repeat' (first | simp (maxSteps := 2000000) -implicitDefEqProofs only [A_clavigerlaw19_same, len_lst, cells_lst, rk_ext, fk_ext, sm_c, sm_a, lrp, lr_api, lr_keep, lr_hand, lr, lr2, oO, oN, oG, oNG, oM, oF, oL, rg, ci, seval, resAll, resL, resV, blkAt, undef, fillV, evParts, footOp, wrOp, chk, disj] | split | ((first | apply ck_call | apply cfk_call); (first | (apply call_pure (a1) cll cl) | (apply call_pure (a2) cll cl) | (apply call_pure (b1) cll cl) | (apply call_pure (b2) cll cl) | (apply call_pure (on1) cll cl) | (apply call_pure (on2) cll cl) | (apply call_pure (o1 _) cll cl)))))
      all_goals (exact out_eq rfl cl)
    · have b1 := hthanksN_C k to t hT
      have b2 := lthanksN_C k to t hT
      refine C_of mixed Tryz.func4 A_clavigerlaw19_same_ok A_clavigerlaw19_same_res _ A_clavigerlaw19_same_nt ?_
      (repeat' (first | simp (maxSteps := 2000000) -implicitDefEqProofs only [A_clavigerlaw19_same, len_lst, cells_lst, rk_ext, fk_ext, sm_c, sm_a, lrp, lr_api, lr_keep, lr_hand, lr, lr2, oO, oN, oG, oNG, oM, oF, oL, rg, ci, seval, resAll, resL, resV, blkAt, undef, fillV, evParts, footOp, wrOp, chk, disj] | split | ((first | apply ck_call | apply cfk_call); (first | (apply call_pure (a1) cll cl) | (apply call_pure (a2) cll cl) | (apply call_pure (b1) cll cl) | (apply call_pure (b2) cll cl) | (apply call_pure (on1) cll cl) | (apply call_pure (on2) cll cl)))))
      all_goals (exact out_eq rfl cl)
theorem hofN_C (n : Int) : C Tryz.prog 8 [.sc (.pointer none), vi .i64 n] [] (.tup [.agg (cPcl Pcl.zero), vi .i64 0, vb false]) [] := by
  refine C_of mixed Tryz.func8 A_handoff_Of_ok A_handoff_Of_res _ A_handoff_Of_nt ?_
  (repeat' (first | simp (maxSteps := 2000000) -implicitDefEqProofs only [A_handoff_Of, len_lst, cells_lst, rk_ext, fk_ext, sm_c, sm_a, lrp, lr_api, lr_keep, lr_hand, lr, lr2, oO, oN, oG, oNG, oM, oF, oL, rg, ci, seval, resAll, resL, resV, blkAt, undef, fillV, evParts, footOp, wrOp, chk, disj] | split))
  exact out_eq rfl cl
theorem give_lst {α : Type} {c : α → List V} {sz : Nat} (hc : ∀ x, (c x).length = sz) (hcl : ∀ x, ClosedL (c x)) {H : Heap} {id n : Nat} {l : List α} {a b cc : List V} (hn : n = l.length) (h : GiveL H id (l.flatMap c) a b cc) :
    GiveL H id (l.flatMap c) (.sref id 0 n sz :: a) (.sref 0 0 n sz :: b) (lstV c (.of l) :: cc) := by
  subst hn
  have hl := flat_len hc l
  have := give_s (off := 0) (n := l.length) (sz := sz) (cells := l.flatMap c) (by omega) (flat_closed hcl l) h
  rwa [List.drop_zero, List.take_of_length_le (by omega)] at this
theorem kvz1 : splice (cKV KV.zero) 3 [vi .i64 3] = cKV ⟨0, 0, 0, 3, 0, 0, 0, .nil⟩ := rfl
theorem kvz2 : splice (cKV KV.zero) 5 [vi .i64 3] = cKV ⟨0, 0, 0, 0, 0, 3, 0, .nil⟩ := rfl
def ls19 : List KV := [⟨0, 0, 0, 3, 0, 0, 0, .nil⟩, ⟨0, 0, 0, 0, 0, 3, 0, .nil⟩]
theorem kv3 : (cKV KV.zero ++ cKV KV.zero).length = 16 := rfl
theorem kv4 : splice (cKV KV.zero ++ cKV KV.zero) 0 (cKV ⟨0, 0, 0, 3, 0, 0, 0, .nil⟩) = cKV ⟨0, 0, 0, 3, 0, 0, 0, .nil⟩ ++ cKV KV.zero := rfl
theorem kv5 : (cKV ⟨0, 0, 0, 3, 0, 0, 0, .nil⟩ ++ cKV KV.zero).length = 16 := rfl
theorem kv6 : splice (cKV ⟨0, 0, 0, 3, 0, 0, 0, .nil⟩ ++ cKV KV.zero) 8 (cKV ⟨0, 0, 0, 0, 0, 3, 0, .nil⟩) = ls19.flatMap cKV := rfl
theorem blk_zKV (l : List V) : blkOf zKV l = l := rfl
def k6 : Bn 16 := (Bn.zero 16).set 0 (by8 6)
set_option maxHeartbeats 16000000 in
theorem handoffNumbers_C : C Tryz.prog 3 [] [] (vb true) [] := by
  refine C_of mixed Tryz.func3 A_clavigerlaw19_HandoffNumbers_ok A_clavigerlaw19_HandoffNumbers_res _ A_clavigerlaw19_HandoffNumbers_nt ?_
  (repeat' (first | simp (maxSteps := 2000000) -implicitDefEqProofs only [A_clavigerlaw19_HandoffNumbers, len_lst, cells_lst, rk_ext, fk_ext, sm_c, sm_a, lrp, lr_api, lr_keep, lr_hand, lr, lr2, oO, oN, oG, oNG, oM, oF, oL, rg, ci, seval, resAll, resL, resV, blkAt, undef, fillV, evParts, footOp, wrOp, chk, disj] | split))
  refine wk_loop (fun m S H => ∃ i : Nat, i ≤ 11 ∧ m = 11 - i ∧ S = (.dead :: .ref 0 0 :: vi .i64 ((i : Int) - 1) :: .dead :: .dead :: .dead :: .dead :: .dead :: .dead :: .dead :: .dead :: .dead :: .dead :: .dead :: .dead :: .dead :: .dead :: .dead :: .dead :: .dead :: .dead :: .dead :: .dead :: .dead :: .dead :: .dead :: .dead :: .dead :: .dead :: .dead :: .dead :: .dead :: .dead :: .dead :: .dead :: .dead :: .dead :: .dead :: .dead :: .dead :: .dead :: .dead :: .dead :: .dead :: .dead :: .dead :: .dead :: .dead :: .dead :: .dead :: .dead :: .dead :: .dead :: .dead :: .dead :: .dead :: .dead :: .dead :: .dead :: .dead :: .dead :: .dead :: .dead :: .dead :: .dead :: .dead :: .dead :: .dead :: .dead :: .dead :: .dead :: .dead :: .dead :: .dead :: .dead :: .dead :: .dead :: .dead :: .dead :: .dead :: .dead :: .dead :: .dead :: .dead :: .dead :: .dead :: .dead :: .dead :: .dead :: .dead :: .dead :: .dead :: .dead :: .dead :: .dead :: .dead :: .dead :: []) ∧ H = [some (dg k6)]) 11 ⟨0, by decide, rfl, rfl, rfl⟩ (by refine .ren _ _ _ [0] (by decide) (by intro k h; first | exact absurd h (Nat.not_lt_zero k) | (simp at h; done) | (rcases k with _ | _ | _ | k <;> first | rfl | (exfalso; omega) | (simp at h; done))) ?_ ?_ <;> simp [KeepS, KeepH, ArgRel, ArgRelL, argL_cl, arg_cl, row_l_of, row_l_nil, bn_len, blkAt, k6]) ?_
  rintro m S H ⟨i, hi, rfl, rfl, rfl⟩ J hJ
  by_cases hin : i < 11
  · have d1 : (i : Int) - 1 < 10 := by omega
    have w1 : IntKind.i64.wrap ((i : Int) - 1 + 1) = ((i + 1 : Nat) : Int) - 1 := by rw [wrap_id _ (by omega) (by omega)]; omega
    (repeat' (first | simp (maxSteps := 2000000) -implicitDefEqProofs only [A_clavigerlaw19_HandoffNumbers_L2, d1, len_lst, cells_lst, rk_ext, fk_ext, sm_c, sm_a, lrp, lr_api, lr_keep, lr_hand, lr, lr2, oO, oN, oG, oNG, oM, oF, oL, rg, ci, seval, resAll, resL, resV, blkAt, undef, fillV, evParts, footOp, wrOp, chk, disj] | split))
    refine wk_loop (fun m S H => ∃ j : Nat, j ≤ 11 ∧ m = 11 - j ∧ S = (.dead :: .ref 0 0 :: vi .i64 ((i : Int) - 1) :: vi .i64 ((j : Int) - 1) :: .dead :: .dead :: .dead :: .dead :: .dead :: .dead :: .dead :: .dead :: .dead :: .dead :: .dead :: .dead :: .dead :: .dead :: .dead :: .dead :: .dead :: .dead :: .dead :: .dead :: .dead :: .dead :: .dead :: .dead :: .dead :: .dead :: .dead :: .dead :: .dead :: .dead :: .dead :: .dead :: .dead :: .dead :: .dead :: .dead :: .dead :: .dead :: .dead :: .dead :: .dead :: .dead :: .dead :: .dead :: .dead :: .dead :: .dead :: .dead :: .dead :: .dead :: .dead :: .dead :: .dead :: .dead :: .dead :: .dead :: .dead :: .dead :: .dead :: .dead :: .dead :: .dead :: .dead :: .dead :: .dead :: .dead :: .dead :: .dead :: .dead :: .dead :: .dead :: .dead :: .dead :: .dead :: .dead :: .dead :: .dead :: .dead :: .dead :: .dead :: .dead :: .dead :: .dead :: .dead :: .dead :: .dead :: .dead :: .dead :: .dead :: .dead :: .dead :: .dead :: .dead :: []) ∧ H = [some (dg k6)]) 11 ⟨0, by decide, rfl, rfl, rfl⟩ (by refine .ren _ _ _ [0] (by decide) (by intro k h; first | exact absurd h (Nat.not_lt_zero k) | (simp at h; done) | (rcases k with _ | _ | _ | k <;> first | rfl | (exfalso; omega) | (simp at h; done))) ?_ ?_ <;> simp [KeepS, KeepH, ArgRel, ArgRelL, argL_cl, arg_cl, row_l_of, row_l_nil, bn_len, blkAt]) ?_
    rintro m' S' H' ⟨j, hj, rfl, rfl, rfl⟩ J' hJ'
    by_cases hjn : j < 11
    · have e1 : (j : Int) - 1 < 10 := by omega
      have v1 : IntKind.i64.wrap ((j : Int) - 1 + 1) = (j : Int) := by rw [wrap_id _ (by omega) (by omega)]; omega
      have v2 : IntKind.u64.wrap (j : Int) = j := by rw [IntWalk.u64_in _ ⟨by omega, by omega⟩]
      have v3 : ((j + 1 : Nat) : Int) - 1 = j := by omega
      have sm := fun s : Int => same19_C k6 ((j : Int) - 1) ⟨(i : Int) - 1, s, j, .nil⟩ (Nat.zero_le _) (fun v h => (by cases h)) (by show (0 : Int) ≤ j; omega) ⟨(i : Int) - 1, s, j⟩
      (repeat' (first | simp (maxSteps := 2000000) -implicitDefEqProofs only [A_clavigerlaw19_HandoffNumbers_L1, e1, len_lst, cells_lst, rk_ext, fk_ext, sm_c, sm_a, lrp, lr_api, lr_keep, lr_hand, lr, lr2, oO, oN, oG, oNG, oM, oF, oL, rg, ci, seval, resAll, resL, resV, blkAt, undef, fillV, evParts, footOp, wrOp, chk, disj] | split))
      refine wk_unroll 5 ?_
      (repeat' (first | simp (maxSteps := 2000000) -implicitDefEqProofs only [A_clavigerlaw19_HandoffNumbers_L0, v1, v2, zp_v, len_lst, cells_lst, rk_ext, fk_ext, sm_c, sm_a, lrp, lr_api, lr_keep, lr_hand, lr, lr2, oO, oN, oG, oNG, oM, oF, oL, rg, ci, seval, resAll, resL, resV, blkAt, undef, fillV, evParts, footOp, wrOp, chk, disj] | split | ((first | apply ck_call | apply cfk_call); (first | (apply call_pure (sm _) cll cl)))))
      exact hJ' _ _ _ _ _ (by omega) ⟨j + 1, by omega, rfl, rfl, rfl⟩ (by refine .ren _ _ _ [0] (by decide) (by intro k h; first | exact absurd h (Nat.not_lt_zero k) | (simp at h; done) | (rcases k with _ | _ | _ | k <;> first | rfl | (exfalso; omega) | (simp at h; done))) ?_ ?_ <;> simp [KeepS, KeepH, ArgRel, ArgRelL, argL_cl, arg_cl, row_l_of, row_l_nil, bn_len, blkAt, v3])
    · obtain rfl : j = 11 := by omega
      have e1 : ¬ ((11 : Nat) : Int) - 1 < 10 := by decide
      (repeat' (first | simp (maxSteps := 2000000) -implicitDefEqProofs only [A_clavigerlaw19_HandoffNumbers_L1, e1, w1, len_lst, cells_lst, rk_ext, fk_ext, sm_c, sm_a, lrp, lr_api, lr_keep, lr_hand, lr, lr2, oO, oN, oG, oNG, oM, oF, oL, rg, ci, seval, resAll, resL, resV, blkAt, undef, fillV, evParts, footOp, wrOp, chk, disj] | split))
      exact hJ _ _ _ _ _ (by omega) ⟨i + 1, by omega, rfl, rfl, rfl⟩ (by refine .ren _ _ _ [0] (by decide) (by intro k h; first | exact absurd h (Nat.not_lt_zero k) | (simp at h; done) | (rcases k with _ | _ | _ | k <;> first | rfl | (exfalso; omega) | (simp at h; done))) ?_ ?_ <;> simp [KeepS, KeepH, ArgRel, ArgRelL, argL_cl, arg_cl, row_l_of, row_l_nil, bn_len, blkAt])
  · obtain rfl : i = 11 := by omega
    have d1 : ¬ ((11 : Nat) : Int) - 1 < 10 := by decide
    have hg : ∀ x ∈ ls19, 0 ≤ x.gen := by decide
    have kk : C Tryz.prog 6 [lstV cKV (.of ls19), vi .i64 5] [] (lstV cVlt (lsOf (keepVs ls19 5))) [] := keepVs_C (.of ls19) 5 (by decide) hg
    have hri := keepVs_rising ls19 5 hg
    generalize hV : lsOf (keepVs ls19 5) = vs at *
    have hVl : vs.l = keepVs ls19 5 := by rw [← hV]; exact lsOf_l _
    rw [← hVl] at hri
    have hR : RightR (recP ⟨1, 5, 7, vs⟩) := .inr ⟨⟨by show (1 : Int) ≤ 7; decide, by show (7 : Int) ≤ 1099511627776; decide, by show (0 : Int) ≤ 5; decide, by show (5 : Int) < 16; decide, sameV_zero⟩, .inr (.inl ⟨rfl, rfl, by show RisingP (lsOf vs.l).l; rw [lsOf_l]; exact hri⟩)⟩
    have hle := putR_le hR
    have m1 : memb 1 := ⟨by decide, by decide⟩
    have m3 : memb 3 := ⟨by decide, by decide⟩
    have bc := closed_C k6 3 ⟨1, 5, 7, vs⟩ hR m1 m3
    have hAl : (ltrP k6 3 ⟨1, 5, 7, vs⟩).length ≤ 2000 := by
      unfold ltrP
      rw [close_len _ _ _ _ (by rw [List.length_cons]; omega), List.length_cons]; omega
    generalize ltrP k6 3 ⟨1, 5, 7, vs⟩ = A at *
    clear hR hri hVl hV hle
    have ofn := hofN_C 3
    have op := fun b => opens_C k6 3 b
    (repeat' (first | simp (maxSteps := 2000000) -implicitDefEqProofs only [A_clavigerlaw19_HandoffNumbers_L2, K_clavigerlaw19_HandoffNumbers_L2, d1, kvz1, kvz2, kv3, kv4, kv5, kv6, blk_zKV, len_lst, cells_lst, rk_ext, fk_ext, sm_c, sm_a, lrp, lr_api, lr_keep, lr_hand, lr, lr2, oO, oN, oG, oNG, oM, oF, oL, rg, ci, seval, resAll, resL, resV, blkAt, undef, fillV, evParts, footOp, wrOp, chk, disj] | split))
    refine cfk_call _ _ (call_give kk cl rfl (flat_closed cKV_closed _) (by simp [idsInL, idsIn]) (give_lst cKV_len cKV_closed rfl (give_c cl give_n))) ?_
    (repeat' (first | simp (maxSteps := 2000000) -implicitDefEqProofs only [zp_v, len_lst, cells_lst, rk_ext, fk_ext, sm_c, sm_a, lrp, lr_api, lr_keep, lr_hand, lr, lr2, oO, oN, oG, oNG, oM, oF, oL, rg, ci, seval, resAll, resL, resV, blkAt, undef, fillV, evParts, footOp, wrOp, chk, disj] | split | ((first | apply ck_call | apply cfk_call); (first | (apply call_pure (bc) cll cl)))))
    refine wk_loop (fun m S H => ∃ i : Nat, i ≤ A.length ∧ m = A.length - i ∧ S = (.dead :: .ref 0 0 :: .dead :: .dead :: .dead :: .dead :: rowV (.of A) :: .dead :: vi .i64 i :: .dead :: .dead :: .dead :: .dead :: .dead :: .dead :: .dead :: .dead :: .dead :: .dead :: .dead :: .dead :: .dead :: .dead :: .dead :: .dead :: .dead :: .dead :: .dead :: .dead :: .dead :: .dead :: .dead :: .dead :: .dead :: .dead :: .dead :: .dead :: .dead :: .dead :: .dead :: .dead :: .dead :: .dead :: .dead :: .dead :: .dead :: .dead :: .dead :: .dead :: .dead :: .dead :: .dead :: .dead :: .dead :: .dead :: .dead :: .dead :: .dead :: .dead :: .dead :: .dead :: .dead :: .dead :: .dead :: .dead :: .dead :: .dead :: .dead :: .dead :: .dead :: .dead :: .dead :: .dead :: .dead :: .dead :: .dead :: .dead :: .dead :: .dead :: .dead :: .dead :: .dead :: .dead :: .dead :: .dead :: .dead :: .dead :: .dead :: .dead :: .dead :: .dead :: .dead :: .dead :: .dead :: .dead :: .dead :: .dead :: []) ∧ H = [some (dg k6)]) A.length ⟨0, Nat.zero_le _, rfl, rfl, rfl⟩ (by refine .ren _ _ _ [0] (by decide) (by intro k h; first | exact absurd h (Nat.not_lt_zero k) | (simp at h; done) | (rcases k with _ | _ | _ | k <;> first | rfl | (exfalso; omega) | (simp at h; done))) ?_ ?_ <;> simp [KeepS, KeepH, ArgRel, ArgRelL, argL_cl, arg_cl, row_l_of, row_l_nil, bn_len, blkAt]) ?_
    rintro m S H ⟨i, hi, rfl, rfl, rfl⟩ J' hJ'
    have f0 : (0 : Int) ≤ i := by omega
    by_cases hin : i < A.length
    · have f1 : (i : Int) < A.length := by omega
      have f2 : (i : Int) ≤ A.length := by omega
      have f3 : i + 1 ≤ A.length := by omega
      have f4 : A.length ≤ 140737488355328 := by omega
      have v1 : IntKind.i64.wrap ((i : Int) + 1) = ((i + 1 : Nat) : Int) := by rw [wrap_id _ (by omega) (by omega)]; omega
      have g1 := rd_bs A i hin
      have x1 : evBin .xor (vi .u8 (A.getD i 0).toNat) (vi .u8 2) = some (vi .u8 (A.getD i 0 ^^^ 2).toNat) := xor_u8 (A.getD i 0) 2
      have s1 : splice (bs A) i [vi .u8 (A.getD i 0 ^^^ 2).toNat] = bs (A.set i (A.getD i 0 ^^^ 2)) := sp_bsV A i _ hin
      have hL : (A.set i (A.getD i 0 ^^^ 2)).length = A.length := List.length_set
      have o3 := op (.of (A.set i (A.getD i 0 ^^^ 2)))
      generalize A.set i (A.getD i 0 ^^^ 2) = B at *
      (repeat' (first | simp (maxSteps := 2000000) -implicitDefEqProofs only [A_clavigerlaw19_HandoffNumbers_L3, f0, f1, f2, f3, f4, v1, g1, x1, s1, app_bs0, len_lst, cells_lst, rk_ext, fk_ext, sm_c, sm_a, lrp, lr_api, lr_keep, lr_hand, lr, lr2, oO, oN, oG, oNG, oM, oF, oL, rg, ci, seval, resAll, resL, resV, blkAt, undef, fillV, evParts, footOp, wrOp, chk, disj] | split | ((first | apply ck_call | apply cfk_call); (first | (apply call_roA (o3); (simp [ids_nil, ids_cons, ids_sc, ids_agg, ids_dg, ids_bs, ids_row, ids_ints, ids_sref, ids_ref, ids_sl, blkAt] <;> fail); (repeat' (first | exact args_n | apply args_c | (first | exact arg_closed _ cl | (refine arg_rowA rfl mem ?_; (first | rfl | omega | (simp [bn_len] <;> fail) | (simp [bn_len]; omega))) | (refine arg_row rfl mem ?_; (first | rfl | omega | (simp [bn_len] <;> fail) | (simp [bn_len]; omega))) | (refine arg_fld mem ?_ ?_; (first | rfl | omega | (simp [bn_len] <;> fail) | (simp [bn_len]; omega)); (simp only [len_lst, cells_lst, rk_ext, fk_ext, sm_c, sm_a, lrp, lr_api, lr_keep, lr_hand, blkAt, List.getD_cons_zero, List.getD_cons_succ, Option.bind_some, rd_sE] <;> fail))))); (first | exact cl | exact cll); (first | exact nr | exact nrl)) | (apply call_pure (op _) cll cl)))))
      exact hJ' _ _ _ _ _ (by omega) ⟨i + 1, by omega, rfl, rfl, rfl⟩ (by refine .ren _ _ _ [0] (by decide) (by intro k h; first | exact absurd h (Nat.not_lt_zero k) | (simp at h; done) | (rcases k with _ | _ | _ | k <;> first | rfl | (exfalso; omega) | (simp at h; done))) ?_ ?_ <;> simp [KeepS, KeepH, ArgRel, ArgRelL, argL_cl, arg_cl, row_l_of, row_l_nil, bn_len, blkAt])
    · obtain rfl : i = A.length := by omega
      have f1 : ¬ (A.length : Int) < A.length := by omega
      (repeat' (first | simp (maxSteps := 2000000) -implicitDefEqProofs only [A_clavigerlaw19_HandoffNumbers_L3, K_clavigerlaw19_HandoffNumbers_L3, f0, f1, len_lst, cells_lst, rk_ext, fk_ext, sm_c, sm_a, lrp, lr_api, lr_keep, lr_hand, lr, lr2, oO, oN, oG, oNG, oM, oF, oL, rg, ci, seval, resAll, resL, resV, blkAt, undef, fillV, evParts, footOp, wrOp, chk, disj] | split | ((first | apply ck_call | apply cfk_call); (first | (apply call_pure (ofn) cll cl) | (apply call_pure (op _) cll cl) | (apply call_pure (known19_C) cll cl)))))
      all_goals (refine out_eq ?_ (cl); first | rfl | (simp_all []; done) | (simp_all []; intros; omega) | (simp []; (repeat' split) <;> first | rfl | omega | (simp_all; done) | (simp_all; intros; omega)))
end Go.Proofs.YtfpoebmihjbknaaGreat.VA
