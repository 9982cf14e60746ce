/- JournalTells (seat .Z). -/
import Derived.Test.YtmmaenfjnkoknaaGreatXjou
import Derived.Test.YtmmaenfjnkoknaaGreatVC
set_option linter.unusedVariables false
set_option linter.unusedSimpArgs false
set_option maxRecDepth 100000
namespace Go.Proofs.YtmmaenfjnkoknaaGreat.VA
open Go
attribute [local irreducible] WK NK XK TK RK FK CK CFK CallRel C
attribute [local irreducible] sealF textF fits sumF heldR rightR frec headF imgR loadF ldN baseO dkW rkW rgW cutF
theorem within_nat (n : Int) (hi : Nat) (h : hi ≤ 2147483647) : ∃ m : Nat, within n 0 hi = m ∧ m ≤ hi := by
  have h0 : (0 : Int) < hi - 0 + 1 := by omega
  have hr := Int.tmod_lt_of_pos n h0
  have hr2 := Int.lt_tmod_of_pos n h0
  refine ⟨(within n 0 hi).toNat, ?_, ?_⟩
  · unfold within
    split
    · omega
    · split
      · omega
      · omega
  · unfold within
    split
    · omega
    · split
      · omega
      · omega
theorem cut_le (r : Row) (n : Nat) : (cutF r n).l.length ≤ n := by rw [cutF_l, List.length_take]; omega
set_option maxHeartbeats 8000000 in
theorem journalTells_C (k : Bn 16) (l : Lst KR) (hl : ∀ x ∈ l.l, x.fine) (raw : Rgr) (c b : Nat) (hc : raw.count = c) (hb : raw.base = b) (slot at_ : Int) (bb : Row) (off : Nat) :
    C Tryz.prog 6 [.agg (dg k), lstV cKR l, .agg (cRgr raw), vi .i64 slot, vi .i64 at_, rowV bb, vi .u64 off] [] (vb true) [] := by
  have hfine : ∀ i, i < l.l.length → (l.l.getD i default).fine := fun i h => by
    rw [List.getD_eq_getElem?_getD, List.getElem?_eq_getElem h]
    exact hl _ (List.getElem_mem _)
  have kw := write_C k l hl 25 (by decide)
  generalize hN : min l.l.length 25 = N at *
  have hNl : N ≤ l.l.length := by omega
  have hN25 : N ≤ 25 := by omega
  have hD := dkW_fine k l.l hfine N hNl
  have hK := rkW_ok k l.l N
  have hM := mirr_W k l.l N
  have hcnt : (rgW k l.l N).count = (N : Int) := (rgW_f k l.l N).1
  have hbas := (rgW_f k l.l N).2.1
  have L1 := load10_C k _ _ hD hK hM (rgW k l.l N) N (8 * (N / 8)) hcnt hbas
  have L2 := load10_C k _ _ hD hK hM raw c b hc hb
  obtain ⟨q, hq⟩ : ∃ q : Nat, q = min (N + 1) 4 := ⟨_, rfl⟩
  have hq0 : ¬ (q : Int) = 0 := by omega
  have hmin : min (((N + 1 : Nat)) : Int) 4 = (q : Int) := by omega
  have hoq : off % q ≤ N := by
    have := Nat.mod_lt off (show 0 < q by omega)
    omega
  have tm : Int.tmod (off : Int) q = ((off % q : Nat) : Int) := (Int.ofNat_tmod off q).symm
  have w1 : IntKind.u64.wrap ((N : Int) + 1) = ((N + 1 : Nat) : Int) := by rw [IntWalk.u64_in _ ⟨by omega, by omega⟩]; omega
  have w2 : IntKind.u64.wrap ((N : Int) - ((off % q : Nat) : Int)) = ((N - off % q : Nat) : Int) := by rw [IntWalk.u64_in _ ⟨by omega, by omega⟩]; omega
  have L3 := load10_C k _ _ hD hK hM { rgW k l.l N with count := ((N - off % q : Nat) : Int) } (N - off % q) (8 * (N / 8)) rfl hbas
  obtain ⟨n, hn, hn9⟩ := within_nat slot 9 (by decide)
  obtain ⟨t, ht, ht60⟩ := within_nat at_ 60 (by decide)
  have kw1 : C Tryz.prog 22 [vi .i64 slot, vi .i64 0, vi .i64 9] [] (vi .i64 n) [] := by
    have := within_C slot 0 9 (by decide) (by decide) (by decide)
    rwa [show within slot 0 9 = n from hn] at this
  have kw2 : C Tryz.prog 22 [vi .i64 at_, vi .i64 0, vi .i64 60] [] (vi .i64 t) [] := by
    have := within_C at_ 0 60 (by decide) (by decide) (by decide)
    rwa [show within at_ 0 60 = t from ht] at this
  obtain ⟨w, D2, K2, hD2, hK2, hM2, T1, T2⟩ := turns _ _ hD hK hM n (by omega) t
  have L4 := load10_C k _ _ hD2 hK2 hM2 (rgW k l.l N) N (8 * (N / 8)) hcnt hbas
  have hcl := cut_le bb 50
  have P1 := put_C D2 hD2.1 n (by omega) (cutF bb 50) (by omega)
  have Q1 := rput_C K2 hK2 n (by omega) (cutF bb 50) (by omega)
  have L5 := load10_C k _ _ (put_fine hD2 n (cutF bb 50) (by omega)) (putK_ok hK2 n (cutF bb 50)) (mirr_put hM2 hD2.1 hK2 n (cutF bb 50) (cutF bb 50) rfl) (rgW k l.l N) N (8 * (N / 8)) hcnt hbas
  have kc := cut_C bb 50
  have s3 : ∀ x : Rgr, splice (cRgr x) 1 [vi .u64 ((N - off % q : Nat) : Int)] = cRgr { x with count := ((N - off % q : Nat) : Int) } := fun x => sp_Rgr_count x _
  clear hD hK hM hD2 hK2 hM2 hfine hl hn ht hoq hbas
  generalize putD D2 n (cutF bb 50) = D3 at *
  generalize putK K2 n (cutF bb 50) = K3 at *
  generalize cutF bb 50 = cb at *
  generalize dkW k l.l N = D at *
  generalize rkW k l.l N = K at *
  generalize rgW k l.l N = R at *
  refine C_of mixed Tryz.func6 A_clavigerlaw10_JournalTells_ok A_clavigerlaw10_JournalTells_res _ A_clavigerlaw10_JournalTells_nt ?_
  (repeat' (first | simp (maxSteps := 2000000) -implicitDefEqProofs only [A_clavigerlaw10_JournalTells, len_lst, cells_lst, rk_ext, fk_ext, lrp, fk_minmax, lr_api, lr_keep, lr_register, lr, lr2, oO, oN, oG, oNG, oM, oF, oL, rg, ci, seval, resAll, resL, resV, blkAt, undef, fillV, evParts, footOp, wrOp, chk, disj] | split | ((first | apply ck_call | apply cfk_call); (first | (apply call_newP (newD_C) cll cll) | (apply call_newP (newR_C) cll cll)))))
  refine ck_call _ _ (call_two (i := 2) (j := 3) kw (by decide) rfl rfl cll cll cll cll (argL_cons (arg_closed _ cl) (argL_cons (arg_refK 0 0 rfl) (argL_cons (arg_refK 1 0 rfl) (argL_cons (arg_closed _ cl) (argL_cons (arg_closed _ cl) argL_nil))))) mem mem (renV_closed _ _ cl)) ?_
  (repeat' (first | simp (maxSteps := 2000000) -implicitDefEqProofs only [cRgr_ids, len_lst, cells_lst, rk_ext, fk_ext, lrp, fk_minmax, lr_api, lr_keep, lr_register, lr, lr2, oO, oN, oG, oNG, oM, oF, oL, rg, ci, seval, resAll, resL, resV, blkAt, undef, fillV, evParts, footOp, wrOp, chk, disj] | split))
  first | refine ck_call _ _ (call_two (i := 2) (j := 3) (r2 := vb true) L1 (by decide) rfl rfl cll cll cll cll (argL_cons (arg_closed _ cl) (argL_cons (arg_refK 0 0 rfl) (argL_cons (arg_refK 1 0 rfl) (argL_cons (arg_closed _ cl) argL_nil)))) mem mem rfl) ?_ | refine cfk_call _ _ (call_two (i := 2) (j := 3) (r2 := vb true) L1 (by decide) rfl rfl cll cll cll cll (argL_cons (arg_closed _ cl) (argL_cons (arg_refK 0 0 rfl) (argL_cons (arg_refK 1 0 rfl) (argL_cons (arg_closed _ cl) argL_nil)))) mem mem rfl) ?_
  (repeat' (first | simp (maxSteps := 2000000) -implicitDefEqProofs only [cRgr_ids, len_lst, cells_lst, rk_ext, fk_ext, lrp, fk_minmax, lr_api, lr_keep, lr_register, lr, lr2, oO, oN, oG, oNG, oM, oF, oL, rg, ci, seval, resAll, resL, resV, blkAt, undef, fillV, evParts, footOp, wrOp, chk, disj] | split))
  first | refine ck_call _ _ (call_two (i := 2) (j := 3) (r2 := vb true) L2 (by decide) rfl rfl cll cll cll cll (argL_cons (arg_closed _ cl) (argL_cons (arg_refK 0 0 rfl) (argL_cons (arg_refK 1 0 rfl) (argL_cons (arg_closed _ cl) argL_nil)))) mem mem rfl) ?_ | refine cfk_call _ _ (call_two (i := 2) (j := 3) (r2 := vb true) L2 (by decide) rfl rfl cll cll cll cll (argL_cons (arg_closed _ cl) (argL_cons (arg_refK 0 0 rfl) (argL_cons (arg_refK 1 0 rfl) (argL_cons (arg_closed _ cl) argL_nil)))) mem mem rfl) ?_
  (repeat' (first | simp (maxSteps := 2000000) -implicitDefEqProofs only [cRgr_ids, hcnt, w1, hmin, hq0, tm, w2, s3, len_lst, cells_lst, rk_ext, fk_ext, lrp, fk_minmax, lr_api, lr_keep, lr_register, lr, lr2, oO, oN, oG, oNG, oM, oF, oL, rg, ci, seval, resAll, resL, resV, blkAt, undef, fillV, evParts, footOp, wrOp, chk, disj] | split))
  first | refine ck_call _ _ (call_two (i := 2) (j := 3) (r2 := vb true) L3 (by decide) rfl rfl cll cll cll cll (argL_cons (arg_closed _ cl) (argL_cons (arg_refK 0 0 rfl) (argL_cons (arg_refK 1 0 rfl) (argL_cons (arg_closed _ cl) argL_nil)))) mem mem rfl) ?_ | refine cfk_call _ _ (call_two (i := 2) (j := 3) (r2 := vb true) L3 (by decide) rfl rfl cll cll cll cll (argL_cons (arg_closed _ cl) (argL_cons (arg_refK 0 0 rfl) (argL_cons (arg_refK 1 0 rfl) (argL_cons (arg_closed _ cl) argL_nil)))) mem mem rfl) ?_
  (repeat' (first | simp (maxSteps := 2000000) -implicitDefEqProofs only [cRgr_ids, len_lst, cells_lst, rk_ext, fk_ext, lrp, fk_minmax, lr_api, lr_keep, lr_register, lr, lr2, oO, oN, oG, oNG, oM, oF, oL, rg, ci, seval, resAll, resL, resV, blkAt, undef, fillV, evParts, footOp, wrOp, chk, disj] | split | ((first | apply ck_call | apply cfk_call); (first | (apply call_pure (kw1) cll cl) | (apply call_pure (kw2) cll cl) | (apply call_upd (T1) rfl cll cll cll cl) | (apply call_upd (T2) rfl cll cll cll cl)))))
  first | refine ck_call _ _ (call_two (i := 2) (j := 3) (r2 := vb true) L4 (by decide) rfl rfl cll cll cll cll (argL_cons (arg_closed _ cl) (argL_cons (arg_refK 0 0 rfl) (argL_cons (arg_refK 1 0 rfl) (argL_cons (arg_closed _ cl) argL_nil)))) mem mem rfl) ?_ | refine cfk_call _ _ (call_two (i := 2) (j := 3) (r2 := vb true) L4 (by decide) rfl rfl cll cll cll cll (argL_cons (arg_closed _ cl) (argL_cons (arg_refK 0 0 rfl) (argL_cons (arg_refK 1 0 rfl) (argL_cons (arg_closed _ cl) argL_nil)))) mem mem rfl) ?_
  (repeat' (first | simp (maxSteps := 2000000) -implicitDefEqProofs only [cRgr_ids, len_lst, cells_lst, rk_ext, fk_ext, lrp, fk_minmax, lr_api, lr_keep, lr_register, lr, lr2, oO, oN, oG, oNG, oM, oF, oL, rg, ci, seval, resAll, resL, resV, blkAt, undef, fillV, evParts, footOp, wrOp, chk, disj] | split | ((first | apply ck_call | apply cfk_call); (first | (apply call_pure (kc) cll cl) | (apply call_upd (P1) rfl cll cll cll cl) | (apply call_upd (Q1) rfl cll cll cll cl)))))
  first | refine ck_call _ _ (call_two (i := 2) (j := 3) (r2 := vb true) L5 (by decide) rfl rfl cll cll cll cll (argL_cons (arg_closed _ cl) (argL_cons (arg_refK 0 0 rfl) (argL_cons (arg_refK 1 0 rfl) (argL_cons (arg_closed _ cl) argL_nil)))) mem mem rfl) ?_ | refine cfk_call _ _ (call_two (i := 2) (j := 3) (r2 := vb true) L5 (by decide) rfl rfl cll cll cll cll (argL_cons (arg_closed _ cl) (argL_cons (arg_refK 0 0 rfl) (argL_cons (arg_refK 1 0 rfl) (argL_cons (arg_closed _ cl) argL_nil)))) mem mem rfl) ?_
  (repeat' (first | simp (maxSteps := 2000000) -implicitDefEqProofs only [cRgr_ids, len_lst, cells_lst, rk_ext, fk_ext, lrp, fk_minmax, lr_api, lr_keep, lr_register, lr, lr2, oO, oN, oG, oNG, oM, oF, oL, rg, ci, seval, resAll, resL, resV, blkAt, undef, fillV, evParts, footOp, wrOp, chk, disj] | split | ((first | apply ck_call | apply cfk_call); (first | (apply call_pure (known10_C) cll cl)))))
  exact out_eq rfl cl
end Go.Proofs.YtmmaenfjnkoknaaGreat.VA
