/- Journals: both Loads side by side (seat .Z). -/
import Derived.Test.YtmmaenfjnkoknaaGreatSjou
import Derived.Test.YtmmaenfjnkoknaaGreatVC
set_option linter.unusedVariables false
set_option linter.unusedSimpArgs false
set_option maxRecDepth 100000
namespace Go.Proofs.YtmmaenfjnkoknaaGreat.VA
open Go
attribute [local irreducible] WK NK XK TK RK FK CK CFK CallRel C
theorem ldN_vs {k : Bn 16} {d : Dsk} {b : Nat} {h0 : Bn 16} : ∀ {i : Nat} {l : List Rec} {h : Bn 16}, ldN k d b h0 i = some (l, h) → ∀ x ∈ l, x.vaults.l.length ≤ 5
  | 0, l, h, e => by unfold ldN at e; cases e; intro x hx; cases hx
  | i + 1, l, h, e => by
    unfold ldN at e
    split at e
    · cases e
    · rename_i l' h' e'
      split at e
      · cases e
        intro x hx
        rw [List.mem_append] at hx
        rcases hx with hx | hx
        · exact ldN_vs e' x hx
        · simp only [List.mem_singleton] at hx; subst hx; exact frec_le _ _ _
      · cases e
theorem loadF_vs {k : Bn 16} {d : Dsk} {r : Rgr} {b p n : Nat} {i : Row} {l : List Rec} (h : loadF k d r b p n = some (i, l)) : ∀ x ∈ l, x.vaults.l.length ≤ 5 := by
  unfold loadF at h
  split at h
  · cases h
  · split at h
    · cases h
    · rename_i e
      split at h
      · cases h; exact ldN_vs e
      · cases h
theorem loadF_len {k : Bn 16} {d : Dsk} {r : Rgr} {b p n : Nat} {i : Row} {l : List Rec} (h : loadF k d r b p n = some (i, l)) : l.length = n := by
  unfold loadF at h
  split at h
  · cases h
  · split at h
    · cases h
    · rename_i e
      split at h
      · cases h; exact ldN_len e
      · cases h
theorem loadF_0 {k : Bn 16} {d : Dsk} {r : Rgr} {p n : Nat} {i : Row} {l : List Rec} (h : loadF k d r 0 p n = some (i, l)) : i = .nil := by
  unfold loadF baseO at h
  rw [if_pos rfl] at h
  simp only [] at h
  split at h
  · cases h
  · split at h
    · cases h; rfl
    · cases h
attribute [local irreducible] sealF textF fits sumF heldR rightR frec headF imgR loadF ldN baseO
set_option maxHeartbeats 8000000 in
theorem load10_C (k : Bn 16) (d : Dsk) (m : Rsk) (hd : d.fine) (hm : m.ok) (hdm : mirr d m) (r : Rgr) (c b : Nat) (hc : r.count = c) (hb : r.base = b) :
    C Tryz.prog 18 [.agg (dg k), .ref 0 0, .ref 1 0, .agg (cRgr r)] [cDsk d, cRsk m] (vb true) [some (cDsk d), some (cRsk m)] := by
  by_cases hr : rightR r = true
  · obtain ⟨p, hp, hp2⟩ : ∃ p : Nat, r.point = p ∧ p < 2 := by
      have h := hr
      unfold rightR at h
      simp only [decide_eq_true_eq] at h
      rcases h.2.2.2.2.1 with h | h
      · exact ⟨0, h, by decide⟩
      · exact ⟨1, h, by decide⟩
    have k1 := load_C k d hd r hr c b p hc hb hp hp2
    have k2 := rload_C k m (mirr_fine hdm hd hm) r hr c b p hc hb hp hp2
    rw [← loadF_congr k (e := vwR m) hdm.same] at k2
    have hvs := fun i l h => loadF_vs (i := i) (l := l) (k := k) (d := d) (r := r) (b := b) (p := p) (n := c - b) h
    have hln := fun i l h => loadF_len (i := i) (l := l) (k := k) (d := d) (r := r) (b := b) (p := p) (n := c - b) h
    have hc8 := (right_nat hr c b hc hb).2.2.1
    have hz : ∀ i l, loadF k d r b p (c - b) = some (i, l) → b = 0 → i = .nil := fun i l h e => by subst e; exact loadF_0 h
    generalize loadF k d r b p (c - b) = o at *
    cases o with
    | none =>
      change C _ _ _ _ (.tup [vnil, vnil, vi .i64 30]) _ at k1 k2
      refine C_of mixed Tryz.func18 A_clavigerlaw10_load_ok A_clavigerlaw10_load_res _ A_clavigerlaw10_load_nt ?_
      (repeat' (first | simp (maxSteps := 2000000) -implicitDefEqProofs only [A_clavigerlaw10_load, len_lst, cells_lst, rk_ext, fk_ext, lrp, lr_api, lr_keep, lr_register, lr, lr2, oO, oN, oG, oNG, oM, oF, oL, rg, ci, seval, resAll, resL, resV, blkAt, undef, fillV, evParts, footOp, wrOp, chk, disj] | split | ((first | apply ck_call | apply cfk_call); (first | (apply call_oneP (id := 0) (k1) rfl cll cll cl; (repeat' (first | exact args_n | apply args_c | exact arg_ref0 _ _ | exact arg_closed _ cl)); exact mem) | (apply call_oneP (id := 1) (k2) rfl cll cll cl; (repeat' (first | exact args_n | apply args_c | exact arg_ref0 _ _ | exact arg_closed _ cl)); exact mem)))))
      refine wk_unroll 1 ?_
      (repeat' (first | simp (maxSteps := 2000000) -implicitDefEqProofs only [A_clavigerlaw10_load_L0, len_lst, cells_lst, rk_ext, fk_ext, lrp, lr_api, lr_keep, lr_register, lr, lr2, oO, oN, oG, oNG, oM, oF, oL, rg, ci, seval, resAll, resL, resV, blkAt, undef, fillV, evParts, footOp, wrOp, chk, disj] | split))
      exact out_upd2 rfl rfl cll cll rfl cl
    | some q =>
      obtain ⟨i, l⟩ := q
      have hv := hvs i l rfl
      have hlen := hln i l rfl
      change C _ _ _ _ (.tup [rowV i, lstV cRec (lsOf l), vi .i64 0]) _ at k1
      change C _ _ _ _ (.tup [rowV (if b = 0 then .nil else .of i.l), lstV cRec (lsOf l), vi .i64 0]) _ at k2
      have hil : (if b = 0 then Row.nil else .of i.l).l = i.l := by
        split
        · rename_i e; rw [hz i l rfl e]
        · exact row_l_of _
      have hsr : ∀ j, j < l.length → C Tryz.prog 16 [.agg (cRec (l.getD j default)), .agg (cRec (l.getD j default))] [] (vb true) [] := fun j hj =>
        rrecords_C _ _ (sameR_self _) (by
          have : l.getD j default ∈ l := by rw [List.getD_eq_getElem?_getD, List.getElem?_eq_getElem hj]; exact List.getElem_mem _
          have := hv _ this; omega)
      have hll : (lsOf l).l = l := lsOf_l l
      refine C_of mixed Tryz.func18 A_clavigerlaw10_load_ok A_clavigerlaw10_load_res _ A_clavigerlaw10_load_nt ?_
      clear hz
      generalize (if b = 0 then Row.nil else .of i.l) = J at *
      (repeat' (first | simp (maxSteps := 2000000) -implicitDefEqProofs only [A_clavigerlaw10_load, hil, len_lst, cells_lst, rk_ext, fk_ext, lrp, lr_api, lr_keep, lr_register, lr, lr2, oO, oN, oG, oNG, oM, oF, oL, rg, ci, seval, resAll, resL, resV, blkAt, undef, fillV, evParts, footOp, wrOp, chk, disj] | split | ((first | apply ck_call | apply cfk_call); (first | (apply call_oneP (id := 0) (k1) rfl cll cll cl; (repeat' (first | exact args_n | apply args_c | exact arg_ref0 _ _ | exact arg_closed _ cl)); exact mem) | (apply call_oneP (id := 1) (k2) rfl cll cll cl; (repeat' (first | exact args_n | apply args_c | exact arg_ref0 _ _ | exact arg_closed _ cl)); exact mem)))))
      refine wk_loop (fun mm S H => ∃ j : Nat, j ≤ l.length ∧ mm = l.length - j ∧ S = (.dead :: .dead :: .dead :: .dead :: .dead :: .dead :: .dead :: .dead :: .dead :: .dead :: lstV cRec (lsOf l) :: .dead :: .dead :: lstV cRec (lsOf l) :: .dead :: vi .i64 j :: .dead :: .dead :: .dead :: .dead :: .dead :: .dead :: .dead :: .dead :: .dead :: .dead :: .dead :: .dead :: .dead :: .dead :: .dead :: .dead :: .dead :: .dead :: .dead :: .dead :: .dead :: .dead :: .dead :: .dead :: .dead :: .dead :: .dead :: .dead :: .dead :: .dead :: .dead :: .dead :: .dead :: .dead :: .dead :: .dead :: .dead :: .dead :: .dead :: .dead :: .dead :: .dead :: .dead :: .dead :: .dead :: .dead :: .dead :: .dead :: .dead :: []) ∧ H = [some (cDsk d), some (cRsk m)]) l.length ⟨0, Nat.zero_le _, rfl, rfl, rfl⟩ (by refine .ren _ _ _ [0, 1] (by decide) (by intro k h; first | exact absurd h (Nat.not_lt_zero k) | (simp at h; done) | (rcases k with _ | _ | _ | k <;> first | rfl | (exfalso; omega) | (simp at h; done))) ?_ ?_ <;> simp [KeepS, KeepH, ArgRel, ArgRelL, argL_cl, arg_cl, row_l_of, row_l_nil, bn_len, blkAt]) ?_
      rintro mm S H ⟨j, hj, rfl, rfl, rfl⟩ J' hJ
      have d0 : (0 : Int) ≤ j := by omega
      by_cases hin : j < l.length
      · have d1 : (j : Int) < l.length := by omega
        have w1 : IntKind.i64.wrap ((j : Int) + 1) = ((j + 1 : Nat) : Int) := by rw [wrap_id _ (by omega) (by omega)]; omega
        have g1 := rd_flat cRec_len l j hin
        have kr := hsr j hin
        generalize l.getD j default = x at *
        (repeat' (first | simp (maxSteps := 2000000) -implicitDefEqProofs only [A_clavigerlaw10_load_L0, d0, d1, w1, g1, hll, idx_lst cRec_len, len_lst, cells_lst, rk_ext, fk_ext, lrp, lr_api, lr_keep, lr_register, lr, lr2, oO, oN, oG, oNG, oM, oF, oL, rg, ci, seval, resAll, resL, resV, blkAt, undef, fillV, evParts, footOp, wrOp, chk, disj] | split | ((first | apply ck_call | apply cfk_call); (first | (apply call_pure (kr) cll cl)))))
        exact hJ _ _ _ _ _ (by omega) ⟨j + 1, by omega, rfl, rfl, rfl⟩ (by refine .ren _ _ _ [0, 1] (by decide) (by intro k h; first | exact absurd h (Nat.not_lt_zero k) | (simp at h; done) | (rcases k with _ | _ | _ | k <;> first | rfl | (exfalso; omega) | (simp at h; done))) ?_ ?_ <;> simp [KeepS, KeepH, ArgRel, ArgRelL, argL_cl, arg_cl, row_l_of, row_l_nil, bn_len, blkAt])
      · obtain rfl : j = l.length := by omega
        have d1 : ¬ (l.length : Int) < l.length := by omega
        (repeat' (first | simp (maxSteps := 2000000) -implicitDefEqProofs only [A_clavigerlaw10_load_L0, K_clavigerlaw10_load_L0, d0, d1, hll, len_lst, cells_lst, rk_ext, fk_ext, lrp, lr_api, lr_keep, lr_register, lr, lr2, oO, oN, oG, oNG, oM, oF, oL, rg, ci, seval, resAll, resL, resV, blkAt, undef, fillV, evParts, footOp, wrOp, chk, disj] | split))
        exact out_upd2 rfl rfl cll cll rfl cl
  · have hr : rightR r = false := by simpa using hr
    have k1 := loadNo_C k d r hr
    have k2 := rloadNo_C k m r hr
    refine C_of mixed Tryz.func18 A_clavigerlaw10_load_ok A_clavigerlaw10_load_res _ A_clavigerlaw10_load_nt ?_
    (repeat' (first | simp (maxSteps := 2000000) -implicitDefEqProofs only [A_clavigerlaw10_load, len_lst, cells_lst, rk_ext, fk_ext, lrp, lr_api, lr_keep, lr_register, lr, lr2, oO, oN, oG, oNG, oM, oF, oL, rg, ci, seval, resAll, resL, resV, blkAt, undef, fillV, evParts, footOp, wrOp, chk, disj] | split | ((first | apply ck_call | apply cfk_call); (first | (apply call_oneP (id := 0) (k1) rfl cll cll cl; (repeat' (first | exact args_n | apply args_c | exact arg_ref0 _ _ | exact arg_closed _ cl)); exact mem) | (apply call_oneP (id := 1) (k2) rfl cll cll cl; (repeat' (first | exact args_n | apply args_c | exact arg_ref0 _ _ | exact arg_closed _ cl)); exact mem)))))
    refine wk_unroll 1 ?_
    (repeat' (first | simp (maxSteps := 2000000) -implicitDefEqProofs only [A_clavigerlaw10_load_L0, len_lst, cells_lst, rk_ext, fk_ext, lrp, lr_api, lr_keep, lr_register, lr, lr2, oO, oN, oG, oNG, oM, oF, oL, rg, ci, seval, resAll, resL, resV, blkAt, undef, fillV, evParts, footOp, wrOp, chk, disj] | split))
    exact out_upd2 rfl rfl cll cll rfl cl
end Go.Proofs.YtmmaenfjnkoknaaGreat.VA
