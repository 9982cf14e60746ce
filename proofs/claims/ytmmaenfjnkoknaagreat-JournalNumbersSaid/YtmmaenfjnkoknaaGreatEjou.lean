/- Journals: Load. -/
import Derived.Test.YtmmaenfjnkoknaaGreatDjou
import Derived.Test.YtmmaenfjnkoknaaGreatDlaw9
import Derived.Test.YtmmaenfjnkoknaaGreatVC
set_option linter.unusedVariables false
set_option linter.unusedSimpArgs false
set_option maxRecDepth 100000
namespace Go.Proofs.YtmmaenfjnkoknaaGreat.VA
open Go
attribute [local irreducible] WK NK XK TK RK FK CK CFK CallRel C
attribute [local irreducible] sealF textF fits sumF heldR rightR frec headF imgR
theorem blk_zRec (cs : List V) : blkOf zRec cs = cs := rfl
open Classical in
noncomputable def baseO (k : Bn 16) (d : Dsk) (b p : Nat) : Option (Row × Bn 16) :=
  if b = 0 then some (.nil, Bn.zero 16)
  else if (d.now.getD p default).has = true ∧ fits k b adI (d.now.getD p default).b.l then some (imgR k b (d.now.getD p default).b.l, sumF (d.now.getD p default).b.l)
  else none
open Classical in
noncomputable def ldN (k : Bn 16) (d : Dsk) (b : Nat) (h0 : Bn 16) : Nat → Option (List Rec × Bn 16)
  | 0 => some ([], h0)
  | i + 1 => match ldN k d b h0 i with
    | none => none
    | some (l, h) => if (d.now.getD (2 + i) default).has = true ∧ frecV k (b + i + 1) h (d.now.getD (2 + i) default).b.l then some (l ++ [(frec k (b + i + 1) (d.now.getD (2 + i) default).b.l).x], headF h (d.now.getD (2 + i) default).b.l) else none
theorem ldN_none {k : Bn 16} {d : Dsk} {b : Nat} {h0 : Bn 16} {i : Nat} (h : ldN k d b h0 i = none) : ∀ j, ldN k d b h0 (i + j) = none
  | 0 => h
  | j + 1 => by rw [← Nat.add_assoc]; unfold ldN; rw [ldN_none h j]
theorem ldN_len {k : Bn 16} {d : Dsk} {b : Nat} {h0 : Bn 16} : ∀ {i : Nat} {l : List Rec} {h : Bn 16}, ldN k d b h0 i = some (l, h) → l.length = i
  | 0, l, h, e => by unfold ldN at e; cases e; rfl
  | i + 1, l, h, e => by
    unfold ldN at e
    split at e
    · cases e
    · rename_i l' h' e'
      split at e
      · cases e
        rw [List.length_append, ldN_len e']; rfl
      · cases e
theorem ldN_T {k : Bn 16} {d : Dsk} {b : Nat} {h0 : Bn 16} {i : Nat} {l : List Rec} {h : Bn 16} (hld : ldN k d b h0 i = some (l, h)) (hx : (d.now.getD (2 + i) default).has = true ∧ frecV k (b + i + 1) h (d.now.getD (2 + i) default).b.l) :
    ldN k d b h0 (i + 1) = some (l ++ [(frec k (b + i + 1) (d.now.getD (2 + i) default).b.l).x], headF h (d.now.getD (2 + i) default).b.l) := by
  unfold ldN; rw [hld]; exact if_pos hx
theorem ldN_F {k : Bn 16} {d : Dsk} {b : Nat} {h0 : Bn 16} {i : Nat} {l : List Rec} {h : Bn 16} (hld : ldN k d b h0 i = some (l, h)) (hx : ¬ ((d.now.getD (2 + i) default).has = true ∧ frecV k (b + i + 1) h (d.now.getD (2 + i) default).b.l)) :
    ldN k d b h0 (i + 1) = none := by
  unfold ldN; rw [hld]; exact if_neg hx
noncomputable def loadF (k : Bn 16) (d : Dsk) (r : Rgr) (b p n : Nat) : Option (Row × List Rec) :=
  match baseO k d b p with
  | none => none
  | some (i, h0) => match ldN k d b h0 n with
    | none => none
    | some (l, h) => if h = r.head then some (i, l) else none
def loadV : Option (Row × List Rec) → V
  | none => .tup [vnil, vnil, vi .i64 30]
  | some (i, l) => .tup [rowV i, lstV cRec (lsOf l), vi .i64 0]
theorem loadV_closed : ∀ o, Closed (loadV o)
  | none => (cl : Closed (.tup [vnil, vnil, vi .i64 30]))
  | some (i, l) => (cl : Closed (.tup [rowV i, lstV cRec (lsOf l), vi .i64 0]))
instance (o : Option (Row × List Rec)) : Cl (loadV o) := ⟨loadV_closed o⟩
theorem base_C (k : Bn 16) (d : Dsk) (hd : d.fine) (r : Rgr) (b p : Nat) (hb : r.base = b) (hp : r.point = p) (hp2 : p < 2) :
    ∃ (i : Row) (h : Bn 16) (e : Int), C Tryz.prog 38 [.agg (dg k), .ref 0 0, .agg (cRgr r)] [cDsk d] (.tup [rowV i, .agg (dg h), vi .i64 e]) [some (cDsk d)] ∧
      ((e = 0 ∧ baseO k d b p = some (i, h)) ∨ (e = 30 ∧ baseO k d b p = none)) := by
  unfold baseO
  by_cases h0 : b = 0
  · subst h0
    rw [if_pos rfl]
    exact ⟨.nil, _, 0, base0_C k d r hb, .inl ⟨rfl, rfl⟩⟩
  · rw [if_neg h0]
    by_cases hx : (d.now.getD p default).has = true
    · by_cases hf : fits k b adI (d.now.getD p default).b.l
      · rw [if_pos ⟨hx, hf⟩]
        exact ⟨_, _, 0, baseT_C k d hd r b p hb (by omega) hp hp2 hx hf, .inl ⟨rfl, rfl⟩⟩
      · rw [if_neg fun h => hf h.2]
        exact ⟨.nil, _, 30, baseE_C k d hd r b p hb (by omega) hp hp2 hx hf, .inr ⟨rfl, rfl⟩⟩
    · rw [if_neg fun h => hx h.1]
      exact ⟨.nil, _, 30, baseN_C k d hd r b p hb (by omega) hp hp2 (by simpa using hx), .inr ⟨rfl, rfl⟩⟩
theorem right_nat {r : Rgr} (h : rightR r = true) (c b : Nat) (hc : r.count = c) (hb : r.base = b) : c ≤ 1099511627776 ∧ b ≤ c ∧ c - b ≤ 8 ∧ heldR r = ((c - b : Nat) : Int) := by
  have h' := h
  unfold rightR at h
  simp only [decide_eq_true_eq] at h
  rw [hc, hb] at h
  have e : IntKind.u64.wrap ((c : Int) - b) = (c : Int) - b := IntWalk.u64_in _ ⟨by omega, by omega⟩
  rw [e] at h
  refine ⟨by omega, by omega, by omega, ?_⟩
  unfold heldR
  rw [if_pos h', hc, hb, e, wrap_id _ (by omega) (by omega)]
  omega
theorem arg_lstB {α : Type} {c : α → List V} {sz : Nat} (hc : ∀ x, (c x).length = sz) {H : Heap} {ids bs' : List Nat} {id n : Nat} {l : List α} (hcl : ∀ x, ClosedL (c x)) (hb : blkAt H id = some (l.flatMap c)) (hi : id ∈ bs') (h0 : id ∉ ids) (hn : n = l.length) : ArgRel H ids bs' (.sref id 0 n sz) (lstV c (.of l)) := by
  subst hn
  have hl := flat_len hc l
  simp only [ArgRel]
  refine .inr ⟨h0, hi, l.flatMap c, l.flatMap c, hb, by omega, ?_, rfl⟩
  rw [List.drop_zero, List.take_of_length_le (by omega)]
  exact seen_closed _ (flat_closed hcl l)
set_option maxHeartbeats 8000000 in
theorem load_C (k : Bn 16) (d : Dsk) (hd : d.fine) (r : Rgr) (hr : rightR r = true) (c b p : Nat) (hc : r.count = c) (hb : r.base = b) (hp : r.point = p) (hp2 : p < 2) :
    C Tryz.prog 14 [.agg (dg k), .ref 0 0, .agg (cRgr r)] [cDsk d] (loadV (loadF k d r b p (c - b))) [some (cDsk d)] := by
  obtain ⟨hc2, hbc, hcb, hheld⟩ := right_nat hr c b hc hb
  obtain ⟨img, h0, e, kb, he⟩ := base_C k d hd r b p hb hp hp2
  have k1 := right_C r
  rw [hr] at k1
  have k2 := held_C r
  rw [hheld] at k2
  unfold loadF
  rcases he with ⟨rfl, he⟩ | ⟨rfl, he⟩
  · rw [he]
    simp only []
    generalize hN : c - b = N at *
    generalize hV : loadV _ = RV
    have hfail : ldN k d b h0 N = none → RV = .tup [vnil, vnil, vi .i64 30] := fun h => by rw [← hV, h]; rfl
    refine C_of mixed Tryz.func14 A_journal_Load_ok A_journal_Load_res _ A_journal_Load_nt ?_
    (repeat' (first | simp (maxSteps := 2000000) -implicitDefEqProofs only [A_journal_Load, len_lst, cells_lst, rk_ext, fk_ext, lrp, lr_api, lr_keep, lr_register, lr, lr2, oO, oN, oG, oNG, oM, oF, oL, rg, ci, seval, resAll, resL, resV, blkAt, undef, fillV, evParts, footOp, wrOp, chk, disj] | split | ((first | apply ck_call | apply cfk_call); (first | (apply call_pure (k1) cll cl) | (apply call_oneP (id := 0) (kb) rfl cll cll cl; (repeat' (first | exact args_n | apply args_c | exact arg_ref0 _ _ | exact arg_closed _ cl)); exact mem) | (apply call_pure (k2) cll cl)))))
    refine wk_loop (fun m S H => ∃ (i : Nat) (l : List Rec) (h : Bn 16), i ≤ N ∧ m = N - i ∧ ldN k d b h0 i = some (l, h) ∧
      (i = 0 ∧ S = (.dead :: .ref 0 0 :: .dead :: .ref 1 0 :: .dead :: .ref 2 0 :: .dead :: .dead :: .dead :: rowV img :: .ref 3 0 :: .dead :: vnil :: .dead :: .dead :: .dead :: .dead :: .dead :: .dead :: .dead :: .dead :: .dead :: .dead :: .dead :: .dead :: .dead :: .dead :: .dead :: .dead :: .dead :: .dead :: .dead :: .dead :: .dead :: .dead :: .dead :: .dead :: vi .i64 N :: vi .i64 i :: .dead :: .dead :: .dead :: .dead :: .dead :: .dead :: .dead :: .dead :: .dead :: .dead :: .dead :: .dead :: .dead :: .dead :: .dead :: .dead :: .dead :: .dead :: .dead :: .dead :: .dead :: .dead :: .dead :: .dead :: .dead :: .dead :: .dead :: .dead :: .dead :: .dead :: .dead :: .dead :: .dead :: .dead :: .dead :: .dead :: .dead :: .dead :: .dead :: .dead :: .dead :: .dead :: []) ∧ H = [some (cDsk d), some (dg k), some (cRgr r), some (dg h)] ∨
       0 < i ∧ S = (.dead :: .ref 0 0 :: .dead :: .ref 1 0 :: .dead :: .ref 2 0 :: .dead :: .dead :: .dead :: rowV img :: .ref 3 0 :: .dead :: .sref 4 0 i 47 :: .dead :: .dead :: .dead :: .dead :: .dead :: .dead :: .dead :: .dead :: .dead :: .dead :: .dead :: .dead :: .dead :: .dead :: .dead :: .dead :: .dead :: .dead :: .dead :: .dead :: .dead :: .dead :: .dead :: .dead :: vi .i64 N :: vi .i64 i :: .dead :: .dead :: .dead :: .dead :: .dead :: .dead :: .dead :: .dead :: .dead :: .dead :: .dead :: .dead :: .dead :: .dead :: .dead :: .dead :: .dead :: .dead :: .dead :: .dead :: .dead :: .dead :: .dead :: .dead :: .dead :: .dead :: .dead :: .dead :: .dead :: .dead :: .dead :: .dead :: .dead :: .dead :: .dead :: .dead :: .dead :: .dead :: .dead :: .dead :: .dead :: .dead :: []) ∧ H = [some (cDsk d), some (dg k), some (cRgr r), some (dg h), some (l.flatMap cRec)])) N
      ⟨0, [], h0, Nat.zero_le _, rfl, rfl, .inl ⟨rfl, rfl, rfl⟩⟩ (by refine .ren _ _ _ [0, 1, 2, 3] (by decide) (by intro k h; first | exact absurd h (Nat.not_lt_zero k) | (simp at h; done) | (rcases k with _ | _ | _ | k <;> first | rfl | (exfalso; omega) | (simp at h; done))) ?_ ?_ <;> simp [KeepS, KeepH, ArgRel, ArgRelL, argL_cl, arg_cl, row_l_of, row_l_nil, bn_len, blkAt]) ?_
    rintro m S H ⟨i, l, h, hi, rfl, hld, hH⟩ J hJ
    have hll := ldN_len hld
    by_cases hin : i < N
    · have d1 : (i : Int) < N := by omega
      have w1 : IntKind.i64.wrap ((i : Int) + 1) = ((i + 1 : Nat) : Int) := by rw [wrap_id _ (by omega) (by omega)]; omega
      have w2 : IntKind.i64.wrap (2 + (i : Int)) = ((2 + i : Nat) : Int) := by rw [wrap_id _ (by omega) (by omega)]; omega
      have w3 : IntKind.u64.wrap (i : Int) = (i : Int) := IntWalk.u64_in _ ⟨by omega, by omega⟩
      have w4 : IntKind.u64.wrap ((b : Int) + i) = ((b + i : Nat) : Int) := by rw [IntWalk.u64_in _ ⟨by omega, by omega⟩]; omega
      have w5 : IntKind.u64.wrap (((b + i : Nat) : Int) + 1) = ((b + i + 1 : Nat) : Int) := by rw [IntWalk.u64_in _ ⟨by omega, by omega⟩]; omega
      have g := get_C d hd.1 (2 + i) (by omega) (hd.2 (2 + i))
      have hx8 := hd.2 (2 + i)
      have hT := ldN_T hld
      have hF := ldN_F hld
      generalize d.now.getD (2 + i) default = x at *
      have hbad : ldN k d b h0 (i + 1) = none → RV = .tup [vnil, vnil, vi .i64 30] := fun h => by
        have := ldN_none h (N - (i + 1))
        rw [show i + 1 + (N - (i + 1)) = N by omega] at this
        exact hfail this
      by_cases hx : x.has = true
      · rw [hx, if_pos rfl] at g
        by_cases hv : frecV k (b + i + 1) h x.b.l
        · have hS := hT ⟨hx, hv⟩
          have o := fopenT_C k (b + i + 1) h x.b hv
          have fh := fhead_C h x.b (by omega)
          generalize (frec k (b + i + 1) x.b.l).x = y at *
          generalize headF h x.b.l = h' at *
          rcases hH with ⟨hi0, rfl, rfl⟩ | ⟨hi0, rfl, rfl⟩
          · have e1 : i + 1 = 1 := by omega
            have el : l = [] := List.length_eq_zero_iff.1 (by omega)
            rw [el, List.nil_append] at hS
            (repeat' (first | simp (maxSteps := 2000000) -implicitDefEqProofs only [A_journal_Load_L0, d1, w1, w2, w3, w4, w5, hb, blk_zRec, slB_st, len_lst, cells_lst, rk_ext, fk_ext, lrp, lr_api, lr_keep, lr_register, lr, lr2, oO, oN, oG, oNG, oM, oF, oL, rg, ci, seval, resAll, resL, resV, blkAt, undef, fillV, evParts, footOp, wrOp, chk, disj] | split | ((first | apply ck_call | apply cfk_call); (first | (apply call_upd (g) rfl cll cll cll cl) | (apply call_pure (o) cll cl) | (apply call_pure (fh) cll cl)))))
            exact hJ _ _ _ _ _ (by omega) ⟨i + 1, _, _, by omega, rfl, hS, .inr ⟨by omega, rfl, rfl⟩⟩ (by refine .ren _ _ _ [0, 1, 2, 3, 6] (by decide) (by intro k h; first | exact absurd h (Nat.not_lt_zero k) | (simp at h; done) | (rcases k with _ | _ | _ | k <;> first | rfl | (exfalso; omega) | (simp at h; done))) ?_ ?_ <;> simp [KeepS, KeepH, ArgRel, ArgRelL, argL_cl, arg_cl, row_l_of, row_l_nil, bn_len, blkAt, e1, flat_closed cRec_closed])
          · have af := fun H id => app_fl cRec_len H l y id i 152 hll.symm (by omega) (by decide)
            (repeat' (first | simp (maxSteps := 2000000) -implicitDefEqProofs only [A_journal_Load_L0, d1, w1, w2, w3, w4, w5, hb, blk_zRec, slB_st, af, len_lst, cells_lst, rk_ext, fk_ext, lrp, lr_api, lr_keep, lr_register, lr, lr2, oO, oN, oG, oNG, oM, oF, oL, rg, ci, seval, resAll, resL, resV, blkAt, undef, fillV, evParts, footOp, wrOp, chk, disj] | split | ((first | apply ck_call | apply cfk_call); (first | (apply call_upd (g) rfl cll cll cll cl) | (apply call_pure (o) cll cl) | (apply call_pure (fh) cll cl)))))
            exact hJ _ _ _ _ _ (by omega) ⟨i + 1, _, _, by omega, rfl, hS, .inr ⟨by omega, rfl, rfl⟩⟩ (by refine .ren _ _ _ [0, 1, 2, 3, 7] (by decide) (by intro k h; first | exact absurd h (Nat.not_lt_zero k) | (simp at h; done) | (rcases k with _ | _ | _ | k <;> first | rfl | (exfalso; omega) | (simp at h; done))) ?_ ?_ <;> simp [KeepS, KeepH, ArgRel, ArgRelL, argL_cl, arg_cl, row_l_of, row_l_nil, bn_len, blkAt, flat_closed cRec_closed])
        · have hR := hbad (hF fun h => hv h.2)
          clear hT hF
          by_cases hf : fits k (b + i + 1) h.1 x.b.l
          · have o := fopenF_C k (b + i + 1) h x.b hf (fun h3 => hv ⟨hf, h3⟩)
            rcases hH with ⟨hi0, rfl, rfl⟩ | ⟨hi0, rfl, rfl⟩
            · (repeat' (first | simp (maxSteps := 2000000) -implicitDefEqProofs only [A_journal_Load_L0, d1, w1, w2, w3, w4, w5, hb, blk_zRec, slB_st, K_journal_Load_L0, len_lst, cells_lst, rk_ext, fk_ext, lrp, lr_api, lr_keep, lr_register, lr, lr2, oO, oN, oG, oNG, oM, oF, oL, rg, ci, seval, resAll, resL, resV, blkAt, undef, fillV, evParts, footOp, wrOp, chk, disj] | split | ((first | apply ck_call | apply cfk_call); (first | (apply call_upd (g) rfl cll cll cll cl) | (apply call_pure (o) cll cl)))))
              exact out_updE rfl rfl hR.symm cll (by rw [hR]; exact cl)
            · (repeat' (first | simp (maxSteps := 2000000) -implicitDefEqProofs only [A_journal_Load_L0, d1, w1, w2, w3, w4, w5, hb, blk_zRec, slB_st, K_journal_Load_L0, len_lst, cells_lst, rk_ext, fk_ext, lrp, lr_api, lr_keep, lr_register, lr, lr2, oO, oN, oG, oNG, oM, oF, oL, rg, ci, seval, resAll, resL, resV, blkAt, undef, fillV, evParts, footOp, wrOp, chk, disj] | split | ((first | apply ck_call | apply cfk_call); (first | (apply call_upd (g) rfl cll cll cll cl) | (apply call_pure (o) cll cl)))))
              exact out_updE rfl rfl hR.symm cll (by rw [hR]; exact cl)
          · have o := fopenE_C k (b + i + 1) h x.b hf
            rcases hH with ⟨hi0, rfl, rfl⟩ | ⟨hi0, rfl, rfl⟩
            · (repeat' (first | simp (maxSteps := 2000000) -implicitDefEqProofs only [A_journal_Load_L0, d1, w1, w2, w3, w4, w5, hb, blk_zRec, slB_st, K_journal_Load_L0, len_lst, cells_lst, rk_ext, fk_ext, lrp, lr_api, lr_keep, lr_register, lr, lr2, oO, oN, oG, oNG, oM, oF, oL, rg, ci, seval, resAll, resL, resV, blkAt, undef, fillV, evParts, footOp, wrOp, chk, disj] | split | ((first | apply ck_call | apply cfk_call); (first | (apply call_upd (g) rfl cll cll cll cl) | (apply call_pure (o) cll cl)))))
              exact out_updE rfl rfl hR.symm cll (by rw [hR]; exact cl)
            · (repeat' (first | simp (maxSteps := 2000000) -implicitDefEqProofs only [A_journal_Load_L0, d1, w1, w2, w3, w4, w5, hb, blk_zRec, slB_st, K_journal_Load_L0, len_lst, cells_lst, rk_ext, fk_ext, lrp, lr_api, lr_keep, lr_register, lr, lr2, oO, oN, oG, oNG, oM, oF, oL, rg, ci, seval, resAll, resL, resV, blkAt, undef, fillV, evParts, footOp, wrOp, chk, disj] | split | ((first | apply ck_call | apply cfk_call); (first | (apply call_upd (g) rfl cll cll cll cl) | (apply call_pure (o) cll cl)))))
              exact out_updE rfl rfl hR.symm cll (by rw [hR]; exact cl)
      · have hR := hbad (hF fun h => hx h.1)
        clear hT hF
        have hx : x.has = false := by simpa using hx
        rw [hx, if_neg (by decide)] at g
        have o := fopenE_C k (b + i + 1) h .nil (fun hf => by unfold fits at hf; have := hf.1; simp [row_l_nil] at this)
        rcases hH with ⟨hi0, rfl, rfl⟩ | ⟨hi0, rfl, rfl⟩
        · (repeat' (first | simp (maxSteps := 2000000) -implicitDefEqProofs only [A_journal_Load_L0, d1, w1, w2, w3, w4, w5, hb, blk_zRec, slB_st, K_journal_Load_L0, len_lst, cells_lst, rk_ext, fk_ext, lrp, lr_api, lr_keep, lr_register, lr, lr2, oO, oN, oG, oNG, oM, oF, oL, rg, ci, seval, resAll, resL, resV, blkAt, undef, fillV, evParts, footOp, wrOp, chk, disj] | split | ((first | apply ck_call | apply cfk_call); (first | (apply call_upd (g) rfl cll cll cll cl) | (apply call_pure (o) cll cl)))))
          exact out_updE rfl rfl hR.symm cll (by rw [hR]; exact cl)
        · (repeat' (first | simp (maxSteps := 2000000) -implicitDefEqProofs only [A_journal_Load_L0, d1, w1, w2, w3, w4, w5, hb, blk_zRec, slB_st, K_journal_Load_L0, len_lst, cells_lst, rk_ext, fk_ext, lrp, lr_api, lr_keep, lr_register, lr, lr2, oO, oN, oG, oNG, oM, oF, oL, rg, ci, seval, resAll, resL, resV, blkAt, undef, fillV, evParts, footOp, wrOp, chk, disj] | split | ((first | apply ck_call | apply cfk_call); (first | (apply call_upd (g) rfl cll cll cll cl) | (apply call_pure (o) cll cl)))))
          exact out_updE rfl rfl hR.symm cll (by rw [hR]; exact cl)
    · obtain rfl : i = N := by omega
      have d1 : ¬ (i : Int) < i := by omega
      rw [hld] at hV
      simp only [] at hV
      by_cases hh : h = r.head
      · rw [if_pos hh] at hV
        rcases hH with ⟨hi0, rfl, rfl⟩ | ⟨hi0, rfl, rfl⟩
        · (repeat' (first | simp (maxSteps := 2000000) -implicitDefEqProofs only [A_journal_Load_L0, K_journal_Load_L0, d1, hh, len_lst, cells_lst, rk_ext, fk_ext, lrp, lr_api, lr_keep, lr_register, lr, lr2, oO, oN, oG, oNG, oM, oF, oL, rg, ci, seval, resAll, resL, resV, blkAt, undef, fillV, evParts, footOp, wrOp, chk, disj] | split))
          rw [← hV, List.length_eq_zero_iff.1 (hll.trans hi0)]
          exact out_updE rfl rfl rfl cll cl
        · (repeat' (first | simp (maxSteps := 2000000) -implicitDefEqProofs only [A_journal_Load_L0, K_journal_Load_L0, d1, hh, len_lst, cells_lst, rk_ext, fk_ext, lrp, lr_api, lr_keep, lr_register, lr, lr2, oO, oN, oG, oNG, oM, oF, oL, rg, ci, seval, resAll, resL, resV, blkAt, undef, fillV, evParts, footOp, wrOp, chk, disj] | split))
          rw [← hV]
          show OutOK 1 _ _ (.tup [rowV img, lstV cRec (lsOf l), vi .i64 0]) _
          rw [lsOf_ne (by omega)]
          refine out_updBV [4] rfl (fun id h => ?_) (argL_closed _ (cDsk_closed d)) (arg_tup (argL_cons (arg_closed _ cl) (argL_cons ?_ (argL_cons (arg_closed _ cl) argL_nil))))
          · simp at h; subst h; exact ⟨_, rfl⟩
          · subst hll
            exact arg_lstB cRec_len cRec_closed rfl (by simp) (by simp) rfl
      · rw [if_neg hh] at hV
        rcases hH with ⟨hi0, rfl, rfl⟩ | ⟨hi0, rfl, rfl⟩
        · (repeat' (first | simp (maxSteps := 2000000) -implicitDefEqProofs only [A_journal_Load_L0, K_journal_Load_L0, d1, hh, len_lst, cells_lst, rk_ext, fk_ext, lrp, lr_api, lr_keep, lr_register, lr, lr2, oO, oN, oG, oNG, oM, oF, oL, rg, ci, seval, resAll, resL, resV, blkAt, undef, fillV, evParts, footOp, wrOp, chk, disj] | split))
          exact out_updE rfl rfl hV cll (by rw [← hV]; exact cl)
        · (repeat' (first | simp (maxSteps := 2000000) -implicitDefEqProofs only [A_journal_Load_L0, K_journal_Load_L0, d1, hh, len_lst, cells_lst, rk_ext, fk_ext, lrp, lr_api, lr_keep, lr_register, lr, lr2, oO, oN, oG, oNG, oM, oF, oL, rg, ci, seval, resAll, resL, resV, blkAt, undef, fillV, evParts, footOp, wrOp, chk, disj] | split))
          exact out_updE rfl rfl hV cll (by rw [← hV]; exact cl)
  · rw [he]
    simp only []
    refine C_of mixed Tryz.func14 A_journal_Load_ok A_journal_Load_res _ A_journal_Load_nt ?_
    (repeat' (first | simp (maxSteps := 2000000) -implicitDefEqProofs only [A_journal_Load, len_lst, cells_lst, rk_ext, fk_ext, lrp, lr_api, lr_keep, lr_register, lr, lr2, oO, oN, oG, oNG, oM, oF, oL, rg, ci, seval, resAll, resL, resV, blkAt, undef, fillV, evParts, footOp, wrOp, chk, disj] | split | ((first | apply ck_call | apply cfk_call); (first | (apply call_pure (k1) cll cl) | (apply call_oneP (id := 0) (kb) rfl cll cll cl; (repeat' (first | exact args_n | apply args_c | exact arg_ref0 _ _ | exact arg_closed _ cl)); exact mem) | (apply call_pure (k2) cll cl)))))
    exact out_updE rfl rfl rfl cll cl
end Go.Proofs.YtmmaenfjnkoknaaGreat.VA
