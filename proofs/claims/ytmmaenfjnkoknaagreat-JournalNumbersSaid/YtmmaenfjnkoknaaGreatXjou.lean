/- Disks: a byte's lowest bit is turned (seat .Z). -/
import Derived.Test.YtmmaenfjnkoknaaGreatUjou
import Derived.Test.YtmmaenfjnkoknaaGreatHjou
import Derived.Test.YtmmaenfjnkoknaaGreatVC
set_option linter.unusedVariables false
set_option linter.unusedSimpArgs false
set_option maxRecDepth 100000
namespace Go.Proofs.YtmmaenfjnkoknaaGreat.VA
open Go
attribute [local irreducible] WK NK XK TK RK FK CK CFK CallRel C
theorem sp_dskO (d : Dsk) (h : d.ok) (n : Nat) (hn : n < 10) (y : Slo) : splice (cDsk d) (20 + n * 2) (cSlo y) = cDsk { d with old := d.old.set n y } := by
  unfold cDsk
  have e : (d.now.flatMap cSlo).length = 20 := by rw [slos_len, h.1]
  rw [sp_skip _ _ _ _ (by rw [e]; omega), e, Nat.add_sub_cancel_left, sp_slo d.old _ n y (by rw [h.2]; exact hn)]
theorem sp_rskO (d : Rsk) (h : d.ok) (n : Nat) (hn : n < 10) (y : Slo) : splice (cRsk d) (20 + n * 2) (cSlo y) = cRsk { d with old := d.old.set n y } := by
  unfold cRsk
  have e : (d.now.flatMap cSlo).length = 20 := by rw [slos_len, h.1]
  rw [sp_skip _ _ _ _ (by rw [e]; omega), e, Nat.add_sub_cancel_left, sp_slo d.old _ n y (by rw [h.2]; exact hn)]
theorem rd_sp2 (c : List V) (o : Nat) (u v : V) (h : o + 2 ≤ c.length) : rd none (splice c o [u, v]) (o + 1) = some v := by
  show (splice c o [u, v])[o + 1]? = some v
  unfold splice
  have e1 : (c.take o).length = o := by rw [List.length_take]; omega
  rw [List.getElem?_append_right (by rw [e1]; omega), e1, Nat.add_sub_cancel_left]
  rfl
theorem rd_sp2a (c : List V) (o : Nat) (u v : V) (h : o + 2 ≤ c.length) : rd (some 2) (splice c o [u, v]) o = some (.agg [u, v]) := by
  have hl := len_sp2 c o [u, v] h
  unfold rd
  simp only []
  rw [if_pos (by rw [hl]; exact h)]
  unfold splice
  have e1 : (c.take o).length = o := by rw [List.length_take]; omega
  rw [List.drop_append_of_le_length (by omega), List.drop_of_length_le (by omega)]
  rfl
theorem sp_s1 (c : List V) (o : Nat) (v : V) (u w : V) (h : o + 2 ≤ c.length) (h0 : rd none c o = some u) (h1 : rd none c (o + 1) = some w) : splice c (o + 1) [v] = splice c o [u, v] := by
  change c[o]? = some u at h0
  obtain ⟨h2, h0⟩ := List.getElem?_eq_some_iff.1 h0
  unfold splice
  have e : c.take (o + 1) = c.take o ++ [u] := by rw [List.take_succ_eq_append_getElem h2, h0]
  rw [e]
  simp [Nat.add_assoc]
theorem dturn_C (d : Dsk) (hd : d.ok) (n : Nat) (hn : n < 10) (t : Nat) (ht : t < (d.now.getD n default).b.l.length) (h8 : (d.now.getD n default).b.l.length ≤ 8192) :
    C Tryz.prog 19 [.ref 0 0, vi .i64 n, vi .i64 t] [cDsk d] (vb true) [some (cDsk (trnD d n t))] := by
  have c1 : (0 : Int) ≤ n := by omega
  have c2 : (n : Int) < 10 := by omega
  have k1 := sright_C n
  rw [decide_eq_true c1, decide_eq_true c2] at k1
  have r2 := rd_dsk_b d hd n hn
  have l1 := cDsk_len d hd
  unfold trnD
  generalize d.now.getD n default = x at *
  obtain ⟨has, b⟩ := x
  cases b with
  | nil => exact absurd ht (Nat.not_lt_zero _)
  | of l =>
  change t < l.length at ht
  change l.length ≤ 8192 at h8
  change rd none (cDsk d) (n * 2 + 1) = some (rowV (.of l)) at r2
  have c3 : ¬ (t : Int) < 0 := by omega
  have c4 : ¬ (t : Int) ≥ l.length := by omega
  have c5 : n * 2 ≤ 41 := by omega
  have c6 : (0 : Int) ≤ t := by omega
  have c7 : (t : Int) < l.length := by omega
  have c8 : 20 + n * 2 ≤ 41 := by omega
  have c13 : t + 1 ≤ l.length := by omega
  have p1 : ∀ u v, (splice (cDsk d) (n * 2) [u, v]).length = 43 := fun u v => by rw [len_sp2 _ _ _ (by rw [l1]; simp; omega), l1]
  have r3 : ∀ u v, rd none (splice (cDsk d) (n * 2) [u, v]) (n * 2 + 1) = some v := fun u v => rd_sp2 _ _ _ _ (by omega)
  have r4 : ∀ u v, rd (some 2) (splice (cDsk d) (n * 2) [u, v]) (n * 2) = some (.agg [u, v]) := fun u v => rd_sp2a _ _ _ _ (by omega)
  have r5 := rd_bs l t ht
  have x1 : evBin .xor (vi .u8 (l.getD t 0).toNat) (vi .u8 1) = some (vi .u8 (l.getD t 0 ^^^ 1).toNat) := xor_u8 (l.getD t 0) 1
  have s1 : splice (bs l) t [vi .u8 (l.getD t 0 ^^^ 1).toNat] = bs (l.set t (l.getD t 0 ^^^ 1)) := sp_bsV l t _ ht
  have hcc : ∀ i o m z, cellsV (.agg [vb true, .sref i o m z]) = some [vb true, .sref i o m z] := fun _ _ _ _ => rfl
  refine C_of mixed Tryz.func19 A_slots_Disk_Turn_ok A_slots_Disk_Turn_res _ A_slots_Disk_Turn_nt ?_
  (repeat' (first | simp (maxSteps := 2000000) -implicitDefEqProofs only [A_slots_Disk_Turn, c1, c2, c3, c4, c5, l1, r2, len_lst, cells_lst, rk_ext, fk_ext, lrp, zDsk_sc, zRsk_sc, blk_zDsk, blk_zRsk, blk_zSlo, zSlo_sc, sp_Slo_has, sp_Slo_b, sp_Slo, rd_Slo, cSlo_len, len_zDsk, len_zRsk, lr_api, lr_keep, lr_register, lr, lr2, oO, oN, oG, oNG, oM, oF, oL, rg, ci, seval, resAll, resL, resV, blkAt, undef, fillV, evParts, footOp, wrOp, chk, disj] | split | ((first | apply ck_call | apply cfk_call); (first | (apply call_pure (k1) cll cl)))))
  refine ck_call _ _ (call_inG (sputO_C l (by omega)) ?_ (argL_cons (arg_closed _ cl) argL_nil) cl nr (bs_closed l) (no_ro_bs l)) ?_
  · simp [idsInL, idsIn, rowV]
  (repeat' (first | simp (maxSteps := 2000000) -implicitDefEqProofs only [c1, c2, c3, c4, c5, c6, c7, c8, c13, l1, p1, r3, r4, r5, x1, s1, len_lst, cells_lst, rk_ext, fk_ext, lrp, zDsk_sc, zRsk_sc, blk_zDsk, blk_zRsk, blk_zSlo, zSlo_sc, sp_Slo_has, sp_Slo_b, sp_Slo, rd_Slo, cSlo_len, len_zDsk, len_zRsk, lr_api, lr_keep, lr_register, lr, lr2, oO, oN, oG, oNG, oM, oF, oL, rg, ci, seval, resAll, resL, resV, blkAt, undef, fillV, evParts, footOp, wrOp, chk, disj] | split))
  generalize hL : l.set t (l.getD t 0 ^^^ 1) = L at *
  have hC : cDsk ⟨d.now.set n (trnS ⟨has, .of l⟩ t), d.old.set n (trnS ⟨has, .of l⟩ t), d.pend, d.at_, d.last⟩ = splice (splice (cDsk d) (n * 2) [vb true, rowV (.of L)]) (20 + n * 2) [vb true, rowV (.of L)] := by
    have o1 : Dsk.ok ⟨d.now.set n ⟨true, .of L⟩, d.old, d.pend, d.at_, d.last⟩ := ⟨by show (d.now.set n _).length = 10; rw [List.length_set]; exact hd.1, hd.2⟩
    have e1 := sp_dsk d hd n hn ⟨true, .of L⟩
    have e2 := sp_dskO _ o1 n hn ⟨true, .of L⟩
    rw [show cSlo ⟨true, .of L⟩ = [vb true, rowV (.of L)] from rfl] at e1 e2
    rw [e1, e2]
    unfold trnS
    show cDsk ⟨d.now.set n ⟨true, .of (l.set t (l.getD t 0 ^^^ 1))⟩, d.old.set n ⟨true, .of (l.set t (l.getD t 0 ^^^ 1))⟩, d.pend, d.at_, d.last⟩ = _
    rw [hL]
  rw [hC]
  have hs : ∀ (H : Heap), blkAt H 1 = some (bs L) → ArgRel H [0] [1] (.sref 1 0 l.length 1) (rowV (.of L)) := fun H hb => sref_B hb (by simp) (by simp) (by rw [← hL, List.length_set])
  refine out_updB [1] rfl (fun id h => ?_) (argL_sp _ (argL_sp _ (argL_closed _ (cDsk_closed d)) (argL_cons (arg_closed _ trivial) (argL_cons (hs _ rfl) argL_nil))) (argL_cons (arg_closed _ trivial) (argL_cons (hs _ rfl) argL_nil))) cl
  simp only [List.mem_cons, List.not_mem_nil, or_false] at h
  subst h
  exact ⟨_, rfl⟩
theorem dturnE_C (d : Dsk) (hd : d.ok) (n : Nat) (hn : n < 10) (t : Nat) (ht : ¬ t < (d.now.getD n default).b.l.length) :
    C Tryz.prog 19 [.ref 0 0, vi .i64 n, vi .i64 t] [cDsk d] (vb false) [some (cDsk d)] := by
  have c1 : (0 : Int) ≤ n := by omega
  have c2 : (n : Int) < 10 := by omega
  have k1 := sright_C n
  rw [decide_eq_true c1, decide_eq_true c2] at k1
  have r2 := rd_dsk_b d hd n hn
  have l1 := cDsk_len d hd
  generalize d.now.getD n default = x at *
  have c3 : ¬ (t : Int) < 0 := by omega
  have c4 : (t : Int) ≥ x.b.l.length := by omega
  have c5 : n * 2 ≤ 41 := by omega
  refine C_of mixed Tryz.func19 A_slots_Disk_Turn_ok A_slots_Disk_Turn_res _ A_slots_Disk_Turn_nt ?_
  (repeat' (first | simp (maxSteps := 2000000) -implicitDefEqProofs only [A_slots_Disk_Turn, c1, c2, c3, c4, c5, l1, r2, len_lst, cells_lst, rk_ext, fk_ext, lrp, zDsk_sc, zRsk_sc, blk_zDsk, blk_zRsk, blk_zSlo, zSlo_sc, sp_Slo_has, sp_Slo_b, sp_Slo, rd_Slo, cSlo_len, len_zDsk, len_zRsk, lr_api, lr_keep, lr_register, lr, lr2, oO, oN, oG, oNG, oM, oF, oL, rg, ci, seval, resAll, resL, resV, blkAt, undef, fillV, evParts, footOp, wrOp, chk, disj] | split | ((first | apply ck_call | apply cfk_call); (first | (apply call_pure (k1) cll cl)))))
  exact out_updE rfl rfl rfl cll cl
theorem rturn_C (d : Rsk) (hd : d.ok) (n : Nat) (hn : n < 10) (t : Nat) (hh : (d.now.getD n default).has = true) (ht : t < (d.now.getD n default).b.l.length) (h8 : (d.now.getD n default).b.l.length ≤ 8192) :
    C Tryz.prog 20 [.ref 0 0, vi .i64 n, vi .i64 t] [cRsk d] (vb true) [some (cRsk (trnK d n t))] := by
  have c1 : ¬ (n : Int) < 0 := by omega
  have c2 : ¬ (n : Int) ≥ 10 := by omega
  have c9 : (0 : Int) ≤ n := by omega
  have c10 : (n : Int) < 10 := by omega
  have r1 := rd_rsk_has d hd n hn
  have r2 := rd_rsk_b d hd n hn
  have l1 := cRsk_len d hd
  unfold trnK
  generalize d.now.getD n default = x at *
  obtain ⟨has, b⟩ := x
  change has = true at hh
  subst hh
  cases b with
  | nil => exact absurd ht (Nat.not_lt_zero _)
  | of l =>
  change t < l.length at ht
  change l.length ≤ 8192 at h8
  change rd none (cRsk d) (n * 2 + 1) = some (rowV (.of l)) at r2
  change rd none (cRsk d) (n * 2) = some (vb true) at r1
  have c3 : ¬ (t : Int) < 0 := by omega
  have c4 : ¬ (t : Int) ≥ l.length := by omega
  have c5 : n * 2 ≤ 41 := by omega
  have c6 : (0 : Int) ≤ t := by omega
  have c7 : (t : Int) < l.length := by omega
  have c8 : 20 + n * 2 ≤ 41 := by omega
  have c13 : t + 1 ≤ l.length := by omega
  have c11 : l.length ≤ 140737488355328 := by omega
  have c12 : n * 2 + 1 ≤ 42 := by omega
  have p1 : ∀ u v, (splice (cRsk d) (n * 2) [u, v]).length = 43 := fun u v => by rw [len_sp2 _ _ _ (by rw [l1]; simp; omega), l1]
  have q1 : ∀ v, splice (cRsk d) (n * 2 + 1) [v] = splice (cRsk d) (n * 2) [vb true, v] := fun v => sp_s1 _ _ v _ _ (by omega) r1 r2
  have r4 : ∀ u v, rd (some 2) (splice (cRsk d) (n * 2) [u, v]) (n * 2) = some (.agg [u, v]) := fun u v => rd_sp2a _ _ _ _ (by omega)
  have r5 := rd_bs l t ht
  have x1 : evBin .xor (vi .u8 (l.getD t 0).toNat) (vi .u8 1) = some (vi .u8 (l.getD t 0 ^^^ 1).toNat) := xor_u8 (l.getD t 0) 1
  have s1 : splice (bs l) t [vi .u8 (l.getD t 0 ^^^ 1).toNat] = bs (l.set t (l.getD t 0 ^^^ 1)) := sp_bsV l t _ ht
  have hcc : ∀ i o m z, cellsV (.agg [vb true, .sref i o m z]) = some [vb true, .sref i o m z] := fun _ _ _ _ => rfl
  refine C_of mixed Tryz.func20 A_clavigerref7_Disk_Turn_ok A_clavigerref7_Disk_Turn_res _ A_clavigerref7_Disk_Turn_nt ?_
  (repeat' (first | simp (maxSteps := 2000000) -implicitDefEqProofs only [A_clavigerref7_Disk_Turn, c1, c2, c3, c4, c5, c6, c7, c8, c9, c10, c11, c12, c13, l1, r1, r2, app_bs0, p1, q1, r4, r5, x1, s1, len_lst, cells_lst, rk_ext, fk_ext, lrp, zDsk_sc, zRsk_sc, blk_zDsk, blk_zRsk, blk_zSlo, zSlo_sc, sp_Slo_has, sp_Slo_b, sp_Slo, rd_Slo, cSlo_len, len_zDsk, len_zRsk, lr_api, lr_keep, lr_register, lr, lr2, oO, oN, oG, oNG, oM, oF, oL, rg, ci, seval, resAll, resL, resV, blkAt, undef, fillV, evParts, footOp, wrOp, chk, disj] | split))
  generalize hL : l.set t (l.getD t 0 ^^^ 1) = L at *
  have hC : cRsk ⟨d.now.set n (trnS ⟨true, .of l⟩ t), d.old.set n (trnS ⟨true, .of l⟩ t), d.last, d.put1, d.n⟩ = splice (splice (cRsk d) (n * 2) [vb true, rowV (.of L)]) (20 + n * 2) [vb true, rowV (.of L)] := by
    have o1 : Rsk.ok ⟨d.now.set n ⟨true, .of L⟩, d.old, d.last, d.put1, d.n⟩ := ⟨by show (d.now.set n _).length = 10; rw [List.length_set]; exact hd.1, hd.2⟩
    have e1 := sp_rsk d hd n hn ⟨true, .of L⟩
    have e2 := sp_rskO _ o1 n hn ⟨true, .of L⟩
    rw [show cSlo ⟨true, .of L⟩ = [vb true, rowV (.of L)] from rfl] at e1 e2
    rw [e1, e2]
    unfold trnS
    show cRsk ⟨d.now.set n ⟨true, .of (l.set t (l.getD t 0 ^^^ 1))⟩, d.old.set n ⟨true, .of (l.set t (l.getD t 0 ^^^ 1))⟩, d.last, d.put1, d.n⟩ = _
    rw [hL]
  rw [hC]
  have hs : ∀ (H : Heap) (id : Nat), blkAt H id = some (bs L) → id = 2 → ArgRel H [0] [2] (.sref id 0 l.length 1) (rowV (.of L)) := fun H id hb h2 => by
    subst h2
    exact sref_B hb (by simp) (by simp) (by rw [← hL, List.length_set])
  refine out_updB [2] rfl (fun id h => ?_) (argL_sp _ (argL_sp _ (argL_closed _ (cRsk_closed d)) (argL_cons (arg_closed _ trivial) (argL_cons (hs _ _ rfl rfl) argL_nil))) (argL_cons (arg_closed _ trivial) (argL_cons (hs _ _ rfl rfl) argL_nil))) cl
  simp only [List.mem_cons, List.not_mem_nil, or_false] at h
  subst h
  exact ⟨_, rfl⟩
theorem rturnE_C (d : Rsk) (hd : d.ok) (n : Nat) (hn : n < 10) (t : Nat) (ht : (d.now.getD n default).has = false ∨ ¬ t < (d.now.getD n default).b.l.length) :
    C Tryz.prog 20 [.ref 0 0, vi .i64 n, vi .i64 t] [cRsk d] (vb false) [some (cRsk d)] := by
  have c1 : ¬ (n : Int) < 0 := by omega
  have c2 : ¬ (n : Int) ≥ 10 := by omega
  have c9 : (0 : Int) ≤ n := by omega
  have c10 : (n : Int) < 10 := by omega
  have r1 := rd_rsk_has d hd n hn
  have r2 := rd_rsk_b d hd n hn
  have l1 := cRsk_len d hd
  generalize d.now.getD n default = x at *
  have c3 : ¬ (t : Int) < 0 := by omega
  have c5 : n * 2 ≤ 41 := by omega
  cases hh : x.has with
  | false =>
    refine C_of mixed Tryz.func20 A_clavigerref7_Disk_Turn_ok A_clavigerref7_Disk_Turn_res _ A_clavigerref7_Disk_Turn_nt ?_
    (repeat' (first | simp (maxSteps := 2000000) -implicitDefEqProofs only [A_clavigerref7_Disk_Turn, c1, c2, c3, c5, c9, c10, l1, r1, r2, hh, len_lst, cells_lst, rk_ext, fk_ext, lrp, zDsk_sc, zRsk_sc, blk_zDsk, blk_zRsk, blk_zSlo, zSlo_sc, sp_Slo_has, sp_Slo_b, sp_Slo, rd_Slo, cSlo_len, len_zDsk, len_zRsk, lr_api, lr_keep, lr_register, lr, lr2, oO, oN, oG, oNG, oM, oF, oL, rg, ci, seval, resAll, resL, resV, blkAt, undef, fillV, evParts, footOp, wrOp, chk, disj] | split))
    exact out_updE rfl rfl rfl cll cl
  | true =>
    have c4 : (t : Int) ≥ x.b.l.length := by rcases ht with h | h; · rw [hh] at h; cases h
                                             · omega
    refine C_of mixed Tryz.func20 A_clavigerref7_Disk_Turn_ok A_clavigerref7_Disk_Turn_res _ A_clavigerref7_Disk_Turn_nt ?_
    (repeat' (first | simp (maxSteps := 2000000) -implicitDefEqProofs only [A_clavigerref7_Disk_Turn, c1, c2, c3, c4, c5, c9, c10, l1, r1, r2, hh, len_lst, cells_lst, rk_ext, fk_ext, lrp, zDsk_sc, zRsk_sc, blk_zDsk, blk_zRsk, blk_zSlo, zSlo_sc, sp_Slo_has, sp_Slo_b, sp_Slo, rd_Slo, cSlo_len, len_zDsk, len_zRsk, lr_api, lr_keep, lr_register, lr, lr2, oO, oN, oG, oNG, oM, oF, oL, rg, ci, seval, resAll, resL, resV, blkAt, undef, fillV, evParts, footOp, wrOp, chk, disj] | split))
    exact out_updE rfl rfl rfl cll cl
theorem turns (d : Dsk) (m : Rsk) (hd : d.fine) (hm : m.ok) (h : mirr d m) (n : Nat) (hn : n < 10) (t : Nat) : ∃ (w : Bool) (d' : Dsk) (m' : Rsk), d'.fine ∧ m'.ok ∧ mirr d' m' ∧
    C Tryz.prog 19 [.ref 0 0, vi .i64 n, vi .i64 t] [cDsk d] (vb w) [some (cDsk d')] ∧
    C Tryz.prog 20 [.ref 0 0, vi .i64 n, vi .i64 t] [cRsk m] (vb w) [some (cRsk m')] := by
  have hb := (h.same n).2
  have hh := (h.same n).1
  have hz := h.none n
  by_cases ht : t < (d.now.getD n default).b.l.length
  · have h1 : (d.now.getD n default).has = true := by
      cases e : (d.now.getD n default).has with
      | true => rfl
      | false => rw [hz e] at ht; exact absurd ht (Nat.not_lt_zero _)
    exact ⟨true, trnD d n t, trnK m n t, trn_fine hd n t, trnK_ok hm n t, mirr_trn h hd.1 hm n t, dturn_C d hd.1 n hn t ht (hd.2 n), rturn_C m hm n hn t (by rw [← hh]; exact h1) (by rw [← hb]; exact ht) (by rw [← hb]; exact hd.2 n)⟩
  · exact ⟨false, d, m, hd, hm, h, dturnE_C d hd.1 n hn t ht, rturnE_C m hm n hn t (.inr (by rw [← hb]; exact ht))⟩
end Go.Proofs.YtmmaenfjnkoknaaGreat.VA
