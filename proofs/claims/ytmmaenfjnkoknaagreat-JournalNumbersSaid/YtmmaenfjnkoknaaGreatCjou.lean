/- Disks: new ones, what is put and got. -/
import Derived.Test.YtmmaenfjnkoknaaGreatLjou
import Derived.Test.YtmmaenfjnkoknaaGreatCframe
import Derived.Test.YtmmaenfjnkoknaaGreatCregister
import Derived.Test.YtmmaenfjnkoknaaGreatVC
set_option linter.unusedVariables false
set_option linter.unusedSimpArgs false
set_option maxRecDepth 100000
namespace Go.Proofs.YtmmaenfjnkoknaaGreat.VA
open Go
attribute [local irreducible] WK NK XK TK RK FK CK CFK CallRel C
theorem call_newP {P : Program} {f : Nat} {args : List V} {cells : List V} (hC : C P f args [] (.ref 0 0) [some cells]) (ha : ClosedL args) (hc : ClosedL cells) {H : Heap} : CallRel P f H args (.ref H.length 0) (H ++ [some cells]) [] [] := by
  have := call_in hC (H := H) [] (fun id h => by cases h) (argL_closed args ha) (fun h => absurd rfl h)
  simpa [renV, renL_closed _ cells hc] using this
theorem arg_ref0 {H : Heap} (id off : Nat) : ArgRel H [id] [] (.ref id off) (.ref 0 off) := by
  simp only [ArgRel]; exact ⟨0, rfl, rfl⟩
theorem call_oneP {P : Program} {f : Nat} {id : Nat} {args args' : List V} {r : V} {cells cells' : List V} (hC : C P f args' [cells] r [some cells']) {H : Heap} (hb : blkAt H id = some cells) (hc : ClosedL cells) (hc' : ClosedL cells') (hr : Closed r)
    (hrel : ArgRelL H [id] [] args args') (hn : id ∈ idsInL args) : CallRel P f H args r (H.set id (some cells')) [id] [id] :=
  call_one hC hb hc hc' hrel hn (renV_closed _ r hr)
theorem out_ref {H : Heap} {id : Nat} {cells : List V} (hb : blkAt H id = some cells) (hc : ClosedL cells) : OutOK 0 H (.ref id 0) (.ref 0 0) [some cells] := by
  refine ⟨[id], [], by simp, rfl, by simp, fun k hk => by omega, fun i hi => (by cases hi), ?_, fun k c hk => ?_⟩
  · simp only [ArgRel]; exact ⟨0, rfl, rfl⟩
  · cases k with
    | zero => simp at hk; subst hk; exact ⟨id, cells, rfl, hb, argL_closed cells hc⟩
    | succ k => simp at hk
theorem newD_C : C Tryz.prog 7 [] [] (.ref 0 0) [some (cDsk Dsk.zero)] := by
  refine C_of mixed Tryz.func7 A_slots_New_ok A_slots_New_res _ A_slots_New_nt ?_
  (repeat' (first | simp (maxSteps := 2000000) -implicitDefEqProofs only [A_slots_New, len_lst, cells_lst, rk_ext, fk_ext, lrp, zDsk_sc, zRsk_sc, blk_zDsk, blk_zRsk, blk_zSlo, zSlo_sc, sp_Slo_has, sp_Slo_b, sp_Slo, rd_Slo, cSlo_len, len_zDsk, len_zRsk, lr_api, lr_keep, lr, lr2, oO, oN, oG, oNG, oM, oF, oL, rg, ci, seval, resAll, resL, resV, blkAt, undef, fillV, evParts, footOp, wrOp, chk, disj] | split))
  exact out_ref rfl (cDsk_closed _)
def rsk0 : Rsk := { Rsk.zero with last := -1 }
theorem rsk0_ok : rsk0.ok := ⟨rfl, rfl⟩
theorem newR_C : C Tryz.prog 8 [] [] (.ref 0 0) [some (cRsk rsk0)] := by
  refine C_of mixed Tryz.func8 A_clavigerref7_New_ok A_clavigerref7_New_res _ A_clavigerref7_New_nt ?_
  (repeat' (first | simp (maxSteps := 2000000) -implicitDefEqProofs only [A_clavigerref7_New, sp_rsk_last _ rsk_zero, len_lst, cells_lst, rk_ext, fk_ext, lrp, zDsk_sc, zRsk_sc, blk_zDsk, blk_zRsk, blk_zSlo, zSlo_sc, sp_Slo_has, sp_Slo_b, sp_Slo, rd_Slo, cSlo_len, len_zDsk, len_zRsk, lr_api, lr_keep, lr, lr2, oO, oN, oG, oNG, oM, oF, oL, rg, ci, seval, resAll, resL, resV, blkAt, undef, fillV, evParts, footOp, wrOp, chk, disj] | split))
  exact out_ref rfl (cRsk_closed _)
theorem sright_C (n : Int) : C Tryz.prog 35 [vi .i64 n] [] (vb (decide (0 ≤ n) && decide (n < 10))) [] := by
  refine C_of mixed Tryz.func35 A_slots_right_ok A_slots_right_res _ A_slots_right_nt ?_
  (repeat' (first | simp (maxSteps := 2000000) -implicitDefEqProofs only [A_slots_right, len_lst, cells_lst, rk_ext, fk_ext, lrp, zDsk_sc, zRsk_sc, blk_zDsk, blk_zRsk, blk_zSlo, zSlo_sc, sp_Slo_has, sp_Slo_b, sp_Slo, rd_Slo, cSlo_len, len_zDsk, len_zRsk, lr_api, lr_keep, lr, lr2, oO, oN, oG, oNG, oM, oF, oL, rg, ci, seval, resAll, resL, resV, blkAt, undef, fillV, evParts, footOp, wrOp, chk, disj] | split))
  all_goals (refine out_eq ?_ (cl); first | rfl | (simp_all []; done) | (simp_all []; intros; omega) | (simp []; (repeat' split) <;> first | rfl | omega | (simp_all; done) | (simp_all; intros; omega)))
theorem sput_C (b : Row) (h : b.l.length ≤ 1000000) : C Tryz.prog 36 [rowV b] [] (.agg (cSlo ⟨true, b⟩)) [] := by
  refine C_of mixed Tryz.func36 A_slots_put_ok A_slots_put_res _ A_slots_put_nt ?_
  (repeat' (first | simp (maxSteps := 2000000) -implicitDefEqProofs only [A_slots_put, len_lst, cells_lst, rk_ext, fk_ext, lrp, zDsk_sc, zRsk_sc, blk_zDsk, blk_zRsk, blk_zSlo, zSlo_sc, sp_Slo_has, sp_Slo_b, sp_Slo, rd_Slo, cSlo_len, len_zDsk, len_zRsk, lr_api, lr_keep, lr, lr2, oO, oN, oG, oNG, oM, oF, oL, rg, ci, seval, resAll, resL, resV, blkAt, undef, fillV, evParts, footOp, wrOp, chk, disj] | split | ((first | apply ck_call | apply cfk_call); (first | (apply call_pure (cloneR_C b h) cll cl)))))
  exact out_eq rfl cl
def putD (d : Dsk) (n : Nat) (b : Row) : Dsk := { d with now := d.now.set n ⟨true, b⟩, pend := IntKind.i64.wrap (d.pend + 1), at_ := n, last := b }
theorem putD_ok {d : Dsk} (h : d.ok) (n : Nat) (b : Row) : (putD d n b).ok := ⟨by unfold putD; rw [List.length_set]; exact h.1, h.2⟩
theorem put_C (d : Dsk) (hd : d.ok) (n : Nat) (hn : n < 10) (b : Row) (h : b.l.length ≤ 8192) : C Tryz.prog 11 [.ref 0 0, vi .i64 n, rowV b] [cDsk d] (vb true) [some (cDsk (putD d n b))] := by
  refine C_of mixed Tryz.func11 A_slots_Disk_Put_ok A_slots_Disk_Put_res _ A_slots_Disk_Put_nt ?_
  have c1 : (0 : Int) ≤ n := by omega
  have c2 : (n : Int) < 10 := by omega
  have c3 : ¬ (b.l.length : Int) > 8192 := by omega
  have k1 := sright_C n
  rw [decide_eq_true c1, decide_eq_true c2] at k1
  have l1 := cDsk_len d hd
  have c4 : n * 2 ≤ 41 := by omega
  have s1 := sp_dsk d hd n hn
  have o1 : Dsk.ok ⟨d.now.set n ⟨true, b⟩, d.old, d.pend, d.at_, d.last⟩ := ⟨by show (d.now.set n _).length = 10; rw [List.length_set]; exact hd.1, hd.2⟩
  have r1 := rd_dsk_pend _ o1
  have s2 := sp_dsk_pend _ o1 (IntKind.i64.wrap (d.pend + 1))
  have l2 := cDsk_len _ o1
  have o2 : Dsk.ok ⟨d.now.set n ⟨true, b⟩, d.old, IntKind.i64.wrap (d.pend + 1), d.at_, d.last⟩ := o1
  have s3 := sp_dsk_at _ o2 n
  have l3 := cDsk_len _ o2
  have o3 : Dsk.ok ⟨d.now.set n ⟨true, b⟩, d.old, IntKind.i64.wrap (d.pend + 1), n, d.last⟩ := o1
  have s4 := sp_dsk_last _ o3 b
  have l4 := cDsk_len _ o3
  (repeat' (first | simp (maxSteps := 2000000) -implicitDefEqProofs only [A_slots_Disk_Put, c1, c2, c3, c4, l1, s1, r1, s2, l2, s3, l3, s4, l4, len_lst, cells_lst, rk_ext, fk_ext, lrp, zDsk_sc, zRsk_sc, blk_zDsk, blk_zRsk, blk_zSlo, zSlo_sc, sp_Slo_has, sp_Slo_b, sp_Slo, rd_Slo, cSlo_len, len_zDsk, len_zRsk, lr_api, lr_keep, lr, lr2, oO, oN, oG, oNG, oM, oF, oL, rg, ci, seval, resAll, resL, resV, blkAt, undef, fillV, evParts, footOp, wrOp, chk, disj] | split | ((first | apply ck_call | apply cfk_call); (first | (apply call_pure (k1) cll cl) | (apply call_pure (sput_C b (by omega)) cll cl) | (apply call_pure (cloneR_C b (by omega)) cll cl)))))
  exact out_upd rfl cll cl
theorem get_C (d : Dsk) (hd : d.ok) (n : Nat) (hn : n < 10) (h : (d.now.getD n default).b.l.length ≤ 8192) : C Tryz.prog 39 [.ref 0 0, vi .i64 n] [cDsk d]
    (if (d.now.getD n default).has = true then .tup [rowV (d.now.getD n default).b, vb true] else .tup [vnil, vb false]) [some (cDsk d)] := by
  refine C_of mixed Tryz.func39 A_slots_Disk_Get_ok A_slots_Disk_Get_res _ A_slots_Disk_Get_nt ?_
  have c1 : (0 : Int) ≤ n := by omega
  have c2 : (n : Int) < 10 := by omega
  have k1 := sright_C n
  rw [decide_eq_true c1, decide_eq_true c2] at k1
  have r1 := rd_dsk_has d hd n hn
  have r2 := rd_dsk_b d hd n hn
  generalize d.now.getD n default = x at *
  by_cases hx : x.has = true
  · rw [if_pos hx]
    (repeat' (first | simp (maxSteps := 2000000) -implicitDefEqProofs only [A_slots_Disk_Get, c1, c2, r1, r2, hx, len_lst, cells_lst, rk_ext, fk_ext, lrp, zDsk_sc, zRsk_sc, blk_zDsk, blk_zRsk, blk_zSlo, zSlo_sc, sp_Slo_has, sp_Slo_b, sp_Slo, rd_Slo, cSlo_len, len_zDsk, len_zRsk, lr_api, lr_keep, lr, lr2, oO, oN, oG, oNG, oM, oF, oL, rg, ci, seval, resAll, resL, resV, blkAt, undef, fillV, evParts, footOp, wrOp, chk, disj] | split | ((first | apply ck_call | apply cfk_call); (first | (apply call_pure (k1) cll cl) | (apply call_pure (cloneR_C x.b (by omega)) cll cl)))))
    exact out_upd rfl cll cl
  · have hx : x.has = false := by simpa using hx
    rw [hx]
    (repeat' (first | simp (maxSteps := 2000000) -implicitDefEqProofs only [A_slots_Disk_Get, c1, c2, r1, r2, hx, len_lst, cells_lst, rk_ext, fk_ext, lrp, zDsk_sc, zRsk_sc, blk_zDsk, blk_zRsk, blk_zSlo, zSlo_sc, sp_Slo_has, sp_Slo_b, sp_Slo, rd_Slo, cSlo_len, len_zDsk, len_zRsk, lr_api, lr_keep, lr, lr2, oO, oN, oG, oNG, oM, oF, oL, rg, ci, seval, resAll, resL, resV, blkAt, undef, fillV, evParts, footOp, wrOp, chk, disj] | split | ((first | apply ck_call | apply cfk_call); (first | (apply call_pure (k1) cll cl)))))
    exact out_upd rfl cll cl
theorem argL_take {H : Heap} {ids bs : List Nat} : ∀ {c c' : List V}, ArgRelL H ids bs c c' → ∀ n, ArgRelL H ids bs (c.take n) (c'.take n)
  | [], c', h, n => by simp only [ArgRelL] at h; subst h; simp [ArgRelL]
  | v :: c, c', h, n => by
    simp only [ArgRelL] at h
    obtain ⟨a, us, rfl, h1, h2⟩ := h
    cases n with
    | zero => simp [ArgRelL]
    | succ n => simp only [List.take_succ_cons, ArgRelL]; exact ⟨a, _, rfl, h1, argL_take h2 n⟩
theorem argL_drop {H : Heap} {ids bs : List Nat} : ∀ {c c' : List V}, ArgRelL H ids bs c c' → ∀ n, ArgRelL H ids bs (c.drop n) (c'.drop n)
  | [], c', h, n => by simp only [ArgRelL] at h; subst h; simp [ArgRelL]
  | v :: c, c', h, n => by
    have h0 := h
    simp only [ArgRelL] at h
    obtain ⟨a, us, rfl, h1, h2⟩ := h
    cases n with
    | zero => exact h0
    | succ n => exact argL_drop h2 n
theorem len_sp2 (c : List V) (o : Nat) (v : List V) (h : o + v.length ≤ c.length) : (splice c o v).length = c.length := by
  simp [splice]; omega
theorem rd_after (c : List V) (o : Nat) (v : List V) (k : Nat) (h : o + v.length ≤ k) (h2 : o + v.length ≤ c.length) : rd none (splice c o v) k = rd none c k := by
  show (splice c o v)[k]? = c[k]?
  unfold splice
  have e1 : (c.take o).length = o := by rw [List.length_take]; omega
  rw [List.getElem?_append_right (by rw [e1]; omega), e1, List.getElem?_append_right (by omega), List.getElem?_drop]
  congr 1; omega
theorem argL_sp {H : Heap} {ids bs : List Nat} {c c' v v' : List V} (o : Nat) (h1 : ArgRelL H ids bs c c') (h2 : ArgRelL H ids bs v v') : ArgRelL H ids bs (splice c o v) (splice c' o v') := by
  unfold splice
  rw [← argL_len h2]
  exact argL_app (argL_take h1 o) (argL_app h2 (argL_drop h1 _))
def putK (d : Rsk) (n : Nat) (b : Row) : Rsk := ⟨d.now.set n ⟨true, .of b.l⟩, d.old, n, .of b.l, IntKind.i64.wrap (d.n + 1)⟩
theorem putK_ok {d : Rsk} (h : d.ok) (n : Nat) (b : Row) : (putK d n b).ok := ⟨by show (d.now.set n _).length = 10; rw [List.length_set]; exact h.1, h.2⟩
theorem out_updB {H : Heap} {v : V} {C C' : List V} (bs' : List Nat) (hb : blkAt H 0 = some C) (hbs : ∀ id, id ∈ bs' → ∃ cells, blkAt H id = some cells) (h : ArgRelL H [0] bs' C C') (hv : Closed v) : OutOK 1 H v v [some C'] := by
  refine ⟨[0], bs', by simp, rfl, by simp, fun k hk => ?_, hbs, arg_closed v hv, fun k c hk => ?_⟩
  · obtain rfl : k = 0 := by omega
    rfl
  · cases k with
    | zero => simp at hk; subst hk; exact ⟨0, C, rfl, hb, h⟩
    | succ k => simp at hk
theorem sref_B {H : Heap} {ids bs' : List Nat} {id n : Nat} {l : List UInt8} (hb : blkAt H id = some (bs l)) (hi : id ∈ bs') (h0 : id ∉ ids) (hn : n = l.length) : ArgRel H ids bs' (.sref id 0 n 1) (rowV (.of l)) := by
  simp only [ArgRel]
  refine .inr ⟨h0, hi, bs l, bs l, hb, by rw [bs_len]; omega, ?_, by rw [hn]; rfl⟩
  rw [List.drop_zero, Nat.mul_one, List.take_of_length_le (by rw [bs_len]; omega)]
  exact seen_closed _ (bs_closed l)
theorem rput_C (d : Rsk) (hd : d.ok) (n : Nat) (hn : n < 10) (b : Row) (h : b.l.length ≤ 8192) : C Tryz.prog 23 [.ref 0 0, vi .i64 n, rowV b] [cRsk d] (vb true) [some (cRsk (putK d n b))] := by
  refine C_of mixed Tryz.func23 A_clavigerref7_Disk_Put_ok A_clavigerref7_Disk_Put_res _ A_clavigerref7_Disk_Put_nt ?_
  have c1 : ¬ (n : Int) < 0 := by omega
  have c2 : ¬ (n : Int) ≥ 10 := by omega
  have c5 : (0 : Int) ≤ n := by omega
  have c6 : (n : Int) < 10 := by omega
  have c3 : ¬ (b.l.length : Int) > 8192 := by omega
  have l1 := cRsk_len d hd
  have c4 : n * 2 ≤ 41 := by omega
  have c7 : b.l.length ≤ 140737488355328 := by omega
  have g1 : ∀ (x : Slo) (i o m z : Nat), splice (cSlo x) 1 [.sref i o m z] = [vb x.has, .sref i o m z] := fun _ _ _ _ _ => rfl
  have p1 : ∀ u v, (splice (cRsk d) (n * 2) [u, v]).length = 43 := fun u v => by rw [len_sp2 _ _ _ (by rw [l1]; simp; omega), l1]
  have p2 : ∀ u v w, (splice (splice (cRsk d) (n * 2) [u, v]) 40 [w]).length = 43 := fun u v w => by rw [len_sp2 _ _ _ (by rw [p1]; simp), p1]
  have p3 : ∀ u v w x, (splice (splice (splice (cRsk d) (n * 2) [u, v]) 40 [w]) 41 [x]).length = 43 := fun u v w x => by rw [len_sp2 _ _ _ (by rw [p2]; simp), p2]
  have r1 : ∀ u v w x, rd none (splice (splice (splice (cRsk d) (n * 2) [u, v]) 40 [w]) 41 [x]) 42 = some (vi .i64 d.n) := fun u v w x => by
    rw [rd_after _ 41 _ _ (by simp) (by rw [p2]; simp), rd_after _ 40 _ _ (by simp) (by rw [p1]; simp), rd_after _ _ _ _ (by simp; omega) (by rw [l1]; simp; omega), rd_rsk_n d hd]
  (repeat' (first | simp (maxSteps := 2000000) -implicitDefEqProofs only [A_clavigerref7_Disk_Put, c1, c2, c3, c4, c5, c6, c7, l1, app_bs0, g1, p1, p2, p3, r1, len_lst, cells_lst, rk_ext, fk_ext, lrp, zDsk_sc, zRsk_sc, blk_zDsk, blk_zRsk, blk_zSlo, zSlo_sc, sp_Slo_has, sp_Slo_b, sp_Slo, rd_Slo, cSlo_len, len_zDsk, len_zRsk, lr_api, lr_keep, lr, lr2, oO, oN, oG, oNG, oM, oF, oL, rg, ci, seval, resAll, resL, resV, blkAt, undef, fillV, evParts, footOp, wrOp, chk, disj] | split))
  have hC : cRsk (putK d n b) = splice (splice (splice (splice (cRsk d) (n * 2) [vb true, rowV (.of b.l)]) 40 [vi .i64 n]) 41 [rowV (.of b.l)]) 42 [vi .i64 (IntKind.i64.wrap (d.n + 1))] := by
    have o1 : Rsk.ok ⟨d.now.set n ⟨true, .of b.l⟩, d.old, d.last, d.put1, d.n⟩ := ⟨by show (d.now.set n _).length = 10; rw [List.length_set]; exact hd.1, hd.2⟩
    have e := sp_rsk d hd n hn ⟨true, .of b.l⟩
    rw [show cSlo ⟨true, .of b.l⟩ = [vb true, rowV (.of b.l)] from rfl] at e
    have e2 : splice (cRsk ⟨d.now.set n ⟨true, .of b.l⟩, d.old, d.last, d.put1, d.n⟩) 40 [vi .i64 n] = cRsk ⟨d.now.set n ⟨true, .of b.l⟩, d.old, n, d.put1, d.n⟩ := sp_rsk_last _ o1 _
    have e3 : splice (cRsk ⟨d.now.set n ⟨true, .of b.l⟩, d.old, n, d.put1, d.n⟩) 41 [rowV (.of b.l)] = cRsk ⟨d.now.set n ⟨true, .of b.l⟩, d.old, n, .of b.l, d.n⟩ := sp_rsk_put1 ⟨d.now.set n ⟨true, .of b.l⟩, d.old, n, d.put1, d.n⟩ o1 _
    have e4 : splice (cRsk ⟨d.now.set n ⟨true, .of b.l⟩, d.old, n, .of b.l, d.n⟩) 42 [vi .i64 (IntKind.i64.wrap (d.n + 1))] = cRsk ⟨d.now.set n ⟨true, .of b.l⟩, d.old, n, .of b.l, IntKind.i64.wrap (d.n + 1)⟩ := sp_rsk_n ⟨d.now.set n ⟨true, .of b.l⟩, d.old, n, .of b.l, d.n⟩ o1 _
    rw [e, e2, e3, e4]
    rfl
  rw [hC]
  have hs : ∀ (H : Heap) (id : Nat), blkAt H id = some (bs b.l) → id = 2 ∨ id = 4 → ArgRel H [0] [2, 4] (.sref id 0 b.l.length 1) (rowV (.of b.l)) := fun H id hb h2 => sref_B hb (by rcases h2 with rfl | rfl <;> simp) (by rcases h2 with rfl | rfl <;> simp) rfl
  refine out_updB [2, 4] rfl (fun id h => ?_) (argL_sp _ (argL_sp _ (argL_sp _ (argL_sp _ (argL_closed _ (cRsk_closed d)) (argL_cons (arg_closed _ trivial) (argL_cons (hs _ _ rfl (.inl rfl)) argL_nil))) (argL_cons (arg_closed _ trivial) argL_nil)) (argL_cons (hs _ _ rfl (.inr rfl)) argL_nil)) (argL_cons (arg_closed _ trivial) argL_nil)) cl
  simp only [List.mem_cons, List.not_mem_nil, or_false] at h
  rcases h with rfl | rfl
  · exact ⟨_, rfl⟩
  · exact ⟨_, rfl⟩
end Go.Proofs.YtmmaenfjnkoknaaGreat.VA
