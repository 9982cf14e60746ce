/- Disks: what is put is a row that the caller keeps. -/
import Derived.Test.YtmmaenfjnkoknaaGreatEjou
import Derived.Test.YtmmaenfjnkoknaaGreatVC
set_option linter.unusedVariables false
set_option linter.unusedSimpArgs false
set_option maxRecDepth 100000
namespace Go.Proofs.YtmmaenfjnkoknaaGreat.VA
open Go
attribute [local irreducible] WK NK XK TK RK FK CK CFK CallRel C
theorem call_inG {P : Program} {f : Nat} {args' : List V} {n sz : Nat} {x0 : V} {out : List V} (hC : C P f args' [] (.agg [x0, .sref 0 0 n sz]) [some out]) {H : Heap} {args : List V} (hbs : ∀ id ∈ idsInL args, ∃ cells, blkAt H id = some cells)
    (hrel : ArgRelL H [] (idsInL args) args args') (hx0 : Closed x0) (hr0 : NoRO x0) (hc : ClosedL out) (hro : NoROL out) : CallRel P f H args (.agg [x0, .sref H.length 0 n sz]) (H ++ [some out]) (idsInL args) [] := by
  have := call_in hC (H := H) (args := args) (idsInL args) (fun id h => ⟨h, hbs id h⟩) hrel (fun _ => ⟨⟨hr0, trivial, trivial⟩, fun i c hi => by
    cases i with
    | zero => simp at hi; subst hi; exact hro
    | succ i => simp at hi⟩)
  simpa [renV, renL, renV_closed _ _ hx0, renL_closed _ out hc] using this
theorem out_aggR {H : Heap} {id n sz : Nat} {x0 : V} {cells : List V} (hb : blkAt H id = some cells) (hx : Closed x0) (hc : ClosedL cells) : OutOK 0 H (.agg [x0, .sref id 0 n sz]) (.agg [x0, .sref 0 0 n sz]) [some cells] := by
  refine ⟨[id], [], by simp, rfl, by simp, fun k hk => by omega, fun i hi => (by cases hi), arg_agg (argL_cons (arg_closed _ hx) (argL_cons ?_ argL_nil)), fun k c hk => ?_⟩
  · simp only [ArgRel]; exact .inl ⟨0, rfl, rfl⟩
  · cases k with
    | zero => simp at hk; subst hk; exact ⟨id, cells, rfl, hb, argL_closed cells hc⟩
    | succ k => simp at hk
theorem sputO_C (l : List UInt8) (h : l.length ≤ 1000000) : C Tryz.prog 36 [rowV (.of l)] [] (.agg [vb true, .sref 0 0 l.length 1]) [some (bs l)] := by
  have g1 : ∀ (x : Slo) (i o m z : Nat), splice (cSlo x) 1 [.sref i o m z] = [vb x.has, .sref i o m z] := fun _ _ _ _ _ => rfl
  have g2 : ∀ (x : Slo) (a b : V), splice (cSlo x) 0 [a, b] = [a, b] := fun _ _ _ => rfl
  have g3 : ∀ (a b : V), rd (some 2) [a, b] 0 = some (.agg [a, b]) := fun a b => by simp [rd]
  refine C_of mixed Tryz.func36 A_slots_put_ok A_slots_put_res _ A_slots_put_nt ?_
  (repeat' (first | simp (maxSteps := 2000000) -implicitDefEqProofs only [A_slots_put, g1, g2, g3, len_lst, cells_lst, rk_ext, fk_ext, lrp, zDsk_sc, zRsk_sc, blk_zDsk, blk_zRsk, blk_zSlo, zSlo_sc, sp_Slo_has, sp_Slo_b, sp_Slo, rd_Slo, cSlo_len, len_zDsk, len_zRsk, lr_api, lr_keep, lr_register, lr, lr2, oO, oN, oG, oNG, oM, oF, oL, rg, ci, seval, resAll, resL, resV, blkAt, undef, fillV, evParts, footOp, wrOp, chk, disj] | split | ((first | apply ck_call | apply cfk_call); (first | (apply call_new (clone_C l (by omega)) cll cll)))))
  exact out_aggR rfl cl (bs_closed l)
theorem out_upd2B {H : Heap} {v : V} {C C' D : List V} (bs' : List Nat) (hb : blkAt H 0 = some C) (hb1 : blkAt H 1 = some D) (hD : ClosedL D) (hbs : ∀ id, id ∈ bs' → ∃ cells, blkAt H id = some cells) (h : ArgRelL H [0, 1] bs' C C') (hv : Closed v) : OutOK 2 H v v [some C', some D] := by
  refine ⟨[0, 1], bs', by simp, rfl, by simp, fun k hk => ?_, hbs, arg_closed v hv, fun k c hk => ?_⟩
  · rcases k with _ | _ | k
    · rfl
    · rfl
    · omega
  · rcases k with _ | _ | k
    · simp at hk; subst hk; exact ⟨0, C, rfl, hb, h⟩
    · simp at hk; subst hk; exact ⟨1, D, rfl, hb1, argL_closed D hD⟩
    · simp at hk
theorem put2_C (d : Dsk) (hd : d.ok) (n : Nat) (hn : n < 10) (l : List UInt8) (h : l.length ≤ 8192) : C Tryz.prog 11 [.ref 0 0, vi .i64 n, .sref 1 0 l.length 1] [cDsk d, bs l] (vb true) [some (cDsk (putD d n (.of l))), some (bs l)] := by
  refine C_of mixed Tryz.func11 A_slots_Disk_Put_ok A_slots_Disk_Put_res _ A_slots_Disk_Put_nt ?_
  have c1 : (0 : Int) ≤ n := by omega
  have c2 : (n : Int) < 10 := by omega
  have c3 : ¬ (l.length : Int) > 8192 := by omega
  have k1 := sright_C n
  rw [decide_eq_true c1, decide_eq_true c2] at k1
  have l1 := cDsk_len d hd
  have c4 : n * 2 ≤ 41 := by omega
  have p1 : ∀ u v, (splice (cDsk d) (n * 2) [u, v]).length = 43 := fun u v => by rw [len_sp2 _ _ _ (by rw [l1]; simp; omega), l1]
  have p2 : ∀ u v w, (splice (splice (cDsk d) (n * 2) [u, v]) 40 [w]).length = 43 := fun u v w => by rw [len_sp2 _ _ _ (by rw [p1]; simp), p1]
  have p3 : ∀ u v w x, (splice (splice (splice (cDsk d) (n * 2) [u, v]) 40 [w]) 41 [x]).length = 43 := fun u v w x => by rw [len_sp2 _ _ _ (by rw [p2]; simp), p2]
  have r1 : ∀ u v, rd none (splice (cDsk d) (n * 2) [u, v]) 40 = some (vi .i64 d.pend) := fun u v => by
    rw [rd_after _ _ _ _ (by simp; omega) (by rw [l1]; simp; omega), rd_dsk_pend d hd]
  have hcc : ∀ i o m z, cellsV (.agg [vb true, .sref i o m z]) = some [vb true, .sref i o m z] := fun _ _ _ _ => rfl
  (repeat' (first | simp (maxSteps := 2000000) -implicitDefEqProofs only [A_slots_Disk_Put, c1, c2, c3, c4, l1, p1, p2, p3, r1, len_lst, cells_lst, rk_ext, fk_ext, lrp, zDsk_sc, zRsk_sc, blk_zDsk, blk_zRsk, blk_zSlo, zSlo_sc, sp_Slo_has, sp_Slo_b, sp_Slo, rd_Slo, cSlo_len, len_zDsk, len_zRsk, lr_api, lr_keep, lr_register, lr, lr2, oO, oN, oG, oNG, oM, oF, oL, rg, ci, seval, resAll, resL, resV, blkAt, undef, fillV, evParts, footOp, wrOp, chk, disj] | split | ((first | apply ck_call | apply cfk_call); (first | (apply call_pure (k1) cll cl)))))
  refine ck_call _ _ (call_inG (sputO_C l (by omega)) ?_ (argL_cons (sref_B rfl (by simp [idsInL, idsIn]) (by simp) rfl) argL_nil) cl nr (bs_closed l) (no_ro_bs l)) ?_
  · simp [idsInL, idsIn, blkAt]
  (repeat' (first | simp (maxSteps := 2000000) -implicitDefEqProofs only [c1, c2, c3, c4, l1, p1, p2, p3, r1, len_lst, cells_lst, rk_ext, fk_ext, lrp, zDsk_sc, zRsk_sc, blk_zDsk, blk_zRsk, blk_zSlo, zSlo_sc, sp_Slo_has, sp_Slo_b, sp_Slo, rd_Slo, cSlo_len, len_zDsk, len_zRsk, lr_api, lr_keep, lr_register, lr, lr2, oO, oN, oG, oNG, oM, oF, oL, rg, ci, seval, resAll, resL, resV, blkAt, undef, fillV, evParts, footOp, wrOp, chk, disj] | split | ((first | apply ck_call | apply cfk_call); (first | (apply call_roA_new (clone_C l (by omega)); (simp [ids_nil, ids_cons, ids_sc, ids_agg, ids_dg, ids_bs, ids_row, ids_ints, ids_sref, ids_ref, ids_sl, blkAt] <;> fail); (repeat' (first | exact args_n | apply args_c | (first | exact arg_closed _ cl | (refine arg_rowA rfl mem ?_; (first | rfl | omega | (simp [bn_len] <;> fail) | (simp [bn_len]; omega))) | (refine arg_row rfl mem ?_; (first | rfl | omega | (simp [bn_len] <;> fail) | (simp [bn_len]; omega))) | (refine arg_fld mem ?_ ?_; (first | rfl | omega | (simp [bn_len] <;> fail) | (simp [bn_len]; omega)); (simp only [len_lst, cells_lst, rk_ext, fk_ext, lrp, zDsk_sc, zRsk_sc, blk_zDsk, blk_zRsk, blk_zSlo, zSlo_sc, sp_Slo_has, sp_Slo_b, sp_Slo, rd_Slo, cSlo_len, len_zDsk, len_zRsk, lr_api, lr_keep, lr_register, blkAt, List.getD_cons_zero, List.getD_cons_succ, Option.bind_some, rd_sE] <;> fail))))); (first | exact cl | exact cll); (first | exact nr | exact nrl))))))
  have hC : cDsk (putD d n (.of l)) = splice (splice (splice (splice (cDsk d) (n * 2) [vb true, rowV (.of l)]) 40 [vi .i64 (IntKind.i64.wrap (d.pend + 1))]) 41 [vi .i64 n]) 42 [rowV (.of l)] := by
    have o1 : Dsk.ok ⟨d.now.set n ⟨true, .of l⟩, d.old, d.pend, d.at_, d.last⟩ := ⟨by show (d.now.set n _).length = 10; rw [List.length_set]; exact hd.1, hd.2⟩
    have e := sp_dsk d hd n hn ⟨true, .of l⟩
    rw [show cSlo ⟨true, .of l⟩ = [vb true, rowV (.of l)] from rfl] at e
    have e2 : splice (cDsk ⟨d.now.set n ⟨true, .of l⟩, d.old, d.pend, d.at_, d.last⟩) 40 [vi .i64 (IntKind.i64.wrap (d.pend + 1))] = cDsk ⟨d.now.set n ⟨true, .of l⟩, d.old, IntKind.i64.wrap (d.pend + 1), d.at_, d.last⟩ := sp_dsk_pend _ o1 _
    have e3 : splice (cDsk ⟨d.now.set n ⟨true, .of l⟩, d.old, IntKind.i64.wrap (d.pend + 1), d.at_, d.last⟩) 41 [vi .i64 n] = cDsk ⟨d.now.set n ⟨true, .of l⟩, d.old, IntKind.i64.wrap (d.pend + 1), n, d.last⟩ := sp_dsk_at ⟨d.now.set n ⟨true, .of l⟩, d.old, IntKind.i64.wrap (d.pend + 1), d.at_, d.last⟩ o1 _
    have e4 : splice (cDsk ⟨d.now.set n ⟨true, .of l⟩, d.old, IntKind.i64.wrap (d.pend + 1), n, d.last⟩) 42 [rowV (.of l)] = cDsk ⟨d.now.set n ⟨true, .of l⟩, d.old, IntKind.i64.wrap (d.pend + 1), n, .of l⟩ := sp_dsk_last ⟨d.now.set n ⟨true, .of l⟩, d.old, IntKind.i64.wrap (d.pend + 1), n, d.last⟩ o1 _
    rw [e, e2, e3, e4]
    rfl
  rw [hC]
  have hs : ∀ (H : Heap) (id : Nat), blkAt H id = some (bs l) → id = 2 ∨ id = 3 → ArgRel H [0, 1] [2, 3] (.sref id 0 l.length 1) (rowV (.of l)) := fun H id hb h2 => sref_B hb (by rcases h2 with rfl | rfl <;> simp) (by rcases h2 with rfl | rfl <;> simp) rfl
  refine out_upd2B [2, 3] rfl rfl (bs_closed l) (fun id h => ?_) (argL_sp _ (argL_sp _ (argL_sp _ (argL_sp _ (argL_closed _ (cDsk_closed d)) (argL_cons (arg_closed _ trivial) (argL_cons (hs _ _ rfl (.inl rfl)) argL_nil))) (argL_cons (arg_closed _ trivial) argL_nil)) (argL_cons (arg_closed _ trivial) argL_nil)) (argL_cons (hs _ _ rfl (.inr rfl)) argL_nil)) cl
  simp only [List.mem_cons, List.not_mem_nil, or_false] at h
  rcases h with rfl | rfl
  · exact ⟨_, rfl⟩
  · exact ⟨_, rfl⟩
theorem rput2_C (d : Rsk) (hd : d.ok) (n : Nat) (hn : n < 10) (l : List UInt8) (h : l.length ≤ 8192) : C Tryz.prog 23 [.ref 0 0, vi .i64 n, .sref 1 0 l.length 1] [cRsk d, bs l] (vb true) [some (cRsk (putK d n (.of l))), some (bs l)] := by
  refine C_of mixed Tryz.func23 A_clavigerref7_Disk_Put_ok A_clavigerref7_Disk_Put_res _ A_clavigerref7_Disk_Put_nt ?_
  have c1 : ¬ (n : Int) < 0 := by omega
  have c2 : ¬ (n : Int) ≥ 10 := by omega
  have c5 : (0 : Int) ≤ n := by omega
  have c6 : (n : Int) < 10 := by omega
  have c3 : ¬ (l.length : Int) > 8192 := by omega
  have l1 := cRsk_len d hd
  have c4 : n * 2 ≤ 41 := by omega
  have c7 : l.length ≤ 140737488355328 := by omega
  have g1 : ∀ (x : Slo) (i o m z : Nat), splice (cSlo x) 1 [.sref i o m z] = [vb x.has, .sref i o m z] := fun _ _ _ _ _ => rfl
  have p1 : ∀ u v, (splice (cRsk d) (n * 2) [u, v]).length = 43 := fun u v => by rw [len_sp2 _ _ _ (by rw [l1]; simp; omega), l1]
  have p2 : ∀ u v w, (splice (splice (cRsk d) (n * 2) [u, v]) 40 [w]).length = 43 := fun u v w => by rw [len_sp2 _ _ _ (by rw [p1]; simp), p1]
  have p3 : ∀ u v w x, (splice (splice (splice (cRsk d) (n * 2) [u, v]) 40 [w]) 41 [x]).length = 43 := fun u v w x => by rw [len_sp2 _ _ _ (by rw [p2]; simp), p2]
  have r1 : ∀ u v w x, rd none (splice (splice (splice (cRsk d) (n * 2) [u, v]) 40 [w]) 41 [x]) 42 = some (vi .i64 d.n) := fun u v w x => by
    rw [rd_after _ 41 _ _ (by simp) (by rw [p2]; simp), rd_after _ 40 _ _ (by simp) (by rw [p1]; simp), rd_after _ _ _ _ (by simp; omega) (by rw [l1]; simp; omega), rd_rsk_n d hd]
  (repeat' (first | simp (maxSteps := 2000000) -implicitDefEqProofs only [A_clavigerref7_Disk_Put, c1, c2, c3, c4, c5, c6, c7, l1, app_bs0, g1, p1, p2, p3, r1, len_lst, cells_lst, rk_ext, fk_ext, lrp, zDsk_sc, zRsk_sc, blk_zDsk, blk_zRsk, blk_zSlo, zSlo_sc, sp_Slo_has, sp_Slo_b, sp_Slo, rd_Slo, cSlo_len, len_zDsk, len_zRsk, lr_api, lr_keep, lr_register, lr, lr2, oO, oN, oG, oNG, oM, oF, oL, rg, ci, seval, resAll, resL, resV, blkAt, undef, fillV, evParts, footOp, wrOp, chk, disj] | split))
  have hC : cRsk (putK d n (.of l)) = splice (splice (splice (splice (cRsk d) (n * 2) [vb true, rowV (.of l)]) 40 [vi .i64 n]) 41 [rowV (.of l)]) 42 [vi .i64 (IntKind.i64.wrap (d.n + 1))] := by
    have o1 : Rsk.ok ⟨d.now.set n ⟨true, .of l⟩, d.old, d.last, d.put1, d.n⟩ := ⟨by show (d.now.set n _).length = 10; rw [List.length_set]; exact hd.1, hd.2⟩
    have e := sp_rsk d hd n hn ⟨true, .of l⟩
    rw [show cSlo ⟨true, .of l⟩ = [vb true, rowV (.of l)] from rfl] at e
    have e2 : splice (cRsk ⟨d.now.set n ⟨true, .of l⟩, d.old, d.last, d.put1, d.n⟩) 40 [vi .i64 n] = cRsk ⟨d.now.set n ⟨true, .of l⟩, d.old, n, d.put1, d.n⟩ := sp_rsk_last _ o1 _
    have e3 : splice (cRsk ⟨d.now.set n ⟨true, .of l⟩, d.old, n, d.put1, d.n⟩) 41 [rowV (.of l)] = cRsk ⟨d.now.set n ⟨true, .of l⟩, d.old, n, .of l, d.n⟩ := sp_rsk_put1 ⟨d.now.set n ⟨true, .of l⟩, d.old, n, d.put1, d.n⟩ o1 _
    have e4 : splice (cRsk ⟨d.now.set n ⟨true, .of l⟩, d.old, n, .of l, d.n⟩) 42 [vi .i64 (IntKind.i64.wrap (d.n + 1))] = cRsk ⟨d.now.set n ⟨true, .of l⟩, d.old, n, .of l, IntKind.i64.wrap (d.n + 1)⟩ := sp_rsk_n ⟨d.now.set n ⟨true, .of l⟩, d.old, n, .of l, d.n⟩ o1 _
    rw [e, e2, e3, e4]
    rfl
  rw [hC]
  have hs : ∀ (H : Heap) (id : Nat), blkAt H id = some (bs l) → id = 3 ∨ id = 5 → ArgRel H [0, 1] [3, 5] (.sref id 0 l.length 1) (rowV (.of l)) := fun H id hb h2 => sref_B hb (by rcases h2 with rfl | rfl <;> simp) (by rcases h2 with rfl | rfl <;> simp) rfl
  refine out_upd2B [3, 5] rfl rfl (bs_closed l) (fun id h => ?_) (argL_sp _ (argL_sp _ (argL_sp _ (argL_sp _ (argL_closed _ (cRsk_closed d)) (argL_cons (arg_closed _ trivial) (argL_cons (hs _ _ rfl (.inl rfl)) argL_nil))) (argL_cons (arg_closed _ trivial) argL_nil)) (argL_cons (hs _ _ rfl (.inr rfl)) argL_nil)) (argL_cons (arg_closed _ trivial) argL_nil)) cl
  simp only [List.mem_cons, List.not_mem_nil, or_false] at h
  rcases h with rfl | rfl
  · exact ⟨_, rfl⟩
  · exact ⟨_, rfl⟩
end Go.Proofs.YtmmaenfjnkoknaaGreat.VA
