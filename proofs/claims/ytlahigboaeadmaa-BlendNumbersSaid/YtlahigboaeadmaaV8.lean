/- The soundness of single operations of 'VA': slice expressions, append, copy. -/
import Derived.Test.YtlahigboaeadmaaV7
set_option linter.unusedVariables false
set_option linter.unusedSimpArgs false
namespace Go.Proofs.Ytlahigboaeadmaa.VA
open Go

theorem run_mark_old {P : Program} {w : World} {b o : Nat} {C : Array Value} {e : TypeId} {lo up : Nat} (hC : w.heap[b]? = some (.cells C e (lo, up))) (hfz : lo = up ∨ C.size ≤ lo) :
    ∃ w' lo' up', (markStringish ⟨b, o, none⟩).run P w = .ok () w' ∧ Wrote w w' b C e (lo', up') ∧ (lo' = up' ∨ C.size ≤ lo') := by
  have hs : w.shape? b = some (e, C.size) := by simp [World.shape?, hC]
  refine ⟨w.freeze { block := b, off := C.size } 1, (if lo == up then (C.size, C.size + 1) else (min lo C.size, max up (C.size + 1))).1, (if lo == up then (C.size, C.size + 1) else (min lo C.size, max up (C.size + 1))).2, ?_, ?_, ?_⟩
  · simp only [markStringish, Sem.run_bind, run_shape, hs, Result.andThen_ok]
    simp only [run_freeze]
  · refine ⟨rfl, rfl, rfl, by simp [World.freeze], fun k hk => ?_, ?_⟩
    · simp only [World.freeze]
      rw [if_neg (by omega)]
      simp only [Array.getElem?_modify]
      rw [if_neg (Ne.symm hk)]
    · simp only [World.freeze]
      rw [if_neg (by omega)]
      simp only [Array.getElem?_modify, hC, if_true, Option.map_some]
  · by_cases h : lo = up
    · subst h; right; simp
    · have : (lo == up) = false := by simpa using h
      rw [this]
      right
      simp only [Bool.false_eq_true, if_false]
      rcases hfz with hfz | hfz
      · exact absurd hfz h
      · omega

theorem set_self {H : Heap} {id : Nat} {o : Option (List V)} (h : H[id]? = some o) : H.set id o = H := by
  apply List.ext_getElem?
  intro i
  by_cases hi : id = i
  · subst hi; rw [List.getElem?_set_self (List.getElem?_eq_some_iff.1 h).1, h]
  · rw [List.getElem?_set_ne hi]

theorem snd_mark {P : Program} {K : Cx} {H : Heap} {D : Nat → Prop} {S : List V} {a : Act} {o : Oper} {src dst e e0 : TypeId} {x : Operand} {d : Od} (ho : o.op = .convert src dst x) (hsd : src = dst) (hd : cOd x = some d)
    (h1 : P.underlying src = some (.slice e0)) (h2 : P.underlying dst = some (.slice e)) (h3 : P.underlying e = some (.int .u8))
    (hK : HeapOK K H D) (hx : OnOd K S a x) (hfoot : ∀ i ∈ footOp S (.mark d), D i) {v : V} {H' : Heap} (he : evOp S H (.mark d) = some (v, H')) : OpDone P K H D (execOp a.eval o) v H' := by
  have hrep := od_rep hd hx
  simp only [evOp] at he
  simp only [footOp] at hfoot
  split at he
  · rename_i id off n sz hv
    rw [hv] at hrep hfoot
    split at he
    · rename_i cells hb
      cases he
      have hrep' := hrep
      simp only [Rep] at hrep; obtain ⟨b, oo, cap, hb', hc, _⟩ := hrep
      have hD := hfoot id (by simp [idV])
      obtain ⟨b2, cells2, hb2, hH, C, e1, lo, up, hC, hl, hfz, h1c, hcc⟩ := hK.blk id hD
      rw [hb'] at hb2; cases hb2
      rw [blkAt_iff, hH] at hb; cases hb
      obtain ⟨w', lo', up', hrun, hwr, hfz'⟩ := run_mark_old (P := P) (o := oo) hC hfz
      obtain ⟨hK', hst⟩ := wrote_sound hK hD hb' hC hwr rfl hl hfz' h1c hcc
      rw [set_self hH] at hK' hst
      refine ⟨.value (a.eval x), a.eval x, _, ?_, .inl rfl, hK', hst, Rep.pres (hst.pres hK) _ _ hrep'⟩
      unfold execOp; rw [ho]
      subst hsd
      have hconv : (convert src src (.slice (some ⟨b, oo, none⟩) n cap)).run P K.w = .ok (.slice (some ⟨b, oo, none⟩) n cap) w' := by
        simp [convert, run_underlying h2, run_underlying h3, hrun]
      simp only [hc, Sem.run_bind, hconv, Result.andThen_ok]
      rfl
    · cases he
  · cases he

/-! ## Slice expressions -/

theorem bnd_run {P : Program} {K : Cx} {S : List V} {a : Act} {oo : Option Operand} {d : Option Od} {dflt mx h : Nat} (hd : cOpt oo = some d) (hx : ∀ x, oo = some x → OnOd K S a x) (hb : bnd S d dflt mx = some h) :
    (oo = none ∧ h = dflt) ∨ ∃ x k i, oo = some x ∧ a.eval x = .int k i ∧ 0 ≤ i ∧ i ≤ mx ∧ h = i.toNat := by
  cases oo with
  | none => simp only [cOpt] at hd; cases hd; simp only [bnd] at hb; cases hb; exact .inl ⟨rfl, rfl⟩
  | some x =>
    simp only [cOpt, Option.map_eq_some_iff] at hd
    obtain ⟨d', hd', rfl⟩ := hd
    simp only [bnd] at hb
    split at hb
    · rename_i i hi
      split at hb
      · rename_i hle
        cases hb
        obtain ⟨k, hk⟩ := int_rep hi (od_rep hd' (hx x rfl))
        exact .inr ⟨x, k, i, rfl, hk, hle.1, hle.2, rfl⟩
      · cases hb
    · cases hb

theorem bounds_run {P : Program} {K : Cx} {S : List V} {a : Act} {lo hi : Option Operand} {dl dh : Option Od} {n cap l h : Nat} (isS : Bool) (hl : cOpt lo = some dl) (hh : cOpt hi = some dh) (hxl : ∀ x, lo = some x → OnOd K S a x) (hxh : ∀ x, hi = some x → OnOd K S a x)
    (hbh : bnd S dh n n = some h) (hbl : bnd S dl 0 h = some l) (hn : n ≤ cap) (w : World) :
    l ≤ h ∧ h ≤ n ∧ (Instr.sliceBounds isS n cap (lo.map a.eval) (hi.map a.eval) none).run P w = .ok (l, h, cap) w := by
  have eh := bnd_run (P := P) hh hxh hbh
  have el := bnd_run (P := P) hl hxl hbl
  have hhn : h ≤ n := by rcases eh with ⟨_, rfl⟩ | ⟨x, k, i, _, _, _, h2, rfl⟩ <;> omega
  have hlh : l ≤ h := by rcases el with ⟨_, rfl⟩ | ⟨x, k, i, _, _, _, h2, rfl⟩ <;> omega
  refine ⟨hlh, hhn, ?_⟩
  have runb : ∀ (k : IntKind) (i : Int) (m : Nat) (code : BoundsCode), 0 ≤ i → i ≤ m → (Instr.sliceBound (.int k i) m code).run P w = .ok i.toNat w := fun k i m code h0 h1 => by
    simp [Instr.sliceBound, asIntOf, h0, h1]
  rcases eh with ⟨rfl, rfl⟩ | ⟨x, k, i, rfl, hx, h1, h2, rfl⟩
  · rcases el with ⟨rfl, rfl⟩ | ⟨y, k', j, rfl, hy, h3, h4, rfl⟩
    · simp [Instr.sliceBounds]
    · simp [Instr.sliceBounds, hy, runb k' j _ _ h3 h4]
  · rcases el with ⟨rfl, rfl⟩ | ⟨y, k', j, rfl, hy, h3, h4, rfl⟩
    · simp [Instr.sliceBounds, hx, runb k i cap _ h1 (by omega)]
    · simp [Instr.sliceBounds, hx, hy, runb k i cap _ h1 (by omega), runb k' j _ _ h3 h4]

theorem snd_sliceArr {P : Program} {K : Cx} {H : Heap} {D : Nat → Prop} {S : List V} {a : Act} {o : Oper} {t e : TypeId} {x : Operand} {lo hi : Option Operand} {d : Od} {dl dh : Option Od} {n sz : Nat} (ho : o.op = .slice t x lo hi none) (hd : cOd x = some d)
    (hl : cOpt lo = some dl) (hh : cOpt hi = some dh) (h1 : P.underlying t = some (.array n e)) (h2 : sizeC P e = some sz)
    (hK : HeapOK K H D) (hx : OnOd K S a x) (hxl : ∀ x, lo = some x → OnOd K S a x) (hxh : ∀ x, hi = some x → OnOd K S a x) (hfoot : ∀ i ∈ footOp S (.sliceArr n sz d dl dh), D i)
    {v : V} {H' : Heap} (he : evOp S H (.sliceArr n sz d dl dh) = some (v, H')) : OpDone P K H D (execOp a.eval o) v H' := by
  have hrep := od_rep hd hx
  simp only [evOp] at he
  simp only [footOp] at hfoot
  split at he
  · rename_i h hbh
    split at he
    · rename_i l hbl
      obtain ⟨hlh, hhn, hbr⟩ := bounds_run (P := P) false hl hh hxl hxh hbh hbl (Nat.le_refl n) K.w
      have hrun : ∀ (ad : Addr), a.eval x = .pointer (some ad) → (execOp a.eval o).run P K.w = .ok (.value (.slice (some (if n = l then ad else ad.add (l * sz))) (h - l) (n - l))) K.w := by
        intro ad hc
        unfold execOp; rw [ho]
        simp [Instr.sliceAt, Instr.sureAddr, run_underlying h1, hc, hbr, info_size h2]
      cases hv : d.ev S with
      | ref id off =>
        rw [hv] at he hrep hfoot
        simp only [] at he
        split at he
        · rename_i cells hb
          split at he
          · rename_i hle
            cases he
            simp only [Rep] at hrep; obtain ⟨b, hb', hc⟩ := hrep
            refine OpDone.same hK (hrun _ hc) ?_
            obtain ⟨b2, cells2, hb2, hH, C, e1, lo', up, hC, hcl, _⟩ := hK.blk id (hfoot id (by simp [idV]))
            rw [hb'] at hb2; cases hb2
            rw [blkAt_iff, hH] at hb; cases hb
            have hmul : l * sz + (n - l) * sz = n * sz := by rw [← Nat.add_mul]; congr 1; omega
            simp only [Rep]
            by_cases hnl : n = l
            · rw [if_pos hnl]
              exact ⟨b, off, n - l, hb', rfl, by omega, .inl (by omega), C, e1, _, hC, by omega⟩
            · rw [if_neg hnl]
              have hadd : (⟨b, off, none⟩ : Addr).add (l * sz) = ⟨b, off + l * sz, none⟩ := by unfold Addr.add; split <;> simp_all
              rw [hadd]
              exact ⟨b, off + l * sz, n - l, hb', rfl, by omega, .inr rfl, C, e1, _, hC, by omega⟩
          · cases he
        · cases he
      | box cs =>
        rw [hv] at he hrep
        simp only [] at he
        split at he
        · rename_i hle
          cases he
          simp only [Rep] at hrep; obtain ⟨ad, hc, hro, hcs⟩ := hrep
          refine OpDone.same hK (hrun _ hc) ?_
          simp only [Rep]
          by_cases hnl : n = l
          · rw [if_pos hnl]
            refine ⟨ad, n - l, rfl, by omega, .inl ?_, ?_⟩
            · rw [show h - l = 0 by omega]; simp
            · rw [show h - l = 0 by omega]; simp [RepC]
          · rw [if_neg hnl]
            refine ⟨_, n - l, rfl, by omega, ?_, (hcs.drop _).take _⟩
            exact hro.imp (by rintro rfl; simp) (by rw [add_block]; exact id)
        · cases he
      | _ => rw [hv] at he; simp at he
    · cases he
  · cases he

theorem snd_sliceSl {P : Program} {K : Cx} {H : Heap} {D : Nat → Prop} {S : List V} {a : Act} {o : Oper} {t e : TypeId} {x : Operand} {lo hi : Option Operand} {d : Od} {dl dh : Option Od} {sz : Nat} (ho : o.op = .slice t x lo hi none) (hd : cOd x = some d)
    (hl : cOpt lo = some dl) (hh : cOpt hi = some dh) (h1 : P.underlying t = some (.slice e)) (h2 : sizeC P e = some sz)
    (hK : HeapOK K H D) (hx : OnOd K S a x) (hxl : ∀ x, lo = some x → OnOd K S a x) (hxh : ∀ x, hi = some x → OnOd K S a x)
    {v : V} {H' : Heap} (he : evOp S H (.sliceSl sz d dl dh) = some (v, H')) : OpDone P K H D (execOp a.eval o) v H' := by
  have hrep := od_rep hd hx
  have hrun : ∀ (ao : Option Addr) (n cap l h : Nat), a.eval x = .slice ao n cap → (Instr.sliceBounds true n cap (lo.map a.eval) (hi.map a.eval) none).run P K.w = .ok (l, h, cap) K.w →
      (execOp a.eval o).run P K.w = .ok (.value (.slice (if cap = l then ao else ao.map (·.add (l * sz))) (h - l) (cap - l))) K.w := by
    intro ao n cap l h hc hbr
    unfold execOp; rw [ho]
    simp [Instr.sliceAt, Instr.slice, run_underlying h1, hc, hbr, info_size h2]
  simp only [evOp] at he
  split at he
  · rename_i hv
    split at he
    · rename_i h hbh
      split at he
      · rename_i l hbl
        cases he
        obtain ⟨hlh, hhn, hbr⟩ := bounds_run (P := P) true hl hh hxl hxh hbh hbl (Nat.le_refl 0) K.w
        rw [hv] at hrep
        have := hrun none 0 0 l h (rep_sc hrep) hbr
        have hh0 : h = 0 := by omega
        have hl0 : l = 0 := by omega
        subst hh0; subst hl0
        exact OpDone.same hK this (by simp [Rep])
      · cases he
    · cases he
  · rename_i n cs hv
    split at he
    · rename_i h hbh
      split at he
      · rename_i l hbl
        split at he
        · rename_i hlen
          cases he
          rw [hv] at hrep
          simp only [Rep] at hrep; obtain ⟨ad, cap, hc, hcap, hro, hcs⟩ := hrep
          obtain ⟨hlh, hhn, hbr⟩ := bounds_run (P := P) true hl hh hxl hxh hbh hbl hcap K.w
          refine OpDone.same hK (hrun _ _ _ _ _ hc hbr) ?_
          simp only [Rep]
          by_cases hnl : cap = l
          · rw [if_pos hnl]
            refine ⟨ad, cap - l, rfl, by omega, .inl ?_, ?_⟩
            · rw [show h - l = 0 by omega]; simp
            · rw [show h - l = 0 by omega]; simp [RepC]
          · rw [if_neg hnl]
            refine ⟨ad.add (l * sz), cap - l, rfl, by omega, ?_, (hcs.drop _).take _⟩
            exact hro.imp (by rintro rfl; simp) (by rw [add_block]; exact id)
        · cases he
      · cases he
    · cases he
  · rename_i id off n sz' hv
    split at he
    · rename_i h hbh
      split at he
      · rename_i l hbl
        split at he
        · rename_i hsz
          subst hsz
          cases he
          rw [hv] at hrep
          simp only [Rep] at hrep; obtain ⟨b, oo, cap, hb, hc, hcap, hoo, C, e1, fz, hC, hle⟩ := hrep
          obtain ⟨hlh, hhn, hbr⟩ := bounds_run (P := P) true hl hh hxl hxh hbh hbl hcap K.w
          refine OpDone.same hK (hrun _ _ _ _ _ hc hbr) ?_
          have hmul : l * sz' + (cap - l) * sz' = cap * sz' := by rw [← Nat.add_mul]; congr 1; omega
          simp only [Rep]
          by_cases hnl : cap = l
          · rw [if_pos hnl]
            exact ⟨b, oo, cap - l, hb, rfl, by omega, .inl (by omega), C, e1, fz, hC, by omega⟩
          · rw [if_neg hnl]
            have hoo' : oo = off := by rcases hoo with hoo | hoo; · omega
                                       · exact hoo
            subst hoo'
            have hadd : (⟨b, oo, none⟩ : Addr).add (l * sz') = ⟨b, oo + l * sz', none⟩ := by unfold Addr.add; split <;> simp_all
            simp only [Option.map_some, hadd]
            exact ⟨b, oo + l * sz', cap - l, hb, rfl, by omega, .inr rfl, C, e1, fz, hC, by omega⟩
        · cases he
      · cases he
    · cases he
  · cases he

theorem snd_sliceStr {P : Program} {K : Cx} {H : Heap} {D : Nat → Prop} {S : List V} {a : Act} {o : Oper} {t : TypeId} {x : Operand} {lo hi : Option Operand} {d : Od} {dl dh : Option Od} (ho : o.op = .slice t x lo hi none) (hd : cOd x = some d)
    (hl : cOpt lo = some dl) (hh : cOpt hi = some dh) (h1 : P.underlying t = some .string)
    (hK : HeapOK K H D) (hx : OnOd K S a x) (hxl : ∀ x, lo = some x → OnOd K S a x) (hxh : ∀ x, hi = some x → OnOd K S a x)
    {v : V} {H' : Heap} (he : evOp S H (.sliceStr d dl dh) = some (v, H')) : OpDone P K H D (execOp a.eval o) v H' := by
  have hrep := od_rep hd hx
  simp only [evOp] at he
  split at he
  · rename_i s hv
    split at he
    · rename_i h hbh
      split at he
      · rename_i l hbl
        cases he
        obtain ⟨hlh, hhn, hbr⟩ := bounds_run (P := P) false hl hh hxl hxh hbh hbl (Nat.le_refl s.size) K.w
        rw [hv] at hrep
        refine OpDone.same (c := .string (s.extract l h)) hK ?_ (by simp [Rep])
        unfold execOp; rw [ho]
        simp [Instr.sliceAt, Instr.slice, run_underlying h1, rep_sc hrep, hbr]
      · cases he
    · cases he
  · cases he

/-! ## append, copy -/

theorem repO_bytes {K : Cx} : ∀ (l : List UInt8), RepO K (l.map u8V) (l.map fun b => Value.int .u8 b.toNat)
  | [] => by simp [RepO]
  | b :: l => by
    simp only [List.map_cons, RepO, u8V, Rep]
    exact ⟨_, _, rfl, rfl, rfl, repO_bytes l⟩

/-- What is appended or copied: its cells, in whatever world that has the same memory. -/
theorem src_run {P : Program} {K : Cx} {H : Heap} {D : Nat → Prop} (hK : HeapOK K H D) {sz : Nat} {v : V} {m : Nat} {ys : List V} (h : srcCells H sz v = some (m, ys)) (hD : ∀ i ∈ idV v, D i) {c : Value} (hr : Rep K v c) (hsz : sz ≠ 0) :
    ys.length = m * sz ∧ ∃ news : List Value, RepO K ys news ∧ (∀ w, (Builtin.lenOf c).run P w = .ok m w) ∧
      ∀ (k : Nat) (w : World), k ≤ m → w.heap = K.w.heap → (Builtin.firstCells sz k c).run P w = .ok (news.take (k * sz)).toArray w := by
  unfold srcCells at h
  split at h
  · rename_i s
    split at h
    · rename_i hs1
      subst hs1
      cases h
      have hc := rep_sc hr
      refine ⟨by simp, _, repO_bytes s.data.toList, fun w => by simp [hc, Builtin.lenOf], fun k w hk _ => ?_⟩
      simp only [hc, Builtin.firstCells, Sem.run_pure, Nat.mul_one]
      congr 1
      apply Array.ext'
      simp only [Array.toList_map]
      rw [← List.map_take]
      congr 1
      simp [ByteArray.extract, ByteArray.copySlice]
    · cases h
  · obtain ⟨hlen, ao, cap, hc, hnil, hcap, hcells⟩ := slCells_run (P := P) hK h hD hr hsz
    cases ao with
    | none =>
      obtain ⟨rfl, rfl⟩ := hnil rfl
      have : ys = [] := List.eq_nil_of_length_eq_zero (by simpa using hlen)
      subst this
      refine ⟨hlen, [], by simp [RepO], fun w => by simp [hc, Builtin.lenOf], fun k w hk _ => ?_⟩
      have : k = 0 := by omega
      subst this
      simp [hc, Builtin.firstCells]
    | some ad =>
      obtain ⟨news, hnews, hcell⟩ := repC_cells (hcells ad rfl)
      refine ⟨hlen, news, hnews, fun w => by simp [hc, Builtin.lenOf], fun k w hk hw => ?_⟩
      have hl := RepL.length (RepO.iff.1 hnews).1
      have hle : k * sz ≤ m * sz := Nat.mul_le_mul_right _ hk
      have hrun := run_loadCells_list (P := P) w ad (news.take (k * sz)) (fun j u hu => by
        rw [List.getElem?_take] at hu
        split at hu
        · exact (cell_block (by rw [hw])).trans (hcell j u hu)
        · cases hu)
      have hlt : (news.take (k * sz)).length = k * sz := by simp; omega
      rw [hlt] at hrun
      simp only [hc, Builtin.firstCells, hrun]

theorem Dn_kill {D : Nat → Prop} {H : Heap} {id : Nat} {o : Option (List V)} {i : Nat} (h : Dn D H (H.set id none ++ [o]) i) : (D i ∧ i ≠ id ∧ i < H.length) ∨ i = H.length ∨ (H.length ≤ i ∧ D i) := by
  obtain ⟨h1, h2⟩ := h
  have hlt := h2.lt
  simp only [List.length_append, List.length_set, List.length_cons, List.length_nil] at hlt
  by_cases hi : i < H.length
  · left
    refine ⟨by rcases h1 with h1 | h1; · exact h1
               · omega, fun hid => ?_, hi⟩
    subst hid
    obtain ⟨c, hc⟩ := h2
    rw [List.getElem?_append_left (by simpa using hi), List.getElem?_set_self hi] at hc
    cases hc
  · right; left; omega

theorem HeapOK.kill {K : Cx} {H : Heap} {D D' : Nat → Prop} {id : Nat} (h : HeapOK K H D) (hs : ∀ i, D' i → D i ∧ i ≠ id) : HeapOK K (H.set id none) D' := by
  refine ⟨fun i j c hi hj => h.inj i j c (hs i hi).1 (hs j hj).1, fun i hi => ?_, fun i b hi => h.own i b (hs i hi).1, h.low⟩
  obtain ⟨b, cells, hb, hH, hok⟩ := h.blk i (hs i hi).1
  exact ⟨b, cells, hb, by rw [List.getElem?_set_ne (Ne.symm (hs i hi).2)]; exact hH, hok⟩

theorem HeapOK.mono {K : Cx} {H : Heap} {D D' : Nat → Prop} (h : HeapOK K H D) (hs : ∀ i, D' i → D i) : HeapOK K H D' :=
  ⟨fun i j c hi hj => h.inj i j c (hs i hi) (hs j hj), fun i hi => h.blk i (hs i hi), fun i b hi => h.own i b (hs i hi), h.low⟩

/-- Behind an append that found room: the old block, under a new number. -/
theorem inplace_sound {K : Cx} {H : Heap} {D : Nat → Prop} (h : HeapOK K H D) (hfresh : K.β H.length = none) {id b : Nat} (hD : D id) (hb : K.β id = some b) {w' : World} {C C' : Array Value} {e : TypeId} {fz : Nat × Nat} {lo up : Nat}
    (hC : K.w.heap[b]? = some (.cells C e fz)) (hw : Wrote K.w w' b C' e (lo, up)) (hsz : C'.size = C.size) {cells : List V}
    (hlen : cells.length ≤ C'.size) (hfz : lo = up ∨ C'.size ≤ lo) (h1 : ∀ (i : Nat) (c : Value), C'[i]? = some c → c.oneCell' = true)
    (hc : ∀ (i : Nat) (v : V), cells[i]? = some v → ∃ c : Value, C'[i]? = some c ∧ Rep K v c) :
    ∃ K', K'.w = w' ∧ HeapOK K' (H.set id none ++ [some cells]) (Dn D H (H.set id none ++ [some cells])) ∧ Step K H D K' (H.set id none ++ [some cells]) (Dn D H (H.set id none ++ [some cells])) ∧ K'.β H.length = some b := by
  let K' : Cx := { w := w', β := fun i => if i = H.length then some b else K.β i, N := K.N, B := K.B, R := K.R }
  have hβ : ∀ i, i ≠ H.length → K'.β i = K.β i := fun i hi => if_neg hi
  have hDlt : ∀ i, D i → i < H.length := fun i hi => (h.live hi).lt
  have hDn : ∀ i, Dn D H (H.set id none ++ [some cells]) i → (D i ∧ i ≠ id ∧ i ≠ H.length) ∨ i = H.length := fun i hi => by
    rcases Dn_kill hi with h1 | h1 | h1
    · exact .inl ⟨h1.1, h1.2.1, by omega⟩
    · exact .inr h1
    · have := hDlt i h1.2; omega
  have hstep : Step K H D K' (H.set id none ++ [some cells]) (Dn D H (H.set id none ++ [some cells])) := by
    refine ⟨rfl, rfl, hw.os, hw.tape, hw.output, by show K.w.heap.size ≤ w'.heap.size; rw [hw.size]; exact Nat.le_refl _, by simp, ?_, ?_, fun b hb => .inl hb, fun b hb _ _ => hb, ?_, ?_, ?_⟩
    · intro i b0 hb0
      by_cases hi : i = H.length
      · subst hi; rw [hfresh] at hb0; cases hb0
      · rw [hβ i hi]; exact hb0
    · intro i b0 hb0
      by_cases hi : i = H.length
      · subst hi
        have : (some b : Option Nat) = some b0 := by rw [← hb0]; exact (if_pos rfl).symm
        cases this
        exact .inr ⟨hfresh, Nat.le_refl _, by simp, .inr ⟨id, hD, hb⟩⟩
      · rw [hβ i hi] at hb0; exact .inl hb0
    · intro i hi
      rcases hDn i hi with hd | hd
      · exact .inl hd.1
      · subst hd; exact .inr ⟨hfresh, Nat.le_refl _, by simp⟩
    · intro k hk hno
      exact hw.other k fun hkb => hno ⟨id, hD, by rw [hkb]; exact hb⟩
    · intro k C0 e0 fz0 hC0
      by_cases hkb : k = b
      · subst hkb
        rw [hC] at hC0; cases hC0
        exact ⟨C', _, hw.here, hsz⟩
      · exact ⟨C0, fz0, by show w'.heap[k]? = _; rw [hw.other k hkb]; exact hC0, rfl⟩
  have hpres : Pres K K' := hstep.pres h
  have hnewβ : K'.β H.length = some b := if_pos rfl
  refine ⟨K', rfl, ⟨?_, ?_, ?_, ?_⟩, hstep, hnewβ⟩
  · intro i j c hi hj hbi hbj
    rcases hDn i hi with ⟨h1, h2, h3⟩ | h1 <;> rcases hDn j hj with ⟨h4, h5, h6⟩ | h4
    · rw [hβ i h3] at hbi; rw [hβ j h6] at hbj; exact h.inj i j c h1 h4 hbi hbj
    · subst h4; rw [hβ i h3] at hbi; rw [hnewβ] at hbj; cases hbj
      exact absurd (h.inj i id _ h1 hD hbi hb) h2
    · subst h1; rw [hβ j h6] at hbj; rw [hnewβ] at hbi; cases hbi
      exact absurd (h.inj j id _ h4 hD hbj hb) h5
    · omega
  · intro i hi
    rcases hDn i hi with ⟨h1, h2, h3⟩ | h1
    · obtain ⟨b0, cs0, hb0, hH, hok⟩ := h.blk i h1
      refine ⟨b0, cs0, by rw [hβ i h3]; exact hb0, ?_, hok.pres hpres (hw.other b0 fun hbb => ?_)⟩
      · rw [List.getElem?_append_left (by simpa using hDlt i h1), List.getElem?_set_ne (Ne.symm h2)]; exact hH
      · subst hbb; exact h2 (h.inj i id b0 h1 hD hb0 hb)
    · subst h1
      refine ⟨b, cells, hnewβ, by rw [List.getElem?_append_right (by simp)]; simp, C', e, lo, up, hw.here, hlen, hfz, h1, fun i v hv => ?_⟩
      obtain ⟨c, hcc, hr⟩ := hc i v hv
      exact ⟨c, hcc, Rep.pres hpres v c hr⟩
  · intro i c hi hbi
    rcases hDn i hi with ⟨h1, h2, h3⟩ | h1
    · rw [hβ i h3] at hbi; exact h.own i c h1 hbi
    · subst h1; rw [hnewβ] at hbi; cases hbi; exact h.own id b hD hb
  · show K.B ≤ w'.heap.size
    rw [hw.size]; exact h.low

theorem zeros_size (z : Array Value) (n : Nat) : (Builtin.zeroCells z n).size = n * z.size := by simp [Builtin.zeroCells]

theorem zeros_one {z : Array Value} (hone : z.toList.all (·.oneCell') = true) (hpos : 0 < z.size) (n : Nat) (c : Value) (hc : c ∈ Builtin.zeroCells z n) : c.oneCell' = true := by
  unfold Builtin.zeroCells at hc
  obtain ⟨i, _, rfl⟩ := Array.mem_map.1 hc
  have hm : i % z.size < z.size := Nat.mod_lt _ hpos
  rw [getElem!_pos z _ hm]
  exact List.all_eq_true.1 hone _ (by simp)

theorem take_full {l : List Value} {n : Nat} (h : l.length = n) : l.take n = l := by rw [← h, List.take_length]

/-- The run of an append that finds no room. -/
theorem run_append_grow_va {P : Program} {t t' ty e : TypeId} {i : TypeInfo} {z : Value} (h1 : P.underlying t = some (.slice e)) (hu' : (∃ e', P.underlying t' = some (.slice e')) ∨ P.underlying t' = some .string) (hi : P.info? e = some i) (hz : i.zero = some z)
    {ao : Option Addr} {n cap m : Nat} {xv yv : Value} (hx : xv = .slice ao n cap) {w : World} (olds news : List Value) (hln : (Builtin.lenOf yv).run P w = .ok m w)
    (hlt : cap < n + m) (hb : (n + m) * i.bytes ≤ 140737488355328) (hm : n + m ≤ 140737488355328)
    (hold : ∀ w', w'.heap = w.heap → (Builtin.firstCells i.size n xv).run P w' = .ok olds.toArray w') (hnew : ∀ w', w'.heap = w.heap → (Builtin.firstCells i.size m yv).run P w' = .ok news.toArray w') :
    ∃ newCap, n + m ≤ newCap ∧ (Builtin.append_ #[t, t'] ty #[xv, yv]).run P w =
      .ok (.slice (some ⟨w.heap.size, 0, none⟩) (n + m) newCap) (w.drew.alloc (.cells (olds.toArray ++ (news.toArray ++ Builtin.zeroCells z.cells (newCap - (n + m)))) e)) := by
  have hfit := growslice_fits (need := n + m) (old := cap) (bytes := i.bytes) hlt hb
  have h48 : ¬ (281474976710656 < Builtin.nextslicecap (n + m) cap * i.bytes) := by omega
  have h63 : ¬ (9223372036854775807 < ((n : Int) + (m : Int))) := by omega
  have hr : ¬ (n + m ≤ cap) := by omega
  refine ⟨(Question.appendCap (n + m) cap e).cut (w.tape w.drawn (.appendCap (n + m) cap e)), by simp [Question.cut], ?_⟩
  have hold' := hold w.drew rfl
  have hnew' := hnew w.drew rfl
  subst hx
  rcases hu' with ⟨e', hd'⟩ | hd'
  all_goals simp [Builtin.append_, run_underlying h1, run_underlying hd', sizeOf, typeInfo, hi, zeroValue, hz, hln, hr, h63, h48, Question.forced, hold', hnew', newRow]

theorem run_append_room_va {P : Program} {t t' ty e : TypeId} {i : TypeInfo} (h1 : P.underlying t = some (.slice e)) (hu' : (∃ e', P.underlying t' = some (.slice e')) ∨ P.underlying t' = some .string) (hi : P.info? e = some i)
    {ad : Addr} {n cap m : Nat} {xv yv : Value} (hx : xv = .slice (some ad) n cap) {w w' : World} (news : List Value) (hln : (Builtin.lenOf yv).run P w = .ok m w)
    (hle : n + m ≤ cap) (hnew : (Builtin.firstCells i.size m yv).run P w = .ok news.toArray w) (hst : (storeCells (ad.add (n * i.size)) news).run P w = .ok () w') :
    (Builtin.append_ #[t, t'] ty #[xv, yv]).run P w = .ok (.slice (some ad) (n + m) cap) w' := by
  subst hx
  rcases hu' with ⟨e', hd'⟩ | hd'
  all_goals simp [Builtin.append_, run_underlying h1, run_underlying hd', sizeOf, typeInfo, hi, hln, hle, hnew, hst]

theorem run_append_none_va {P : Program} {t t' ty e : TypeId} {i : TypeInfo} (h1 : P.underlying t = some (.slice e)) (hu' : (∃ e', P.underlying t' = some (.slice e')) ∨ P.underlying t' = some .string) (hi : P.info? e = some i)
    {xv yv : Value} (hx : xv = .slice none 0 0) {w : World} (news : List Value) (hln : (Builtin.lenOf yv).run P w = .ok 0 w)
    (hnew : (Builtin.firstCells i.size 0 yv).run P w = .ok news.toArray w) :
    (Builtin.append_ #[t, t'] ty #[xv, yv]).run P w = .ok (.slice none 0 0) w := by
  subst hx
  rcases hu' with ⟨e', hd'⟩ | hd'
  all_goals simp [Builtin.append_, run_underlying h1, run_underlying hd', sizeOf, typeInfo, hi, hln, hnew]

theorem repO_append {K : Cx} {xs ys : List V} {a b : List Value} (h1 : RepO K xs a) (h2 : RepO K ys b) : RepO K (xs ++ ys) (a ++ b) := by
  induction xs generalizing a with
  | nil => simp only [RepO] at h1; subst h1; simpa using h2
  | cons x xs ih =>
    simp only [RepO] at h1; obtain ⟨c, l', rfl, h3, h4, h5⟩ := h1
    simp only [List.cons_append, RepO]
    exact ⟨c, _, rfl, h3, h4, ih h5⟩

theorem repO_take {K : Cx} {xs : List V} {a : List Value} (h : RepO K xs a) (n : Nat) : RepO K (xs.take n) (a.take n) := by
  induction xs generalizing a n with
  | nil => simp only [RepO] at h; subst h; simp [RepO]
  | cons x xs ih =>
    simp only [RepO] at h; obtain ⟨c, l', rfl, h3, h4, h5⟩ := h
    cases n with
    | zero => simp [RepO]
    | succ n => simp only [List.take_succ_cons, RepO]; exact ⟨c, _, rfl, h3, h4, ih h5 n⟩

theorem exec_append {P : Program} {a : Act} {o : Oper} {args : Array Operand} {tys : Array TypeId} {x y : Operand} {t t' : TypeId} (ho : o.op = .call { callee := .builtin .append, args, argTypes := tys })
    (ha : args = #[x, y]) (ht0 : tys[0]? = some t) (ht1 : tys[1]? = some t') {c : Value} {w w' : World}
    (h : (Builtin.append_ #[t, t'] o.type #[a.eval x, a.eval y]).run P w = .ok c w') : (execOp a.eval o).run P w = .ok (.value c) w' := by
  have e : ∀ tys : Array TypeId, tys[0]? = some t → tys[1]? = some t' → Builtin.append_ tys o.type #[a.eval x, a.eval y] = Builtin.append_ #[t, t'] o.type #[a.eval x, a.eval y] := by
    intro tys h0 h1
    simp only [Builtin.append_, h0, h1]
    rfl
  unfold execOp; rw [ho]
  subst ha
  simp only [Sem.run_bind, resolve_builtin, Sem.run_pure, Result.andThen_ok, invoke, builtin, Array.map]
  simp [e tys ht0 ht1, h]

theorem snd_append {P : Program} {K : Cx} {H : Heap} {D : Nat → Prop} {S : List V} {a : Act} {o : Oper} {args : Array Operand} {tys : Array TypeId} {t t' e : TypeId} {x y : Operand} {dx dy : Od} {i : TypeInfo} {zs : List Value}
    (ho : o.op = .call { callee := .builtin .append, args, argTypes := tys }) (ha : args = #[x, y]) (ht0 : tys[0]? = some t) (ht1 : tys[1]? = some t') (hdx : cOd x = some dx) (hdy : cOd y = some dy)
    (h1 : P.underlying t = some (.slice e)) (hu' : (∃ e', P.underlying t' = some (.slice e')) ∨ P.underlying t' = some .string) (hi : P.info? e = some i) (hz : zeroC P e = some zs) (hsz : i.size ≠ 0)
    (hK : HeapOK K H D) (hx : OnOd K S a x) (hy : OnOd K S a y) (hfoot : ∀ j ∈ footOp S (.append i.size i.bytes dx dy), D j)
    {v : V} {H' : Heap} (hfresh : H.length < H'.length → K.β H.length = none) (he : evOp S H (.append i.size i.bytes dx dy) = some (v, H')) : OpDone P K H D (execOp a.eval o) v H' := by
  have hrx := od_rep hdx hx
  have hry := od_rep hdy hy
  obtain ⟨i', z, hi', hzz, rfl, hs, hone⟩ := zeroC_spec hz
  rw [hi] at hi'; cases hi'
  simp only [footOp, List.mem_append] at hfoot
  simp only [evOp] at he
  split at he
  · rename_i m ys hsrc
    obtain ⟨hylen, news, hnews, hln, hfc⟩ := src_run (P := P) hK hsrc (fun j hj => hfoot j (.inr hj)) hry hsz
    have hnl := RepL.length (RepO.iff.1 hnews).1
    have hnewrun : ∀ w', w'.heap = K.w.heap → (Builtin.firstCells i.size m (a.eval y)).run P w' = .ok news.toArray w' := fun w' hw' => by
      rw [hfc m w' (Nat.le_refl _) hw', take_full (by omega)]
    split at he
    · rename_i hv
      rw [hv] at hrx
      have hxv := rep_sc hrx
      split at he
      · rename_i hm0
        subst hm0
        cases he
        refine OpDone.same (c := .slice none 0 0) hK (exec_append ho ha ht0 ht1 (run_append_none_va h1 hu' hi hxv news (hln _) (hnewrun _ rfl))) (by simp [Rep])
      · rename_i hm0
        split at he
        · rename_i hb
          cases he
          have hfresh := hfresh (by simp)
          obtain ⟨newCap, hcap, hrun⟩ := run_append_grow_va (P := P) (ty := o.type) h1 hu' hi hzz (n := 0) (cap := 0) (m := m) hxv [] news (hln K.w) (by omega) (by rw [Nat.zero_add]; exact hb.1) (by omega)
            (fun w' _ => by rw [hxv]; rfl) hnewrun
          simp only [Nat.zero_add] at hrun hcap
          have hcells : RepO K ys news := hnews
          refine OpDone.alloc (cells := ys) hK hfresh (exec_append ho ha ht0 ht1 hrun) rfl rfl rfl rfl ?_ (.inl rfl) ?_ ?_ ?_
          · simp; omega
          · intro j c hc
            rcases Array.mem_append.1 (Array.mem_of_getElem? hc) with hm | hm
            · simp at hm
            · rcases Array.mem_append.1 hm with hm | hm
              · simp at hm; exact (RepO.iff.1 hnews).2 c hm
              · exact zeros_one hone (by omega) _ c hm
          · intro j u hu
            obtain ⟨c, hc, hr⟩ := (RepO.iff.1 hnews).1.get j u hu
            refine ⟨c, ?_, hr⟩
            have hlt := (List.getElem?_eq_some_iff.1 hc).1
            rw [← Array.append_assoc, Array.getElem?_append_left (by simpa using hlt)]
            simpa using hc
          · intro K' _ hb' hh
            simp only [Rep]
            refine ⟨_, _, _, hb', rfl, hcap, .inr rfl, _, _, _, hh, ?_⟩
            simp only [Array.size_append, List.size_toArray, List.length_nil, zeros_size, hs, Nat.zero_add]
            rw [hnl, hylen, ← Nat.add_mul]
            exact Nat.mul_le_mul_right _ (by omega)
        · cases he
    · rename_i id off n sz' hv
      rw [hv] at hrx
      split at he
      · rename_i cells hblk
        split at he
        · rename_i hcond
          obtain ⟨rfl, rfl, hnc, hb, hm⟩ := hcond
          cases he
          have hfresh := hfresh (by simp)
          simp only [Rep] at hrx
          obtain ⟨b, oo, cap, hbβ, hxv, hncap, hoo, C0, e0, fz0, hC0, hcapsz⟩ := hrx
          have hD := hfoot id (.inl (by rw [hv]; simp [idV]))
          obtain ⟨b2, cells2, hb2, hH, C, e1, lo, up, hC, hcl, hfz, h1c, hcc⟩ := hK.blk id hD
          rw [hbβ] at hb2; cases hb2
          rw [blkAt_iff, hH] at hblk; cases hblk
          have hblkok : BlkOK K b cells := ⟨C, e1, lo, up, hC, hcl, hfz, h1c, hcc⟩
          have hcapsz : cap * i.size ≤ C.size := by
            rw [hC] at hC0; cases hC0
            simpa using hcapsz
          by_cases hroom : n + m ≤ cap
          · -- in place
            have hmulle : (n + m) * i.size ≤ cap * i.size := Nat.mul_le_mul_right _ hroom
            rw [Nat.add_mul] at hmulle
            have hoff : (n = 0 ∧ m = 0) ∨ oo = 0 := by
              rcases hoo with hoo | hoo
              · left; omega
              · exact .inr hoo
            have hst : ∃ w' C', (storeCells ((⟨b, oo, none⟩ : Addr).add (n * i.size)) news).run P K.w = .ok () w' ∧ Wrote K.w w' b C' e1 (lo, up) ∧ C'.size = C.size ∧
                (∀ k, k < n * i.size → C'[k]? = C[k]?) ∧ (∀ (j : Nat) (u : Value), news[j]? = some u → C'[n * i.size + j]? = some u) ∧ (∀ (j : Nat) (c : Value), C'[j]? = some c → c.oneCell' = true) := by
              rcases hoff with ⟨rfl, rfl⟩ | rfl
              · have : news = [] := List.eq_nil_of_length_eq_zero (by omega)
                subst this
                exact ⟨K.w, C, rfl, ⟨rfl, rfl, rfl, rfl, fun _ _ => rfl, hC⟩, rfl, fun _ _ => rfl, fun j u hu => by simp at hu, h1c⟩
              · have hadd : (⟨b, 0, none⟩ : Addr).add (n * i.size) = ⟨b, n * i.size, none⟩ := by unfold Addr.add; split <;> simp_all
                rw [hadd]
                obtain ⟨w', C', hr, hwr, hsz', hout, hin⟩ := run_storeCells_va P b (n * i.size) e1 lo up news 0 C K.w hC hfz (by omega) (RepO.iff.1 hnews).2
                refine ⟨w', C', hr, hwr, hsz', fun k hk => hout k (.inl (by omega)), fun j u hu => by have := hin j u hu; rwa [Nat.add_zero] at this, fun j c hc => ?_⟩
                by_cases hj : j < n * i.size + 0 ∨ n * i.size + 0 + news.length ≤ j
                · rw [hout j hj] at hc; exact h1c j c hc
                · have hjl : j - n * i.size < news.length := by omega
                  have := hin (j - n * i.size) _ (List.getElem?_eq_getElem hjl)
                  rw [show n * i.size + 0 + (j - n * i.size) = j by omega, hc] at this
                  cases this
                  exact (RepO.iff.1 hnews).2 _ (List.getElem_mem hjl)
            obtain ⟨w', C', hr, hwr, hsz', hout, hin, h1c'⟩ := hst
            have hlen : (cells.take (n * i.size) ++ ys).length ≤ C'.size := by
              rw [List.length_append, List.length_take, hylen]; omega
            have hcont : ∀ (j : Nat) (u : V), (cells.take (n * i.size) ++ ys)[j]? = some u → ∃ c : Value, C'[j]? = some c ∧ Rep K u c := by
              intro j u hu
              have hmin : min (n * i.size) cells.length = n * i.size := by omega
              by_cases hj : j < n * i.size
              · rw [List.getElem?_append_left (by simp; omega), List.getElem?_take_of_lt hj] at hu
                obtain ⟨c, hc1, hc2⟩ := hcc j u hu
                exact ⟨c, by rw [hout j hj]; exact hc1, hc2⟩
              · rw [List.getElem?_append_right (by simp; omega), List.length_take, hmin] at hu
                obtain ⟨c, hc1, hc2⟩ := (RepO.iff.1 hnews).1.get _ u hu
                have := hin _ c hc1
                rw [show n * i.size + (j - n * i.size) = j by omega] at this
                exact ⟨c, this, hc2⟩
            obtain ⟨K', hK'w, hOK, hst', hβ'⟩ := inplace_sound hK hfresh hD hbβ hC hwr hsz' hlen (by rw [hsz']; exact hfz) h1c' hcont
            refine ⟨_, .slice (some ⟨b, oo, none⟩) (n + m) cap, K', ?_, .inl rfl, hOK, hst', ?_⟩
            · rw [hK'w]
              exact exec_append ho ha ht0 ht1 (run_append_room_va h1 hu' hi hxv news (hln _) hroom (hnewrun _ rfl) hr)
            · simp only [Rep]
              exact ⟨b, oo, cap, hβ', rfl, hroom, hoo, C', e1, _, by rw [hK'w]; exact hwr.here, by rw [hsz']; omega⟩
          · -- a new row
            have hcellsrc : slCells H i.size (.sref id 0 n i.size) = some (n, (cells.drop 0).take (n * i.size)) := by
              simp only [slCells]
              rw [blkAt_iff.2 hH]
              simp [hnc]
            obtain ⟨_, olds, holds, _, hofc⟩ := src_run (P := P) (v := .sref id 0 n i.size) (m := n) (ys := (cells.drop 0).take (n * i.size)) (c := a.eval x) hK (by simp only [srcCells]; exact hcellsrc)
              (fun j hj => by simp only [idV, List.mem_singleton] at hj; subst hj; exact hD) (by simp only [Rep]; exact ⟨b, oo, cap, hbβ, hxv, hncap, hoo, C, e1, _, hC, by omega⟩) hsz
            have holen := RepL.length (RepO.iff.1 holds).1
            have holen' : olds.length = n * i.size := by rw [holen]; simp; omega
            obtain ⟨newCap, hcap, hrun⟩ := run_append_grow_va (P := P) (ty := o.type) h1 hu' hi hzz hxv olds news (hln K.w) (by omega) hb (by omega)
              (fun w' hw' => by rw [hofc n w' (Nat.le_refl _) hw', take_full holen']) hnewrun
            have hboth : RepO K (cells.take (n * i.size) ++ ys) (olds ++ news) := repO_append (by simpa using holds) hnews
            have hC' : ∀ (j : Nat) (c : Value), (olds.toArray ++ (news.toArray ++ Builtin.zeroCells z.cells (newCap - (n + m))))[j]? = some c → c.oneCell' = true := by
              intro j c hc
              rcases Array.mem_append.1 (Array.mem_of_getElem? hc) with hm' | hm'
              · exact (RepO.iff.1 holds).2 c (by simpa using hm')
              · rcases Array.mem_append.1 hm' with hm' | hm'
                · exact (RepO.iff.1 hnews).2 c (by simpa using hm')
                · exact zeros_one hone (by omega) _ c hm'
            have hcont : ∀ (j : Nat) (u : V), (cells.take (n * i.size) ++ ys)[j]? = some u → ∃ c : Value, (olds.toArray ++ (news.toArray ++ Builtin.zeroCells z.cells (newCap - (n + m))))[j]? = some c ∧ Rep K u c := by
              intro j u hu
              obtain ⟨c, hc, hr⟩ := (RepO.iff.1 hboth).1.get j u hu
              refine ⟨c, ?_, hr⟩
              have hlt := (List.getElem?_eq_some_iff.1 hc).1
              rw [← Array.append_assoc, Array.getElem?_append_left (by simpa using hlt)]
              simpa using hc
            have hszn : (olds.toArray ++ (news.toArray ++ Builtin.zeroCells z.cells (newCap - (n + m)))).size = newCap * i.size := by
              simp only [Array.size_append, List.size_toArray, zeros_size, hs]
              rw [holen', hnl, hylen, ← Nat.add_mul, ← Nat.add_mul]
              congr 1; omega
            have hmulle : (n + m) * i.size ≤ newCap * i.size := Nat.mul_le_mul_right _ hcap
            rw [Nat.add_mul] at hmulle
            obtain ⟨K', hK'w, hOK, hst', hβ', hh⟩ := alloc_sound (w' := K.w.drew.alloc (.cells (olds.toArray ++ (news.toArray ++ Builtin.zeroCells z.cells (newCap - (n + m)))) e))
              (lo := 0) (up := 0) (e := e) (cells := cells.take (n * i.size) ++ ys) hK hfresh rfl rfl rfl rfl (by rw [hszn, List.length_append, List.length_take, hylen]; omega) (.inl rfl) hC' hcont
            have hset : (H ++ [some (cells.take (n * i.size) ++ ys)]).set id none = H.set id none ++ [some (cells.take (n * i.size) ++ ys)] := by
              rw [List.set_append_left _ _ (hK.live hD).lt]
            have hsub : ∀ j, Dn D H (H.set id none ++ [some (cells.take (n * i.size) ++ ys)]) j → Dn D H (H ++ [some (cells.take (n * i.size) ++ ys)]) j ∧ j ≠ id := by
              intro j hj
              rcases Dn_kill hj with ⟨h1, h2, h3⟩ | h1 | h1
              · exact ⟨⟨.inl h1, by obtain ⟨c, hc⟩ := hK.live h1; exact ⟨c, by rw [List.getElem?_append_left h3]; exact hc⟩⟩, h2⟩
              · subst h1
                exact ⟨⟨.inr (Nat.le_refl _), _, by rw [List.getElem?_append_right (Nat.le_refl _)]; simp; rfl⟩, by have := (hK.live hD).lt; omega⟩
              · have := (hK.live h1.2).lt; omega
            have hOK' := hOK.kill hsub
            rw [hset] at hOK'
            have hst2 : Step K H D K' (H.set id none ++ [some (cells.take (n * i.size) ++ ys)]) (Dn D H (H.set id none ++ [some (cells.take (n * i.size) ++ ys)])) :=
              ⟨hst'.B, hst'.R, hst'.os, hst'.tape, hst'.output, hst'.size, by simp, hst'.ext, by simpa using hst'.new, hst'.nn, hst'.nk, fun j hj => by simpa using hst'.dd j (hsub j hj).1, hst'.frame, hst'.shape⟩
            refine ⟨_, .slice (some ⟨K.w.heap.size, 0, none⟩) (n + m) newCap, K', ?_, .inl rfl, hOK', hst2, ?_⟩
            · rw [hK'w]
              exact exec_append ho ha ht0 ht1 hrun
            · simp only [Rep]
              exact ⟨_, _, _, hβ', rfl, hcap, .inr rfl, _, _, _, hh, by rw [hszn]; omega⟩
        · cases he
      · cases he
    · cases he
  · cases he

end Go.Proofs.Ytlahigboaeadmaa.VA
