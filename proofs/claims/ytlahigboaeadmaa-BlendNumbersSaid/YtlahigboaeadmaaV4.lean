/- The memory part of the soundness of 'VA': new blocks, stores, loads. -/
import Derived.Test.YtlahigboaeadmaaV3
set_option linter.unusedVariables false
set_option linter.unusedSimpArgs false
namespace Go.Proofs.Ytlahigboaeadmaa.VA
open Go

def Dn (D : Nat → Prop) (H H' : Heap) : Nat → Prop := fun i => (D i ∨ H.length ≤ i) ∧ LiveId H' i

theorem HeapOK.live {K : Cx} {H : Heap} {D : Nat → Prop} (h : HeapOK K H D) {i : Nat} (hi : D i) : LiveId H i := by
  obtain ⟨b, cells, _, hc, _⟩ := h.blk i hi
  exact ⟨cells, hc⟩

theorem LiveId.lt {H : Heap} {i : Nat} (h : LiveId H i) : i < H.length := by
  obtain ⟨c, hc⟩ := h
  exact (List.getElem?_eq_some_iff.1 hc).1

theorem HeapOK.def {K : Cx} {H : Heap} {D : Nat → Prop} (h : HeapOK K H D) : ∀ i, D i → ∃ b, K.β i = some b := fun i hi => by
  obtain ⟨b, _, hb, _⟩ := h.blk i hi
  exact ⟨b, hb⟩

theorem Dn_self {K : Cx} {H : Heap} {D : Nat → Prop} (h : HeapOK K H D) (i : Nat) : Dn D H H i ↔ D i := by
  constructor
  · rintro ⟨h1 | h1, h2⟩
    · exact h1
    · have := h2.lt; omega
  · exact fun hi => ⟨.inl hi, h.live hi⟩

theorem Dn_refl {K : Cx} {H : Heap} {D : Nat → Prop} (h : HeapOK K H D) : Dn D H H = D := funext fun i => propext (Dn_self h i)

theorem blkAt_iff {H : Heap} {id : Nat} {cells : List V} : blkAt H id = some cells ↔ H[id]? = some (some cells) := by
  unfold blkAt
  rw [List.getD_eq_getElem?_getD]
  cases h : H[id]? with
  | none => simp
  | some o => simp

theorem RepC.of_blk {K : Cx} {b : Nat} {cells : List V} (h : BlkOK K b cells) : RepC K cells ⟨b, 0, none⟩ 0 := by
  obtain ⟨C, e, lo, hi, hC, _, _, h1, hc⟩ := h
  refine RepC.mk fun j v hv => ?_
  obtain ⟨c, hcj, hr⟩ := hc j v hv
  refine ⟨c, ?_, h1 j c hcj, hr⟩
  have : (⟨b, 0, none⟩ : Addr).add (0 + j) = ⟨b, j, none⟩ := by unfold Addr.add; split <;> simp_all
  rw [this]
  simp [World.cell?, hC, hcj]

theorem BlkOK.pres {K K' : Cx} {b : Nat} {cells : List V} (h : BlkOK K b cells) (hp : Pres K K') (hb : K'.w.heap[b]? = K.w.heap[b]?) : BlkOK K' b cells := by
  obtain ⟨C, e, lo, hi, hC, h2, h3, h1, hc⟩ := h
  refine ⟨C, e, lo, hi, by rw [hb]; exact hC, h2, h3, h1, fun i v hv => ?_⟩
  obtain ⟨c, hcj, hr⟩ := hc i v hv
  exact ⟨c, hcj, Rep.pres hp v c hr⟩

/-- What an operation that only looks at memory leaves. -/
theorem same_sound {K : Cx} {H : Heap} {D : Nat → Prop} (h : HeapOK K H D) : HeapOK K H (Dn D H H) ∧ Step K H D K H (Dn D H H) := by
  rw [Dn_refl h]
  exact ⟨h, Step.refl K H D⟩

/-- A new block. -/
theorem alloc_sound {K : Cx} {H : Heap} {D : Nat → Prop} (h : HeapOK K H D) (hfresh : K.β H.length = none) {w' : World} {C : Array Value} {e : TypeId} {lo up : Nat}
    (hw : w'.heap = K.w.heap.push (.cells C e (lo, up))) (hos : w'.os = K.w.os) (ht : w'.tape = K.w.tape) (hout : w'.output = K.w.output) {cells : List V}
    (hlen : cells.length ≤ C.size) (hfz : lo = up ∨ C.size ≤ lo) (h1 : ∀ (i : Nat) (c : Value), C[i]? = some c → c.oneCell' = true)
    (hc : ∀ (i : Nat) (v : V), cells[i]? = some v → ∃ c : Value, C[i]? = some c ∧ Rep K v c) :
    ∃ K', K'.w = w' ∧ HeapOK K' (H ++ [some cells]) (Dn D H (H ++ [some cells])) ∧ Step K H D K' (H ++ [some cells]) (Dn D H (H ++ [some cells])) ∧
      K'.β H.length = some K.w.heap.size ∧ K'.w.heap[K.w.heap.size]? = some (.cells C e (lo, up)) := by
  let K' : Cx := { w := w', β := fun i => if i = H.length then some K.w.heap.size else K.β i, N := fun b => K.N b ∨ b = K.w.heap.size, B := K.B, R := K.R }
  have hold : ∀ b, b < K.w.heap.size → w'.heap[b]? = K.w.heap[b]? := fun b hb => by rw [hw, Array.getElem?_push, if_neg (by omega)]
  have hnew : w'.heap[K.w.heap.size]? = some (.cells C e (lo, up)) := by rw [hw, Array.getElem?_push, if_pos rfl]
  have hsz : w'.heap.size = K.w.heap.size + 1 := by rw [hw, Array.size_push]
  have hlt : ∀ b o, K.w.heap[b]? = some o → b < K.w.heap.size := fun b o hb => (Array.getElem?_eq_some_iff.1 hb).1
  have hDn : ∀ i, Dn D H (H ++ [some cells]) i → D i ∨ i = H.length := by
    rintro i ⟨h1 | h1, h2⟩
    · exact .inl h1
    · have := h2.lt; simp at this; exact .inr (by omega)
  have hstep : Step K H D K' (H ++ [some cells]) (Dn D H (H ++ [some cells])) := by
    refine ⟨rfl, rfl, hos, ht, hout, by show K.w.heap.size ≤ w'.heap.size; omega, by simp, ?_, ?_, ?_, fun b hb _ _ => .inl hb, ?_, fun b hb _ => hold b hb, ?_⟩
    · intro i b hb
      show (if i = H.length then some K.w.heap.size else K.β i) = some b
      by_cases hi : i = H.length
      · subst hi; rw [hfresh] at hb; cases hb
      · rw [if_neg hi]; exact hb
    · intro i b hb
      have hb' : (if i = H.length then some K.w.heap.size else K.β i) = some b := hb
      by_cases hi : i = H.length
      · rw [if_pos hi] at hb'
        cases hb'
        subst hi
        exact .inr ⟨hfresh, Nat.le_refl _, by simp, .inl (Nat.le_refl _)⟩
      · rw [if_neg hi] at hb'; exact .inl hb'
    · intro b hb
      rcases hb with hb | hb
      · exact .inl hb
      · exact .inr (by omega)
    · intro i hi
      rcases hDn i hi with hd | hd
      · exact .inl hd
      · subst hd; exact .inr ⟨hfresh, Nat.le_refl _, by simp⟩
    · intro b C0 e0 fz0 hC0
      exact ⟨C0, fz0, by show w'.heap[b]? = _; rw [hold b (hlt b _ hC0)]; exact hC0, rfl⟩
  have hpres : Pres K K' := hstep.pres h
  refine ⟨K', rfl, ⟨?_, ?_, ?_, ?_⟩, hstep, by show (if H.length = H.length then _ else _) = _; rw [if_pos rfl], hnew⟩
  · intro i j b hi hj hbi hbj
    have hbi' : (if i = H.length then some K.w.heap.size else K.β i) = some b := hbi
    have hbj' : (if j = H.length then some K.w.heap.size else K.β j) = some b := hbj
    have hsmall : ∀ k, D k → K.β k = some K.w.heap.size → False := fun k hk hkb => by
      obtain ⟨b0, cs0, hb0, _, C0, e0, lo0, hi0, hC0, _⟩ := h.blk k hk
      rw [hkb] at hb0; cases hb0
      have := hlt _ _ hC0; omega
    by_cases hi0 : i = H.length <;> by_cases hj0 : j = H.length
    · omega
    · rw [if_pos hi0] at hbi'; rw [if_neg hj0] at hbj'; cases hbi'
      rcases hDn j hj with hd | hd
      · exact (hsmall j hd hbj').elim
      · exact absurd hd hj0
    · rw [if_neg hi0] at hbi'; rw [if_pos hj0] at hbj'; cases hbj'
      rcases hDn i hi with hd | hd
      · exact (hsmall i hd hbi').elim
      · exact absurd hd hi0
    · rw [if_neg hi0] at hbi'; rw [if_neg hj0] at hbj'
      rcases hDn i hi with hd | hd
      · rcases hDn j hj with hd' | hd'
        · exact h.inj i j b hd hd' hbi' hbj'
        · exact absurd hd' hj0
      · exact absurd hd hi0
  · intro i hi
    rcases hDn i hi with hd | hd
    · obtain ⟨b0, cs0, hb0, hH, hok⟩ := h.blk i hd
      have hb1 : b0 < K.w.heap.size := by obtain ⟨C0, e0, lo0, hi0, hC0, _⟩ := hok; exact hlt _ _ hC0
      refine ⟨b0, cs0, hstep.ext i b0 hb0, ?_, hok.pres hpres (hold b0 hb1)⟩
      rw [List.getElem?_append_left (h.live hd).lt]; exact hH
    · subst hd
      refine ⟨K.w.heap.size, cells, by show (if H.length = H.length then _ else _) = _; rw [if_pos rfl], by simp, C, e, lo, up, hnew, hlen, hfz, h1, fun i v hv => ?_⟩
      obtain ⟨c, hcc, hr⟩ := hc i v hv
      exact ⟨c, hcc, Rep.pres hpres v c hr⟩
  · intro i b hi hb
    have hb' : (if i = H.length then some K.w.heap.size else K.β i) = some b := hb
    by_cases hi0 : i = H.length
    · rw [if_pos hi0] at hb'; cases hb'
      exact ⟨.inr rfl, .inr h.low⟩
    · rw [if_neg hi0] at hb'
      rcases hDn i hi with hd | hd
      · exact ⟨.inl (h.own i b hd hb').1, (h.own i b hd hb').2⟩
      · exact absurd hd hi0
  · show K.B ≤ w'.heap.size
    have := h.low; omega

/-- A world in which one block alone was written. -/
structure Wrote (w w' : World) (b : Nat) (C' : Array Value) (e : TypeId) (fz : Nat × Nat) : Prop where
  os : w'.os = w.os
  tape : w'.tape = w.tape
  output : w'.output = w.output
  size : w'.heap.size = w.heap.size
  other : ∀ k, k ≠ b → w'.heap[k]? = w.heap[k]?
  here : w'.heap[b]? = some (.cells C' e fz)

/-- The step of a write: the content of the block 'b' of 'id' turns; 'H'' has other content at 'id'. -/
theorem wrote_step {K : Cx} {H : Heap} {D : Nat → Prop} (h : HeapOK K H D) {id b : Nat} (hD : D id) (hb : K.β id = some b) {w' : World} {C C' : Array Value} {e : TypeId} {fz fz' : Nat × Nat}
    (hC : K.w.heap[b]? = some (.cells C e fz)) (hw : Wrote K.w w' b C' e fz') (hsz : C'.size = C.size) (o : Option (List V)) :
    Step K H D { K with w := w' } (H.set id o) (Dn D H (H.set id o)) := by
  refine ⟨rfl, rfl, hw.os, hw.tape, hw.output, by show K.w.heap.size ≤ w'.heap.size; rw [hw.size]; exact Nat.le_refl _, by simp, fun _ _ h => h, fun _ _ h => .inl h, fun _ h => .inl h, fun _ h _ _ => h, ?_, ?_, ?_⟩
  · rintro i ⟨h1 | h1, h2⟩
    · exact .inl h1
    · have := h2.lt; simp at this; omega
  · intro k hk hno
    exact hw.other k fun hkb => hno ⟨id, hD, by rw [hkb]; exact hb⟩
  · intro k C0 e0 fz0 hC0
    by_cases hkb : k = b
    · subst hkb
      rw [hC] at hC0; cases hC0
      exact ⟨C', fz', hw.here, hsz⟩
    · exact ⟨C0, fz0, by show w'.heap[k]? = _; rw [hw.other k hkb]; exact hC0, rfl⟩

theorem wrote_sound {K : Cx} {H : Heap} {D : Nat → Prop} (h : HeapOK K H D) {id b : Nat} (hD : D id) (hb : K.β id = some b) {w' : World} {C C' : Array Value} {e : TypeId} {fz : Nat × Nat} {lo up : Nat}
    (hC : K.w.heap[b]? = some (.cells C e fz)) (hw : Wrote K.w w' b C' e (lo, up)) (hsz : C'.size = C.size) {cells : List V}
    (hlen : cells.length ≤ C'.size) (hfz : lo = up ∨ C'.size ≤ lo) (h1 : ∀ (i : Nat) (c : Value), C'[i]? = some c → c.oneCell' = true)
    (hc : ∀ (i : Nat) (v : V), cells[i]? = some v → ∃ c : Value, C'[i]? = some c ∧ Rep K v c) :
    HeapOK { K with w := w' } (H.set id (some cells)) (Dn D H (H.set id (some cells))) ∧ Step K H D { K with w := w' } (H.set id (some cells)) (Dn D H (H.set id (some cells))) := by
  have hstep := wrote_step h hD hb hC hw hsz (some cells)
  have hpres : Pres K { K with w := w' } := hstep.pres h
  have hDn : ∀ i, Dn D H (H.set id (some cells)) i → D i := by
    rintro i ⟨h1 | h1, h2⟩
    · exact h1
    · have := h2.lt; simp at this; omega
  refine ⟨⟨fun i j c hi hj hbi hbj => h.inj i j c (hDn i hi) (hDn j hj) hbi hbj, fun i hi => ?_, fun i c hi hbi => h.own i c (hDn i hi) hbi, ?_⟩, hstep⟩
  · by_cases hid : i = id
    · subst hid
      refine ⟨b, cells, hb, by rw [List.getElem?_set_self (h.live hD).lt], C', e, lo, up, hw.here, hlen, hfz, h1, fun i v hv => ?_⟩
      obtain ⟨c, hcc, hr⟩ := hc i v hv
      exact ⟨c, hcc, Rep.pres hpres v c hr⟩
    · obtain ⟨b0, cs0, hb0, hH, hok⟩ := h.blk i (hDn i hi)
      refine ⟨b0, cs0, hb0, by rw [List.getElem?_set_ne (Ne.symm hid)]; exact hH, hok.pres hpres (hw.other b0 fun hbb => ?_)⟩
      subst hbb
      exact hid (h.inj i id b0 (hDn i hi) hD hb0 hb)
  · show K.B ≤ w'.heap.size
    rw [hw.size]; exact h.low

theorem modify_get (h : Array Obj) (b : Nat) (f : Obj → Obj) (k : Nat) : (h.modify b f)[k]? = if b = k then h[k]?.map f else h[k]? := by
  rw [Array.getElem?_modify]

theorem setCell_wrote {w : World} {b o : Nat} {C : Array Value} {e : TypeId} {fz : Nat × Nat} (hC : w.heap[b]? = some (.cells C e fz)) (v : Value) :
    Wrote w (w.setCell ⟨b, o, none⟩ v) b (C.setIfInBounds o v) e fz := by
  refine ⟨rfl, rfl, rfl, by simp [World.setCell], fun k hk => ?_, ?_⟩
  · simp only [World.setCell, Array.getElem?_modify]
    rw [if_neg (Ne.symm hk)]
  · simp [World.setCell, Array.getElem?_modify, hC]

theorem Wrote.trans {w w' w'' : World} {b : Nat} {C C' : Array Value} {e : TypeId} {fz fz' : Nat × Nat} (h : Wrote w w' b C e fz) (k : Wrote w' w'' b C' e fz') : Wrote w w'' b C' e fz' :=
  ⟨k.os.trans h.os, k.tape.trans h.tape, k.output.trans h.output, k.size.trans h.size, fun i hi => (k.other i hi).trans (h.other i hi), k.here⟩

theorem run_storeCells_va (P : Program) (b o : Nat) (e : TypeId) (lo hi : Nat) : ∀ (vs : List Value) (i : Nat) (C : Array Value) (w : World), w.heap[b]? = some (.cells C e (lo, hi)) → (lo = hi ∨ C.size ≤ lo) →
    o + i + vs.length ≤ C.size → (∀ v ∈ vs, v.oneCell' = true) →
    ∃ w' C', (storeCells ⟨b, o, none⟩ vs i).run P w = .ok () w' ∧ Wrote w w' b C' e (lo, hi) ∧ C'.size = C.size ∧
      (∀ k, k < o + i ∨ o + i + vs.length ≤ k → C'[k]? = C[k]?) ∧ ∀ (j : Nat) (v : Value), vs[j]? = some v → C'[o + i + j]? = some v
  | [], i, C, w, hC, _, _, _ => ⟨w, C, rfl, ⟨rfl, rfl, rfl, rfl, fun _ _ => rfl, hC⟩, rfl, fun _ _ => rfl, fun j v hv => by simp at hv⟩
  | v :: vs, i, C, w, hC, hfz, hlen, h1 => by
    have hadd : (⟨b, o, none⟩ : Addr).add i = ⟨b, o + i, none⟩ := by unfold Addr.add; split <;> simp_all
    simp only [List.length_cons] at hlen
    have hin : o + i < C.size := by omega
    have hcell : w.cell? ⟨b, o + i, none⟩ = some C[o + i] := by simp [World.cell?, hC, Array.getElem?_eq_getElem hin]
    have hfro : w.frozen? ⟨b, o + i, none⟩ = false := by
      simp only [World.frozen?, hC]
      rcases hfz with hfz | hfz
      · subst hfz; simp
        try omega
      · simp; omega
    have hst : (store ⟨b, o + i, none⟩ v).run P w = .ok () (w.setCell ⟨b, o + i, none⟩ v) := by
      rw [run_store P w _ v .plain (h1 v (by simp))]
      simp [hcell, hfro]
    obtain ⟨w', C', hrun, hwr, hsz, hout, hin'⟩ := run_storeCells_va P b o e lo hi vs (i + 1) (C.setIfInBounds (o + i) v) (w.setCell ⟨b, o + i, none⟩ v) (setCell_wrote hC v).here
      (by simpa using hfz) (by simp; omega) (fun u hu => h1 u (by simp [hu]))
    refine ⟨w', C', ?_, (setCell_wrote hC v).trans hwr, by rw [hsz]; simp, ?_, ?_⟩
    · simp only [storeCells, Sem.run_bind, hadd, hst, Result.andThen_ok]
      exact hrun
    · intro k hk
      rw [hout k (by simp only [List.length_cons] at hk; omega), Array.getElem?_setIfInBounds_ne (by simp only [List.length_cons] at hk; omega)]
    · intro j u hu
      cases j with
      | zero =>
        simp at hu; subst hu
        rw [hout (o + i + 0) (by omega)]
        simp [Array.getElem?_setIfInBounds, hin]
      | succ j =>
        have := hin' j u (by simpa using hu)
        rwa [show o + (i + 1) + j = o + i + (j + 1) by omega] at this

theorem cellsV_rep {K : Cx} {x : V} {l : List V} {c : Value} (h : cellsV x = some l) (hr : Rep K x c) : RepO K l c.cells.toList := by
  cases x with
  | sc v =>
    simp only [cellsV] at h
    split at h
    · rename_i h1
      cases h
      simp only [Rep] at hr; rw [hr]
      have : v.cells = #[v] := by cases v <;> simp_all [Value.cells, Value.oneCell']
      simp only [this, RepO, Rep]
      exact ⟨v, [], rfl, h1, rfl, rfl⟩
    · cases h
  | agg cs => simp only [cellsV] at h; cases h; simp only [Rep] at hr; obtain ⟨l', rfl, hr⟩ := hr; simpa [Value.cells] using hr
  | tup vs => simp [cellsV] at h
  | dead => simp [cellsV] at h
  | sl n cs =>
    simp only [cellsV] at h; cases h
    have hr' := hr
    simp only [Rep] at hr; obtain ⟨a, cap, rfl, _⟩ := hr
    simp only [Value.cells, RepO]; exact ⟨_, _, rfl, rfl, hr', rfl⟩
  | box cs =>
    simp only [cellsV] at h; cases h
    have hr' := hr
    simp only [Rep] at hr; obtain ⟨a, rfl, _⟩ := hr
    simp only [Value.cells, RepO]; exact ⟨_, _, rfl, rfl, hr', rfl⟩
  | ref id off =>
    simp only [cellsV] at h; cases h
    have hr' := hr
    simp only [Rep] at hr; obtain ⟨b, _, rfl⟩ := hr
    simp only [Value.cells, RepO]; exact ⟨_, _, rfl, rfl, hr', rfl⟩
  | sref id off n sz =>
    simp only [cellsV] at h; cases h
    have hr' := hr
    simp only [Rep] at hr; obtain ⟨b, o, cap, _, rfl, _⟩ := hr
    simp only [Value.cells, RepO]; exact ⟨_, _, rfl, rfl, hr', rfl⟩
  | fn f caps =>
    simp only [cellsV] at h; cases h
    have hr' := hr
    simp only [Rep] at hr; obtain ⟨l, rfl, _⟩ := hr
    simp only [Value.cells, RepO]; exact ⟨_, _, rfl, rfl, hr', rfl⟩

theorem info_size {P : Program} {t : TypeId} {n : Nat} (h : sizeC P t = some n) (w : World) : (sizeOf t).run P w = .ok n w := by
  unfold sizeC at h
  cases hi : P.info? t with
  | none => simp [hi] at h
  | some i => simp [hi] at h; simp [sizeOf, typeInfo, hi, h]

theorem kind_scalar {P : Program} {t : TypeId} (h : kindOf P t = some none) (w : World) : (isAgg t).run P w = .ok false w ∧ sizeC P t = some 1 := by
  unfold kindOf at h
  cases hd : P.underlying t with
  | none => rw [hd] at h; cases P.info? t <;> simp at h
  | some d =>
    cases hi : P.info? t with
    | none => rw [hd, hi] at h; cases d <;> simp at h
    | some i =>
      rw [hd, hi] at h
      simp only [isAgg, Sem.run_bind, run_underlying hd, Result.andThen_ok]
      cases d <;> simp at h <;> exact ⟨rfl, by simp [sizeC, hi, h]⟩

theorem kind_agg {P : Program} {t : TypeId} {n : Nat} (h : kindOf P t = some (some n)) (w : World) : (isAgg t).run P w = .ok true w ∧ sizeC P t = some n := by
  unfold kindOf at h
  split at h <;> try simp at h
  · rename_i hd hi
    exact ⟨by simp [isAgg, run_underlying hd], by simp [sizeC, hi, h]⟩
  · rename_i hd hi
    exact ⟨by simp [isAgg, run_underlying hd], by simp [sizeC, hi, h]⟩

theorem rd_sound {P : Program} {K : Cx} {t : TypeId} {k : Option Nat} (hk : kindOf P t = some k) {cells : List V} {off : Nat} {v : V} (hr : rd k cells off = some v) {a : Addr} (hc : RepC K cells a 0) :
    ∃ c, (loadVar t (a.add off)).run P K.w = .ok c K.w ∧ Rep K v c := by
  cases k with
  | none =>
    obtain ⟨c, hcell, _, hrep⟩ := hc.get off v hr
    refine ⟨c, ?_, hrep⟩
    simp only [Nat.zero_add] at hcell
    simp [loadVar, (kind_scalar hk K.w).1, hcell]
  | some n =>
    simp only [rd] at hr
    split at hr
    · rename_i hle
      cases hr
      have hc' := (hc.drop off).take n
      have hlen : ((cells.drop off).take n).length = n := by simp; omega
      have hex : ∀ j, j < n → ∃ c, K.w.cell? ((a.add off).add j) = some c := fun j hj => by
        obtain ⟨c, hcell, _⟩ := hc'.get j (((cells.drop off).take n)[j]'(by omega)) (List.getElem?_eq_getElem (by omega))
        exact ⟨c, by simpa using hcell⟩
      let f : Nat → Value := fun j => ((K.w.cell? ((a.add off).add j)).getD undef)
      have hf : ∀ j, j < n → K.w.cell? ((a.add off).add j) = some (f j) := fun j hj => by
        obtain ⟨c, hcell⟩ := hex j hj
        simp [f, hcell]
      have hrun := run_loadCells_list (P := P) K.w (a.add off) ((List.range n).map f) (fun j u hu => by
        rw [List.getElem?_map] at hu
        by_cases hj : j < n
        · rw [List.getElem?_range hj] at hu; simp at hu; rw [← hu]; exact hf j hj
        · rw [List.getElem?_eq_none (by simpa using hj)] at hu; simp at hu)
      have hlr : ((List.range n).map f).length = n := by simp
      rw [hlr] at hrun
      refine ⟨.agg ((List.range n).map f).toArray, by simp [loadVar, (kind_agg hk K.w).1, info_size (kind_agg hk K.w).2, hrun], ?_⟩
      simp only [Rep]
      refine ⟨_, rfl, RepO.iff.2 ⟨RepL.mk (by rw [hlen, hlr]) fun i u c hu hcc => ?_, fun c hcm => ?_⟩⟩
      · obtain ⟨c', hcell, _, hrep⟩ := hc'.get i u hu
        simp only [Nat.zero_add] at hcell
        have hi : i < n := by have := (List.getElem?_eq_some_iff.1 hu).1; omega
        rw [List.getElem?_map, List.getElem?_range hi] at hcc
        simp at hcc
        rw [hf i hi] at hcell; cases hcell
        rw [← hcc]; exact hrep
      · obtain ⟨j, hj, rfl⟩ := List.mem_map.1 hcm
        have hj' : j < n := by simpa using hj
        obtain ⟨c', hcell, h1, _⟩ := hc'.get j (((cells.drop off).take n)[j]'(by omega)) (List.getElem?_eq_getElem (by omega))
        simp only [Nat.zero_add] at hcell
        rw [hf j hj'] at hcell; cases hcell
        exact h1
    · cases hr

end Go.Proofs.Ytlahigboaeadmaa.VA
