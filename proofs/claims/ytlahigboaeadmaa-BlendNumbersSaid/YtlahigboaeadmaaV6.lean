/- The soundness of single operations of 'VA': what makes new rows, what cuts them, what compares them. -/
import Derived.Test.YtlahigboaeadmaaV5
import Derived.ChangeKeysEq
import Derived.Laws.Tables
import Derived.Laws.MakeOwn
import Derived.Laws.StructEq
set_option linter.unusedVariables false
set_option linter.unusedSimpArgs false
namespace Go.Proofs.Ytlahigboaeadmaa.VA
open Go

theorem zeroC_spec {P : Program} {t : TypeId} {zs : List Value} (h : zeroC P t = some zs) : ∃ i z, P.info? t = some i ∧ i.zero = some z ∧ z.cells.toList = zs ∧ z.cells.size = i.size ∧ zs.all (·.oneCell') = true := by
  unfold zeroC at h
  cases hi : P.info? t with
  | none => simp [hi] at h
  | some i =>
    simp only [hi] at h
    cases hz : i.zero with
    | none => simp [hz] at h
    | some z =>
      simp only [hz] at h
      split at h
      · rename_i hc
        cases h
        simp only [Bool.and_eq_true, decide_eq_true_eq] at hc
        exact ⟨i, z, rfl, hz, rfl, hc.1, by simpa [oneL] using hc.2⟩
      · cases h

theorem size_le_one {l : List V} : l.length ≤ l.length := Nat.le_refl _

/-- The cells of a new block out of a row of values. -/
theorem cells_of_repO {K : Cx} {cells : List V} {l : List Value} (h : RepO K cells l) :
    cells.length ≤ l.toArray.size ∧ (∀ (i : Nat) (c : Value), l.toArray[i]? = some c → c.oneCell' = true) ∧ ∀ (i : Nat) (v : V), cells[i]? = some v → ∃ c : Value, l.toArray[i]? = some c ∧ Rep K v c := by
  have h' := RepO.iff.1 h
  refine ⟨by simp [RepL.length h'.1], fun i c hc => h'.2 c ?_, fun i v hv => ?_⟩
  · rw [List.getElem?_toArray] at hc
    exact List.mem_of_getElem? hc
  · obtain ⟨c, hc, hr⟩ := h'.1.get i v hv
    exact ⟨c, by simpa using hc, hr⟩

/-- What a new row leaves. -/
theorem OpDone.alloc {P : Program} {K : Cx} {H : Heap} {D : Nat → Prop} {s : Sem Next} {v : V} {c : Value} {w' : World} (hK : HeapOK K H D) (hfresh : K.β H.length = none) {C : Array Value} {e : TypeId} {lo up : Nat} {cells : List V}
    (hr : s.run P K.w = .ok (.value c) w')
    (hw : w'.heap = K.w.heap.push (.cells C e (lo, up))) (hos : w'.os = K.w.os) (ht : w'.tape = K.w.tape) (hout : w'.output = K.w.output)
    (hlen : cells.length ≤ C.size) (hfz : lo = up ∨ C.size ≤ lo) (h1 : ∀ (i : Nat) (c : Value), C[i]? = some c → c.oneCell' = true)
    (hc : ∀ (i : Nat) (v : V), cells[i]? = some v → ∃ c : Value, C[i]? = some c ∧ Rep K v c)
    (hv : ∀ K' : Cx, K'.w = w' → K'.β H.length = some K.w.heap.size → K'.w.heap[K.w.heap.size]? = some (.cells C e (lo, up)) → Rep K' v c) :
    OpDone P K H D s v (H ++ [some cells]) := by
  obtain ⟨K', hK'w, h1', h2', h3', h4'⟩ := alloc_sound hK hfresh hw hos ht hout hlen hfz h1 hc
  exact ⟨_, c, K', by rw [hK'w]; exact hr, .inl rfl, h1', h2', hv K' hK'w h3' h4'⟩

theorem snd_alloc {P : Program} {K : Cx} {H : Heap} {D : Nat → Prop} {S : List V} {a : Act} {o : Oper} {t : TypeId} {zs : List Value} (ho : o.op = .alloc t) (hz : zeroC P t = some zs)
    (hK : HeapOK K H D) (hfresh : K.β H.length = none) : OpDone P K H D (execOp a.eval o) (.ref H.length 0) (H ++ [some (zs.map .sc)]) := by
  obtain ⟨i, z, hi, hzz, rfl, hs, hone⟩ := zeroC_spec hz
  have hc := cells_of_repO (repO_const (K := K) z.cells.toList hone)
  simp only [Array.toArray_toList] at hc
  refine OpDone.alloc (c := .pointer (some ⟨K.w.heap.size, 0, none⟩)) (w' := { K.w with heap := K.w.heap.push (.cells z.cells t) }) hK hfresh ?_ rfl rfl rfl rfl hc.1 (.inl rfl) hc.2.1 hc.2.2
    (fun K' _ hb _ => by simp only [Rep]; exact ⟨_, hb, rfl⟩)
  unfold execOp; rw [ho]
  simp [Instr.alloc, zeroValue, typeInfo, hi, hzz, newVar, newRow]

theorem snd_box {P : Program} {K : Cx} {H : Heap} {D : Nat → Prop} {S : List V} {a : Act} {o : Oper} {t : TypeId} {x : Operand} {d : Od} {l : List V} (ho : o.op = .box t x) (hd : cOd x = some d)
    (hK : HeapOK K H D) (hfresh : K.β H.length = none) (hx : OnOd K S a x) (hl : cellsV (d.ev S) = some l) : OpDone P K H D (execOp a.eval o) (.ref H.length 0) (H ++ [some l]) := by
  have hc := cells_of_repO (cellsV_rep hl (od_rep hd hx))
  simp only [Array.toArray_toList] at hc
  refine OpDone.alloc (c := .pointer (some ⟨K.w.heap.size, 0, none⟩)) (w' := { K.w with heap := K.w.heap.push (.cells (a.eval x).cells t) }) hK hfresh ?_ rfl rfl rfl rfl hc.1 (.inl rfl) hc.2.1 hc.2.2
    (fun K' _ hb _ => by simp only [Rep]; exact ⟨_, hb, rfl⟩)
  unfold execOp; rw [ho]
  simp [Instr.box, newVar, newRow]

/-! ## Rows that are filled -/

theorem foldl_set (off : Nat) : ∀ (l : List Value) (k : Nat) (cells : Array Value), off + k + l.length ≤ cells.size →
    (List.foldl (fun (cs : Array Value) (p : Value × Nat) => cs.setIfInBounds (off + p.2) p.1) cells (l.zipIdx k)).toList = cells.toList.take (off + k) ++ (l ++ cells.toList.drop (off + k + l.length))
  | [], k, cells, h => by simp
  | v :: l, k, cells, h => by
    simp only [List.length_cons] at h
    rw [List.zipIdx_cons, List.foldl_cons, foldl_set off l (k + 1) _ (by simp; omega)]
    have hlt : off + k < cells.toList.length := by simp; omega
    simp only [Array.toList_setIfInBounds]
    rw [show off + (k + 1) = off + k + 1 by omega]
    rw [List.take_set, List.drop_set_of_lt (by omega)]
    rw [List.take_succ_eq_append_getElem hlt, List.set_append_right _ _ (by simp; omega)]
    simp only [List.length_take, List.length_cons]
    rw [show min (off + k) cells.toList.length = off + k by omega]
    simp [show off + k + 1 + l.length = off + k + (l.length + 1) by omega]

theorem splice_len {cells l : List V} {off : Nat} (h : off + l.length ≤ cells.length) : (splice cells off l).length = cells.length := by
  unfold splice; simp; omega

theorem splice_rep {K : Cx} {cells l : List V} {off : Nat} {cs cl : List Value} (hc : RepO K cells cs) (hl : RepO K l cl) (h : off + l.length ≤ cells.length) :
    RepO K (splice cells off l) (cs.take off ++ (cl ++ cs.drop (off + cl.length))) := by
  have hc' := RepO.iff.1 hc
  have hl' := RepO.iff.1 hl
  have e1 := RepL.length hc'.1
  have e2 := RepL.length hl'.1
  refine RepO.iff.2 ⟨RepL.mk (by unfold splice; simp; omega) fun i v c hv hcc => ?_, fun c hcm => ?_⟩
  · unfold splice at hv
    by_cases h1 : i < off
    · rw [List.getElem?_append_left (by simp; omega), List.getElem?_take_of_lt h1] at hv
      rw [List.getElem?_append_left (by simp; omega), List.getElem?_take_of_lt h1] at hcc
      obtain ⟨c', hc1, hr⟩ := hc'.1.get i v hv
      rw [hcc] at hc1; cases hc1; exact hr
    · rw [List.getElem?_append_right (by simp; omega)] at hv hcc
      have m1 : min off cells.length = off := by omega
      have m2 : min off cs.length = off := by omega
      simp only [List.length_take, m1] at hv
      simp only [List.length_take, m2] at hcc
      by_cases h2 : i - off < l.length
      · rw [List.getElem?_append_left h2] at hv
        rw [List.getElem?_append_left (by omega)] at hcc
        obtain ⟨c', hc1, hr⟩ := hl'.1.get _ v hv
        rw [hcc] at hc1; cases hc1; exact hr
      · rw [List.getElem?_append_right (by omega), List.getElem?_drop] at hv hcc
        rw [e2] at hcc
        obtain ⟨c', hc1, hr⟩ := hc'.1.get _ v hv
        rw [hcc] at hc1; cases hc1; exact hr
  · rcases List.mem_append.1 hcm with h1 | h1
    · exact hc'.2 c (List.mem_of_mem_take h1)
    · rcases List.mem_append.1 h1 with h1 | h1
      · exact hl'.2 c h1
      · exact hc'.2 c (List.mem_of_mem_drop h1)

theorem fill_sound {K : Cx} {S : List V} {a : Act} {off : Nat → Option (Nat × Nat)} : ∀ {ps : List (Nat × Operand)} {qs : List (Nat × Nat × Od)} {cells out : List V} {ca : Array Value},
    cParts off ps = some qs → (∀ p ∈ ps, OnOd K S a p.2) → fillV cells (evParts S qs) = some out → RepO K cells ca.toList →
    ∃ oa, Instr.fill off ca (ps.map fun p => (p.1, a.eval p.2)) = some oa ∧ RepO K out oa.toList
  | [], qs, cells, out, ca, hq, _, hf, hc => by
    simp only [cParts] at hq; cases hq
    simp only [evParts, List.map_nil, fillV] at hf; cases hf
    exact ⟨ca, rfl, hc⟩
  | (i, x) :: ps, qs, cells, out, ca, hq, hx, hf, hc => by
    simp only [cParts, Option.bind_eq_bind, Option.bind_eq_some_iff, Option.pure_def, Option.some.injEq, Prod.exists] at hq
    obtain ⟨oo, n, ho, d, hd, r, hr, rfl⟩ := hq
    simp only [evParts, List.map_cons, fillV] at hf
    split at hf
    · rename_i l hl
      split at hf
      · rename_i hcond
        obtain ⟨hln, hoff⟩ := hcond
        have hcl := cellsV_rep hl (od_rep hd (hx (i, x) (by simp)))
        have e1 := RepL.length (RepO.iff.1 hcl).1
        have e2 := RepL.length (RepO.iff.1 hc).1
        simp only [Array.length_toList] at e1 e2
        have hnext := splice_rep (off := oo) hc hcl (by omega)
        simp only [List.map_cons, Instr.fill, ho]
        rw [if_neg (by simp; omega)]
        have hfold : (Array.foldl (fun (cs : Array Value) (p : Value × Nat) => cs.setIfInBounds (oo + p.2) p.1) ca (a.eval x).cells.zipIdx).toList =
            ca.toList.take oo ++ ((a.eval x).cells.toList ++ ca.toList.drop (oo + (a.eval x).cells.toList.length)) := by
          rw [← Array.foldl_toList, Array.toList_zipIdx]
          have := foldl_set oo (a.eval x).cells.toList 0 ca (by rw [Array.length_toList]; omega)
          simpa using this
        refine fill_sound hr (fun p hp => hx p (by simp [hp])) hf ?_
        rw [hfold]
        exact hnext
      · cases hf
    · cases hf

theorem snd_build {P : Program} {K : Cx} {H : Heap} {D : Nat → Prop} {S : List V} {a : Act} {o : Oper} {t : TypeId} {parts : Array (Nat × Operand)} {zs : List Value} {qs : List (Nat × Nat × Od)} {cs : List V}
    (ho : o.op = .build t parts) (hz : zeroC P t = some zs)
    (hu : (∃ fs places, P.underlying t = some (.struct fs) ∧ fs.toList.mapM (fun f => (P.info? f.type).map fun i => (f.offset, i.size)) = some places ∧ cParts (fun i => places.toArray[i]?) parts.toList = some qs) ∨
      (∃ n e sz, P.underlying t = some (.array n e) ∧ sizeC P e = some sz ∧ cParts (fun i => some (i * sz, sz)) parts.toList = some qs))
    (hK : HeapOK K H D) (hx : ∀ p ∈ parts.toList, OnOd K S a p.2) (hf : fillV (zs.map .sc) (evParts S qs) = some cs) :
    OpDone P K H D (execOp a.eval o) (.agg cs) H := by
  obtain ⟨i, z, hi, hzz, rfl, hs, hone⟩ := zeroC_spec hz
  have hmap : (parts.map fun x => (x.1, a.eval x.2)).toList = parts.toList.map fun p => (p.1, a.eval p.2) := by simp
  have key : ∀ oa, P.built t (parts.map fun x => (x.1, a.eval x.2)).toList = some oa → RepO K cs oa.toList → OpDone P K H D (execOp a.eval o) (.agg cs) H := by
    intro oa hb hrep
    refine OpDone.same (c := .agg oa) hK ?_ (by simp only [Rep]; exact ⟨oa.toList, by simp, hrep⟩)
    unfold execOp; rw [ho]
    have := run_build (P := P) K.w t _ oa hb
    simp only [Sem.run_bind, this, Result.andThen_ok]
    rfl
  rcases hu with ⟨fs, places, hut, hpl, hq⟩ | ⟨n, e, sz, hut, hsz, hq⟩
  · obtain ⟨oa, hrun, hrep⟩ := fill_sound (a := a) hq hx hf (repO_const z.cells.toList hone)
    refine key oa ?_ hrep
    simp only [Program.built, hi, hut, hzz, hpl, hmap]
    exact hrun
  · obtain ⟨oa, hrun, hrep⟩ := fill_sound (a := a) hq hx hf (repO_const z.cells.toList hone)
    refine key oa ?_ hrep
    cases he : P.info? e with
    | none => simp [sizeC, he] at hsz
    | some ie =>
      simp [sizeC, he] at hsz
      subst hsz
      simp only [Program.built, hi, hut, hzz, he, hmap]
      exact hrun

theorem zeroCells_get (zs : List Value) : ∀ (n i : Nat), i < n * zs.length → (zeroCells zs n)[i]? = (zs[i % zs.length]?).map V.sc
  | 0, i, h => by simp at h
  | n + 1, i, h => by
    unfold zeroCells
    rw [List.replicate_succ, List.flatten_cons]
    by_cases hi : i < zs.length
    · rw [List.getElem?_append_left (by simpa using hi), Nat.mod_eq_of_lt hi]
      simp
    · rw [List.getElem?_append_right (by simp; omega)]
      have hpos : 0 < zs.length := by
        rcases Nat.eq_zero_or_pos zs.length with h0 | h0
        · rw [h0] at h; simp at h
        · exact h0
      have hlt : i - zs.length < n * zs.length := by rw [Nat.add_mul, Nat.one_mul] at h; omega
      have := zeroCells_get zs n (i - zs.length) hlt
      unfold zeroCells at this
      simp only [List.length_map]
      rw [this]
      rw [Nat.mod_eq_sub_mod (show zs.length ≤ i by omega)]

theorem zeroCells_len (zs : List Value) (n : Nat) : (zeroCells zs n).length = n * zs.length := by
  unfold zeroCells
  rw [List.length_flatten]
  simp [Nat.mul_comm]

theorem madeCells_rep {K : Cx} {z : Value} (hone : z.cells.toList.all (·.oneCell') = true) (n m : Nat) (hnm : n ≤ m) (hpos : 0 < z.cells.size) :
    (zeroCells z.cells.toList n).length ≤ (madeCells z.cells (m * z.cells.size)).size ∧ (∀ (i : Nat) (c : Value), (madeCells z.cells (m * z.cells.size))[i]? = some c → c.oneCell' = true) ∧
      ∀ (i : Nat) (v : V), (zeroCells z.cells.toList n)[i]? = some v → ∃ c : Value, (madeCells z.cells (m * z.cells.size))[i]? = some c ∧ Rep K v c := by
  have hle : n * z.cells.size ≤ m * z.cells.size := Nat.mul_le_mul_right _ hnm
  refine ⟨by rw [zeroCells_len, size_madeCells]; simpa using hle, fun i c hc => ?_, fun i v hv => ?_⟩
  · obtain ⟨hlt, hc⟩ := Array.getElem?_eq_some_iff.1 hc
    simp only [madeCells, Array.getElem_map, Array.getElem_range] at hc
    rw [← hc]
    have hm : i % z.cells.size < z.cells.size := Nat.mod_lt _ hpos
    rw [getElem!_pos z.cells _ hm]
    exact List.all_eq_true.1 hone _ (by simp)
  · have hi : i < n * z.cells.toList.length := by have := (List.getElem?_eq_some_iff.1 hv).1; rwa [zeroCells_len] at this
    rw [zeroCells_get _ n i hi] at hv
    simp only [Array.length_toList] at hv hi
    have hm : i % z.cells.size < z.cells.size := Nat.mod_lt _ hpos
    rw [List.getElem?_eq_getElem (by simpa using hm)] at hv
    simp only [Option.map_some, Option.some.injEq] at hv
    subst hv
    refine ⟨z.cells[i % z.cells.size], ?_, by simp [Rep]⟩
    have hlt : i < (madeCells z.cells (m * z.cells.size)).size := by rw [size_madeCells]; omega
    rw [Array.getElem?_eq_getElem hlt]
    simp only [madeCells, Array.getElem_map, Array.getElem_range]
    rw [getElem!_pos z.cells _ hm]

theorem snd_mkSl {P : Program} {K : Cx} {H : Heap} {D : Nat → Prop} {S : List V} {a : Act} {o : Oper} {t e : TypeId} {x y : Operand} {dx dy : Od} {zs : List Value} {i : TypeInfo} (ho : o.op = .makeSlice t x y) (hdx : cOd x = some dx) (hdy : cOd y = some dy)
    (h1 : P.underlying t = some (.slice e)) (h2 : P.info? e = some i) (hz : zeroC P e = some zs) (hsz : i.size ≠ 0)
    (hK : HeapOK K H D) (hfresh : K.β H.length = none) (hx : OnOd K S a x) (hy : OnOd K S a y) {v : V} {H' : Heap} (he : evOp S H (.mkSl i.size i.bytes zs dx dy) = some (v, H')) : OpDone P K H D (execOp a.eval o) v H' := by
  have hrx := od_rep hdx hx
  have hry := od_rep hdy hy
  obtain ⟨i', z, hi, hzz, rfl, hs, hone⟩ := zeroC_spec hz
  rw [h2] at hi; cases hi
  simp only [evOp] at he
  split at he
  · rename_i l c hl hc
    split at he
    · rename_i hcond
      obtain ⟨h0, hlc, hb, hcm⟩ := hcond
      cases he
      obtain ⟨kl, hkl⟩ := int_rep hl hrx
      obtain ⟨kc, hkc⟩ := int_rep hc hry
      have hrun := run_make (P := P) K.w t e i z h1 h2 hzz kl kc l c h0 hlc (by omega) (by omega)
      have hcells := madeCells_rep (K := K) hone l.toNat c.toNat (by omega) (by omega)
      rw [hs] at hcells
      refine OpDone.alloc (c := .slice (some ⟨K.w.heap.size, 0, none⟩) l.toNat c.toNat) (w' := K.w.alloc (.cells (madeCells z.cells (c.toNat * i.size)) e)) hK hfresh ?_ rfl rfl rfl rfl hcells.1 (.inl rfl) hcells.2.1 hcells.2.2 ?_
      · unfold execOp; rw [ho]
        simp only [hkl, hkc, Sem.run_bind, hrun, Result.andThen_ok]
        rfl
      · intro K' _ hb hh
        simp only [Rep]
        exact ⟨_, _, _, hb, rfl, by omega, .inr rfl, _, _, _, hh, by rw [size_madeCells]; omega⟩
    · cases he
  · cases he

theorem snd_buildSl {P : Program} {K : Cx} {H : Heap} {D : Nat → Prop} {S : List V} {a : Act} {o : Oper} {t e : TypeId} {n sz : Nat} {parts : Array (Nat × Operand)} {zs : List Value} {qs : List (Nat × Nat × Od)}
    (ho : o.op = .buildSlice t n parts) (h1 : P.underlying t = some (.slice e)) (h2 : sizeC P e = some sz) (hz : zeroC P e = some zs) (hsz : sz ≠ 0) (hsmall : n * sz ≤ 2 ^ 20)
    (hq : cParts (fun i => some (i * sz, sz)) parts.toList = some qs)
    (hK : HeapOK K H D) (hfresh : K.β H.length = none) (hx : ∀ p ∈ parts.toList, OnOd K S a p.2) {v : V} {H' : Heap} (he : evOp S H (.buildSl sz n zs qs) = some (v, H')) : OpDone P K H D (execOp a.eval o) v H' := by
  obtain ⟨i, z, hi, hzz, rfl, hs, hone⟩ := zeroC_spec hz
  simp only [sizeC, hi, Option.map_some, Option.some.injEq] at h2
  simp only [evOp] at he
  split at he
  · rename_i cs hf
    cases he
    have hmap : (parts.map fun x => (x.1, a.eval x.2)).toList = parts.toList.map fun p => (p.1, a.eval p.2) := by simp
    have hbase : RepO K (zeroCells z.cells.toList n) (madeCells z.cells (n * sz)).toList := by
      rw [← h2, ← hs]
      have hc := madeCells_rep (K := K) hone n n (Nat.le_refl _) (by omega)
      refine RepO.iff.2 ⟨RepL.mk (by rw [zeroCells_len, Array.length_toList, size_madeCells, Array.length_toList]) fun j u c hu hcc => ?_, fun c hcm => ?_⟩
      · obtain ⟨c', hc', hr⟩ := hc.2.2 j u hu
        rw [Array.getElem?_toList, hc'] at hcc; cases hcc; exact hr
      · obtain ⟨j, hj, rfl⟩ := List.getElem_of_mem hcm
        refine hc.2.1 j _ ?_
        rw [Array.getElem_toList]
        exact Array.getElem?_eq_getElem _
    obtain ⟨oa, hrun, hrep⟩ := fill_sound (a := a) hq hx hf hbase
    have hcells := cells_of_repO hrep
    simp only [Array.toArray_toList] at hcells
    have hlen : oa.size = n * sz := by
      have e1 := RepL.length (RepO.iff.1 hrep).1
      have e2 : ∀ (ps : List (Nat × Nat × V)) (cs0 cs1 : List V), fillV cs0 ps = some cs1 → cs1.length = cs0.length := by
        intro ps
        induction ps with
        | nil => intro cs0 cs1 h; simp only [fillV] at h; cases h; rfl
        | cons p ps ih =>
          intro cs0 cs1 h
          obtain ⟨oo, nn, u⟩ := p
          simp only [fillV] at h
          split at h
          · split at h
            · rename_i hc
              rw [ih _ _ h, splice_len (by omega)]
            · cases h
          · cases h
      have e3 : cs.length = n * z.cells.size := by rw [e2 _ _ _ hf, zeroCells_len]; simp
      simp only [Array.length_toList] at e1
      rw [e1, e3, ← h2, hs]
    refine OpDone.alloc (c := .slice (some ⟨K.w.heap.size, 0, none⟩) n n) (w' := { K.w with heap := K.w.heap.push (.cells oa e) }) hK hfresh ?_ rfl rfl rfl rfl hcells.1 (.inl rfl) hcells.2.1 hcells.2.2 ?_
    · unfold execOp; rw [ho]
      have hrun' : Instr.fill (fun i => some (i * sz, sz)) (madeCells z.cells (n * sz)) (parts.map fun x => (x.1, a.eval x.2)).toList = some oa := by rw [hmap]; exact hrun
      have hsm : ¬ (16777216 < n * sz) := by omega
      by_cases hn : n * sz = 0
      · have hm0 : madeCells z.cells (n * sz) = (Array.range (n * sz)).map ((#[] : Array Value)[· % (#[] : Array Value).size]!) := by rw [hn]; simp [madeCells, Array.range_zero']
        rw [hm0] at hrun'
        simp only [Instr.buildSlice, Sem.run_bind, run_underlying h1, sizeOf, typeInfo, run_program, Result.andThen_ok, hi, Sem.run_pure, h2]
        simp [hn] at hrun' ⊢
        simp [hrun', newRow]
      · simp [Instr.buildSlice, run_underlying h1, sizeOf, typeInfo, hi, h2, zeroValue, hzz, hsm, hn, newRow]
        have hrun'' := hrun'
        simp only [madeCells] at hrun''
        simp only [Array.toList_map] at hrun''
        simp [hrun'']
    · intro K' _ hb hh
      simp only [Rep]
      exact ⟨_, _, _, hb, rfl, Nat.le_refl _, .inr rfl, _, _, _, hh, by omega⟩
  · cases he

end Go.Proofs.Ytlahigboaeadmaa.VA
