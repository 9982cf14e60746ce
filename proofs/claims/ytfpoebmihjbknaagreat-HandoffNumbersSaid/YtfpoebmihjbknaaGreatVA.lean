/- Texts of this proof, one behind the other: V1, V2, V3, V4, V5, V6, V7, V8, V9. -/
import Derived.Test.YtfpoebmihjbknaaGreatProg
import Derived.WalkKit
import Derived.ChangeKeysEq
import Derived.Laws.Tables
import Derived.Laws.MakeOwn
import Derived.Laws.StructEq
import Derived.IntWalk
/- The values and the memory of the abstract machine 'VA', and how they stand for the model's own values and memory. -/
set_option linter.unusedVariables false
set_option linter.unusedSimpArgs false
namespace Go.Proofs.YtfpoebmihjbknaaGreat.VA
open Go
inductive V where
  | sc (v : Value)
  | agg (cs : List V)
  | tup (vs : List V)
  | sl (n : Nat) (cs : List V)
  | box (cs : List V)
  | ref (id off : Nat)
  | sref (id off n sz : Nat)
  | fn (f : Nat) (caps : List V)
  | dead
abbrev Heap := List (Option (List V))
structure Cx where
  w : World
  β : Nat → Option Nat
  N : Nat → Prop
  B : Nat
  R : Nat → Prop
def RoOK (K : Cx) (b : Nat) : Prop := ¬ K.N b ∧ (K.R b ∨ K.B ≤ b)
mutual
def Rep (K : Cx) : V → Value → Prop
  | .sc v, c => c = v
  | .agg cs, c => ∃ l : List Value, c = .agg l.toArray ∧ RepO K cs l
  | .tup vs, c => ∃ l : List Value, c = .tuple l.toArray ∧ RepL K vs l
  | .sl n cs, c => ∃ a cap, c = .slice (some a) n cap ∧ n ≤ cap ∧ (cs = [] ∨ RoOK K a.block) ∧ RepC K cs a 0
  | .box cs, c => ∃ a, c = .pointer (some a) ∧ (cs = [] ∨ RoOK K a.block) ∧ RepC K cs a 0
  | .ref id off, c => ∃ b, K.β id = some b ∧ c = .pointer (some ⟨b, off, none⟩)
  | .sref id off n sz, c => ∃ b o cap, K.β id = some b ∧ c = .slice (some ⟨b, o, none⟩) n cap ∧ n ≤ cap ∧ (cap = 0 ∨ o = off) ∧
      ∃ C e fz, K.w.heap[b]? = some (.cells C e fz) ∧ off + cap * sz ≤ C.size
  | .fn f caps, c => ∃ l : List Value, c = .func (.func f) #[] l.toArray ∧ RepL K caps l
  | .dead, _ => True
def RepL (K : Cx) : List V → List Value → Prop
  | [], l => l = []
  | v :: vs, l => ∃ c l', l = c :: l' ∧ Rep K v c ∧ RepL K vs l'
def RepO (K : Cx) : List V → List Value → Prop
  | [], l => l = []
  | v :: vs, l => ∃ c l', l = c :: l' ∧ c.oneCell' = true ∧ Rep K v c ∧ RepO K vs l'
def RepC (K : Cx) : List V → Addr → Nat → Prop
  | [], _, _ => True
  | v :: vs, a, i => (∃ c, K.w.cell? (a.add i) = some c ∧ c.oneCell' = true ∧ Rep K v c) ∧ RepC K vs a (i + 1)
end
def LiveId (H : Heap) (i : Nat) : Prop := ∃ cells, H[i]? = some (some cells)
def BlkOK (K : Cx) (b : Nat) (cells : List V) : Prop :=
  ∃ C e lo hi, K.w.heap[b]? = some (.cells C e (lo, hi)) ∧ cells.length ≤ C.size ∧ (lo = hi ∨ C.size ≤ lo) ∧
    (∀ (i : Nat) (c : Value), C[i]? = some c → c.oneCell' = true) ∧ ∀ (i : Nat) (v : V), cells[i]? = some v → ∃ c : Value, C[i]? = some c ∧ Rep K v c
structure HeapOK (K : Cx) (H : Heap) (D : Nat → Prop) : Prop where
  inj : ∀ i j b, D i → D j → K.β i = some b → K.β j = some b → i = j
  blk : ∀ i, D i → ∃ b cells, K.β i = some b ∧ H[i]? = some (some cells) ∧ BlkOK K b cells
  own : ∀ i b, D i → K.β i = some b → K.N b ∧ (K.R b ∨ K.B ≤ b)
  low : K.B ≤ K.w.heap.size
def OwnD (K : Cx) (D : Nat → Prop) (b : Nat) : Prop := ∃ i, D i ∧ K.β i = some b
structure Step (K : Cx) (H : Heap) (D : Nat → Prop) (K' : Cx) (H' : Heap) (D' : Nat → Prop) : Prop where
  B : K'.B = K.B
  R : K'.R = K.R
  os : K'.w.os = K.w.os
  tape : K'.w.tape = K.w.tape
  output : K'.w.output = K.w.output
  size : K.w.heap.size ≤ K'.w.heap.size
  len : H.length ≤ H'.length
  ext : ∀ i b, K.β i = some b → K'.β i = some b
  new : ∀ i b, K'.β i = some b → K.β i = some b ∨ (K.β i = none ∧ H.length ≤ i ∧ i < H'.length ∧ (K.w.heap.size ≤ b ∨ OwnD K D b))
  nn : ∀ b, K'.N b → K.N b ∨ K.w.heap.size ≤ b
  nk : ∀ b, K.N b → b < K.w.heap.size → ¬ OwnD K D b → K'.N b
  dd : ∀ i, D' i → D i ∨ (K.β i = none ∧ H.length ≤ i ∧ i < H'.length)
  frame : ∀ b, b < K.w.heap.size → ¬ OwnD K D b → K'.w.heap[b]? = K.w.heap[b]?
  shape : ∀ (b : Nat) (C : Array Value) (e : TypeId) (fz : Nat × Nat), K.w.heap[b]? = some (.cells C e fz) → ∃ (C' : Array Value) (fz' : Nat × Nat), K'.w.heap[b]? = some (.cells C' e fz') ∧ C'.size = C.size
theorem add_add (a : Addr) (i j : Nat) : (a.add i).add j = a.add (i + j) := by
  unfold Addr.add
  by_cases hi : i = 0
  · subst hi; simp
  · by_cases hj : j = 0
    · subst hj; simp [hi]
    · simp [hi, hj, Nat.add_assoc]
theorem add_block (a : Addr) (i : Nat) : (a.add i).block = a.block := by unfold Addr.add; split <;> rfl
theorem cell_block {w w' : World} {a : Addr} (h : w'.heap[a.block]? = w.heap[a.block]?) : w'.cell? a = w.cell? a := World.cell?_of_block h
theorem lt_of_cell {w : World} {a : Addr} {c : Value} (h : w.cell? a = some c) : a.block < w.heap.size := World.block_lt_of_cell? w a h
structure Pres (K K' : Cx) : Prop where
  ids : ∀ i b, K.β i = some b → K'.β i = some b
  ro : ∀ b, RoOK K b → b < K.w.heap.size → RoOK K' b ∧ K'.w.heap[b]? = K.w.heap[b]?
  shape : ∀ (b : Nat) (C : Array Value) (e : TypeId) (fz : Nat × Nat), K.w.heap[b]? = some (.cells C e fz) → ∃ (C' : Array Value) (fz' : Nat × Nat), K'.w.heap[b]? = some (.cells C' e fz') ∧ C'.size = C.size
theorem ro_lt {K : Cx} {v : V} {vs : List V} {a : Addr} (hr : RepC K (v :: vs) a 0) : a.block < K.w.heap.size := by
  simp only [RepC] at hr
  obtain ⟨⟨c, hcell, _⟩, _⟩ := hr
  have := lt_of_cell hcell
  rwa [add_block] at this
mutual
theorem Rep.pres {K K' : Cx} (h : Pres K K') : ∀ (v : V) (c : Value), Rep K v c → Rep K' v c
  | .sc v, c, hr => by simpa [Rep] using hr
  | .agg cs, c, hr => by
    simp only [Rep] at hr ⊢; obtain ⟨l, hc, hr⟩ := hr
    exact ⟨l, hc, RepO.pres h cs l hr⟩
  | .tup vs, c, hr => by
    simp only [Rep] at hr ⊢; obtain ⟨l, hc, hr⟩ := hr
    exact ⟨l, hc, RepL.pres h vs l hr⟩
  | .sl n cs, c, hr => by
    simp only [Rep] at hr ⊢; obtain ⟨a, cap, hc, hn, hro, hr⟩ := hr
    cases cs with
    | nil => exact ⟨a, cap, hc, hn, .inl rfl, by simp [RepC]⟩
    | cons v vs =>
      rcases hro with h0 | hro
      · cases h0
      · exact ⟨a, cap, hc, hn, .inr (h.ro _ hro (ro_lt hr)).1, RepC.pres h (v :: vs) a 0 hro hr⟩
  | .box cs, c, hr => by
    simp only [Rep] at hr ⊢; obtain ⟨a, hc, hro, hr⟩ := hr
    cases cs with
    | nil => exact ⟨a, hc, .inl rfl, by simp [RepC]⟩
    | cons v vs =>
      rcases hro with h0 | hro
      · cases h0
      · exact ⟨a, hc, .inr (h.ro _ hro (ro_lt hr)).1, RepC.pres h (v :: vs) a 0 hro hr⟩
  | .ref id off, c, hr => by
    simp only [Rep] at hr ⊢; obtain ⟨b, hb, hc⟩ := hr
    exact ⟨b, h.ids id b hb, hc⟩
  | .sref id off n sz, c, hr => by
    simp only [Rep] at hr ⊢; obtain ⟨b, o, cap, hb, hc, hn, ho, C, e, fz, hC, hsz⟩ := hr
    obtain ⟨C', fz', hC', hs'⟩ := h.shape b C e fz hC
    exact ⟨b, o, cap, h.ids id b hb, hc, hn, ho, C', e, fz', hC', by omega⟩
  | .fn f caps, c, hr => by
    simp only [Rep] at hr ⊢; obtain ⟨l, hc, hr⟩ := hr
    exact ⟨l, hc, RepL.pres h caps l hr⟩
  | .dead, _, _ => by simp [Rep]
theorem RepL.pres {K K' : Cx} (h : Pres K K') : ∀ (vs : List V) (l : List Value), RepL K vs l → RepL K' vs l
  | [], l, hr => by simpa [RepL] using hr
  | v :: vs, l, hr => by
    simp only [RepL] at hr ⊢
    obtain ⟨c, l', hc, h1, h2⟩ := hr
    exact ⟨c, l', hc, Rep.pres h v c h1, RepL.pres h vs l' h2⟩
theorem RepO.pres {K K' : Cx} (h : Pres K K') : ∀ (vs : List V) (l : List Value), RepO K vs l → RepO K' vs l
  | [], l, hr => by simpa [RepO] using hr
  | v :: vs, l, hr => by
    simp only [RepO] at hr ⊢
    obtain ⟨c, l', hc, h0, h1, h2⟩ := hr
    exact ⟨c, l', hc, h0, Rep.pres h v c h1, RepO.pres h vs l' h2⟩
theorem RepC.pres {K K' : Cx} (h : Pres K K') : ∀ (vs : List V) (a : Addr) (i : Nat), RoOK K a.block → RepC K vs a i → RepC K' vs a i
  | [], _, _, _, _ => by simp [RepC]
  | v :: vs, a, i, hro, hr => by
    simp only [RepC] at hr ⊢
    obtain ⟨⟨c, hc, h0, h1⟩, h2⟩ := hr
    have hlt := lt_of_cell hc
    have hb := (h.ro _ hro (by rw [add_block] at hlt; exact hlt)).2
    exact ⟨⟨c, (cell_block (by rw [add_block]; exact hb)).trans hc, h0, Rep.pres h v c h1⟩, RepC.pres h vs a (i + 1) hro h2⟩
end
theorem Step.pres {K K' : Cx} {H H' : Heap} {D D' : Nat → Prop} (h : Step K H D K' H' D') (ho : HeapOK K H D) : Pres K K' where
  ids := h.ext
  ro b hb hlt := by
    refine ⟨⟨fun hn => ?_, ?_⟩, h.frame b hlt fun ⟨i, hi, hb'⟩ => hb.1 (ho.own i b hi hb').1⟩
    · rcases h.nn b hn with hn | hn
      · exact hb.1 hn
      · omega
    · rw [h.R, h.B]; exact hb.2
  shape := h.shape
theorem Step.refl (K : Cx) (H : Heap) (D : Nat → Prop) : Step K H D K H D where
  B := rfl
  R := rfl
  os := rfl
  tape := rfl
  output := rfl
  size := Nat.le_refl _
  len := Nat.le_refl _
  ext _ _ h := h
  new _ _ h := .inl h
  nn _ h := .inl h
  nk _ h _ _ := h
  dd _ h := .inl h
  frame _ _ _ := rfl
  shape b C e fz h := ⟨C, fz, h, rfl⟩
theorem Step.own {K K' : Cx} {H H' : Heap} {D D' : Nat → Prop} (h : Step K H D K' H' D') (hdef : ∀ i, D i → ∃ b, K.β i = some b) (b : Nat) (hb : OwnD K' D' b) :
    OwnD K D b ∨ K.w.heap.size ≤ b := by
  obtain ⟨i, hi, hb⟩ := hb
  rcases h.dd i hi with hd | ⟨hn, _⟩
  · obtain ⟨b0, hb0⟩ := hdef i hd
    have := h.ext i b0 hb0
    rw [hb] at this
    cases this
    exact .inl ⟨i, hd, hb0⟩
  · rcases h.new i b hb with hb' | ⟨_, _, _, h3⟩
    · rw [hn] at hb'; cases hb'
    · rcases h3 with h3 | h3
      · exact .inr h3
      · exact .inl h3
theorem Step.trans {K K' K'' : Cx} {H H' H'' : Heap} {D D' D'' : Nat → Prop} (h : Step K H D K' H' D') (k : Step K' H' D' K'' H'' D'')
    (hdef : ∀ i, D i → ∃ b, K.β i = some b) : Step K H D K'' H'' D'' where
  B := k.B.trans h.B
  R := k.R.trans h.R
  os := k.os.trans h.os
  tape := k.tape.trans h.tape
  output := k.output.trans h.output
  size := Nat.le_trans h.size k.size
  len := Nat.le_trans h.len k.len
  ext i b hb := k.ext i b (h.ext i b hb)
  new i b hb := by
    have hn : K'.β i = none → K.β i = none := fun hn => by
      cases hk : K.β i with
      | none => rfl
      | some b0 => rw [h.ext i b0 hk] at hn; cases hn
    rcases k.new i b hb with hb' | ⟨h0, h1, h2, h3⟩
    · rcases h.new i b hb' with hb'' | ⟨h0, h1, h2, h3⟩
      · exact .inl hb''
      · exact .inr ⟨h0, h1, Nat.lt_of_lt_of_le h2 k.len, h3⟩
    · refine .inr ⟨hn h0, Nat.le_trans h.len h1, h2, ?_⟩
      rcases h3 with h3 | h3
      · exact .inl (Nat.le_trans h.size h3)
      · exact (h.own hdef b h3).symm
  nn b hb := by
    rcases k.nn b hb with hb | hb
    · exact h.nn b hb
    · exact .inr (Nat.le_trans h.size hb)
  nk b hb hlt hno := k.nk b (h.nk b hb hlt hno) (Nat.lt_of_lt_of_le hlt h.size) fun ho => by
    rcases h.own hdef b ho with h1 | h1
    · exact hno h1
    · omega
  dd i hi := by
    rcases k.dd i hi with hd | ⟨h0, h1, h2⟩
    · rcases h.dd i hd with hd | ⟨h0, h1, h2⟩
      · exact .inl hd
      · exact .inr ⟨h0, h1, Nat.lt_of_lt_of_le h2 k.len⟩
    · refine .inr ⟨?_, Nat.le_trans h.len h1, h2⟩
      cases hk : K.β i with
      | none => rfl
      | some b0 => rw [h.ext i b0 hk] at h0; cases h0
  frame b hlt hb := by
    rw [k.frame b (Nat.lt_of_lt_of_le hlt h.size) (fun ho => ?_), h.frame b hlt hb]
    rcases h.own hdef b ho with h1 | h1
    · exact hb h1
    · omega
  shape b C e fz hC := by
    obtain ⟨C', fz', hC', hs⟩ := h.shape b C e fz hC
    obtain ⟨C'', fz'', hC'', hs'⟩ := k.shape b C' e fz' hC'
    exact ⟨C'', fz'', hC'', hs'.trans hs⟩
mutual
/-- No reference to memory that is owned. -/
def Closed : V → Prop
  | .sc _ => True
  | .agg cs => ClosedL cs
  | .tup vs => ClosedL vs
  | .sl _ cs => ClosedL cs
  | .box cs => ClosedL cs
  | .ref _ _ => False
  | .sref _ _ _ _ => False
  | .fn _ caps => ClosedL caps
  | .dead => True
def ClosedL : List V → Prop
  | [] => True
  | v :: vs => Closed v ∧ ClosedL vs
end
mutual
theorem Rep.closed {K K' : Cx} (hw : K'.w = K.w) (hro : ∀ b, RoOK K b → RoOK K' b) : ∀ (v : V) (c : Value), Closed v → Rep K v c → Rep K' v c
  | .sc v, c, _, hr => by simpa [Rep] using hr
  | .agg cs, c, hl, hr => by
    simp only [Rep] at hr ⊢; obtain ⟨l, hc, hr⟩ := hr
    exact ⟨l, hc, RepO.closed hw hro cs l (by simpa [Closed] using hl) hr⟩
  | .tup vs, c, hl, hr => by
    simp only [Rep] at hr ⊢; obtain ⟨l, hc, hr⟩ := hr
    exact ⟨l, hc, RepL.closed hw hro vs l (by simpa [Closed] using hl) hr⟩
  | .sl n cs, c, hl, hr => by
    simp only [Rep] at hr ⊢; obtain ⟨a, cap, hc, hn, hro', hr⟩ := hr
    exact ⟨a, cap, hc, hn, hro'.imp id (hro _), RepC.closed hw hro cs a 0 (by simpa [Closed] using hl) hr⟩
  | .box cs, c, hl, hr => by
    simp only [Rep] at hr ⊢; obtain ⟨a, hc, hro', hr⟩ := hr
    exact ⟨a, hc, hro'.imp id (hro _), RepC.closed hw hro cs a 0 (by simpa [Closed] using hl) hr⟩
  | .ref id off, c, hl, _ => by simp [Closed] at hl
  | .sref id off n sz, c, hl, _ => by simp [Closed] at hl
  | .fn f caps, c, hl, hr => by
    simp only [Rep] at hr ⊢; obtain ⟨l, hc, hr⟩ := hr
    exact ⟨l, hc, RepL.closed hw hro caps l (by simpa [Closed] using hl) hr⟩
  | .dead, _, _, _ => by simp [Rep]
theorem RepL.closed {K K' : Cx} (hw : K'.w = K.w) (hro : ∀ b, RoOK K b → RoOK K' b) : ∀ (vs : List V) (l : List Value), ClosedL vs → RepL K vs l → RepL K' vs l
  | [], l, _, hr => by simpa [RepL] using hr
  | v :: vs, l, hl, hr => by
    simp only [RepL] at hr ⊢; simp only [ClosedL] at hl
    obtain ⟨c, l', hc, h1, h2⟩ := hr
    exact ⟨c, l', hc, Rep.closed hw hro v c hl.1 h1, RepL.closed hw hro vs l' hl.2 h2⟩
theorem RepO.closed {K K' : Cx} (hw : K'.w = K.w) (hro : ∀ b, RoOK K b → RoOK K' b) : ∀ (vs : List V) (l : List Value), ClosedL vs → RepO K vs l → RepO K' vs l
  | [], l, _, hr => by simpa [RepO] using hr
  | v :: vs, l, hl, hr => by
    simp only [RepO] at hr ⊢; simp only [ClosedL] at hl
    obtain ⟨c, l', hc, h0, h1, h2⟩ := hr
    exact ⟨c, l', hc, h0, Rep.closed hw hro v c hl.1 h1, RepO.closed hw hro vs l' hl.2 h2⟩
theorem RepC.closed {K K' : Cx} (hw : K'.w = K.w) (hro : ∀ b, RoOK K b → RoOK K' b) : ∀ (vs : List V) (a : Addr) (i : Nat), ClosedL vs → RepC K vs a i → RepC K' vs a i
  | [], _, _, _, _ => by simp [RepC]
  | v :: vs, a, i, hl, hr => by
    simp only [RepC] at hr ⊢; simp only [ClosedL] at hl
    obtain ⟨⟨c, hc, h0, h1⟩, h2⟩ := hr
    exact ⟨⟨c, by rw [hw]; exact hc, h0, Rep.closed hw hro v c hl.1 h1⟩, RepC.closed hw hro vs a (i + 1) hl.2 h2⟩
end
theorem RepL.length {K : Cx} : ∀ {vs : List V} {l : List Value}, RepL K vs l → l.length = vs.length
  | [], l, h => by simp only [RepL] at h; simp [h]
  | v :: vs, l, h => by
    simp only [RepL] at h; obtain ⟨c, l', rfl, _, h2⟩ := h
    simp [RepL.length h2]
theorem RepL.get {K : Cx} : ∀ {vs : List V} {l : List Value}, RepL K vs l → ∀ (i : Nat) (v : V), vs[i]? = some v → ∃ c : Value, l[i]? = some c ∧ Rep K v c
  | [], l, h, i, v, hv => by simp at hv
  | v :: vs, l, h, i, u, hu => by
    simp only [RepL] at h; obtain ⟨c, l', rfl, h1, h2⟩ := h
    cases i with
    | zero => simp at hu; subst hu; exact ⟨c, rfl, h1⟩
    | succ i => exact RepL.get h2 i u (by simpa using hu)
theorem RepL.mk {K : Cx} : ∀ {vs : List V} {l : List Value}, l.length = vs.length → (∀ (i : Nat) (v : V) (c : Value), vs[i]? = some v → l[i]? = some c → Rep K v c) → RepL K vs l
  | [], l, hl, _ => by simp only [RepL]; exact List.eq_nil_of_length_eq_zero (by simpa using hl)
  | v :: vs, [], hl, _ => by simp at hl
  | v :: vs, c :: l, hl, h => by
    simp only [RepL]
    exact ⟨c, l, rfl, h 0 v c rfl rfl, RepL.mk (by simpa using hl) fun i u d hu hd => h (i + 1) u d (by simpa using hu) (by simpa using hd)⟩
theorem RepO.iff {K : Cx} : ∀ {vs : List V} {l : List Value}, RepO K vs l ↔ RepL K vs l ∧ ∀ c ∈ l, c.oneCell' = true
  | [], l => by simp only [RepO, RepL]; constructor
                · rintro rfl; simp
                · exact fun h => h.1
  | v :: vs, l => by
    simp only [RepO, RepL]
    constructor
    · rintro ⟨c, l', rfl, h0, h1, h2⟩
      have := RepO.iff.1 h2
      exact ⟨⟨c, l', rfl, h1, this.1⟩, by simpa [h0] using this.2⟩
    · rintro ⟨⟨c, l', rfl, h1, h2⟩, h3⟩
      exact ⟨c, l', rfl, h3 c (by simp), h1, RepO.iff.2 ⟨h2, fun d hd => h3 d (by simp [hd])⟩⟩
theorem RepC.get {K : Cx} : ∀ {vs : List V} {a : Addr} {i : Nat}, RepC K vs a i → ∀ (j : Nat) (v : V), vs[j]? = some v → ∃ c, K.w.cell? (a.add (i + j)) = some c ∧ c.oneCell' = true ∧ Rep K v c
  | [], a, i, h, j, v, hv => by simp at hv
  | v :: vs, a, i, h, j, u, hu => by
    simp only [RepC] at h
    cases j with
    | zero => simp at hu; subst hu; exact h.1
    | succ j =>
      have := RepC.get h.2 j u (by simpa using hu)
      rwa [show i + 1 + j = i + (j + 1) by omega] at this
theorem RepC.mk {K : Cx} : ∀ {vs : List V} {a : Addr} {i : Nat}, (∀ (j : Nat) (v : V), vs[j]? = some v → ∃ c, K.w.cell? (a.add (i + j)) = some c ∧ c.oneCell' = true ∧ Rep K v c) → RepC K vs a i
  | [], a, i, _ => by simp [RepC]
  | v :: vs, a, i, h => by
    simp only [RepC]
    refine ⟨by simpa using h 0 v rfl, RepC.mk fun j u hu => ?_⟩
    have := h (j + 1) u (by simpa using hu)
    rwa [show i + (j + 1) = i + 1 + j by omega] at this
theorem RepC.drop {K : Cx} {vs : List V} {a : Addr} (h : RepC K vs a 0) (k : Nat) : RepC K (vs.drop k) (a.add k) 0 :=
  RepC.mk fun j v hv => by
    rw [List.getElem?_drop] at hv
    have := h.get (k + j) v hv
    simpa [add_add] using this
theorem RepC.take {K : Cx} {vs : List V} {a : Addr} {i : Nat} (h : RepC K vs a i) (k : Nat) : RepC K (vs.take k) a i :=
  RepC.mk fun j v hv => by
    rw [List.getElem?_take] at hv
    split at hv
    · exact h.get j v hv
    · cases hv
theorem ClosedL.get : ∀ {vs : List V}, ClosedL vs → ∀ v ∈ vs, Closed v
  | [], _, v, hv => by cases hv
  | u :: us, h, v, hv => by
    simp only [ClosedL] at h
    rcases List.mem_cons.1 hv with rfl | hv
    · exact h.1
    · exact ClosedL.get h.2 v hv
theorem ClosedL.mk : ∀ {vs : List V}, (∀ v ∈ vs, Closed v) → ClosedL vs
  | [], _ => by simp [ClosedL]
  | u :: us, h => by
    simp only [ClosedL]
    exact ⟨h u (by simp), ClosedL.mk fun v hv => h v (by simp [hv])⟩
end Go.Proofs.YtfpoebmihjbknaaGreat.VA

/- The compact code of the abstract machine 'VA', how it is made out of the model's code, and what its operations do. -/
namespace Go.Proofs.YtfpoebmihjbknaaGreat.VA
open Go
noncomputable section
inductive Od where
  | t (i : Nat)
  | c (v : Value)
inductive AOp where
  | mov (x : Od)
  | pick (c a b : Od)
  | alloc (zs : List Value)
  | box (x : Od)
  | build (zs : List Value) (parts : List (Nat × Nat × Od))
  | buildSl (sz n : Nat) (zs : List Value) (parts : List (Nat × Nat × Od))
  | load (k : Option Nat) (x : Od)
  | store (n : Nat) (a x : Od)
  | nilChk (x : Od)
  | bin (op : BinOp) (x y : Od)
  | eqB (neg : Bool) (x y : Od)
  | eqA (neg : Bool) (sh : List Bool) (x y : Od)
  | eqNil (neg : Bool) (x y : Od)
  | un (op : UnOp) (x : Od)
  | conv (k : IntKind) (x : Od)
  | same (x : Od)
  | mark (x : Od)
  | toStr (x : Od)
  | toBytes (x : Od)
  | mkSl (sz bytes : Nat) (zs : List Value) (len cap : Od)
  | sliceArr (n sz : Nat) (x : Od) (lo hi : Option Od)
  | sliceSl (sz : Nat) (x : Od) (lo hi : Option Od)
  | sliceStr (x : Od) (lo hi : Option Od)
  | fieldAddr (off : Nat) (x : Od)
  | field (off : Nat) (k : Option Nat) (x : Od)
  | idxArr (len sz : Nat) (x i : Od)
  | idxSl (sz : Nat) (x i : Od)
  | indexArr (len sz : Nat) (k : Option Nat) (x i : Od)
  | indexStr (x i : Od)
  | extract (x : Od) (i : Nat)
  | lenC (n : Nat)
  | lenStr (x : Od)
  | lenSl (x : Od)
  | minmax (mx : Bool) (xs : List Od)
  | append (sz bytes : Nat) (x y : Od)
  | copy (sz : Nat) (x y : Od)
  | mkFunc (f : Nat) (caps : List Od)
  | call (f : Nat) (args : List Od)
  | callv (f : Od) (args : List Od)
  | ext (f : Nat) (args : List Od)
  | bad
  | capSl (x : Od)
  | toArr (n sz : Nat) (x : Od)
  | runeStr (x : Od)
  | growN (sz bytes : Nat) (zs : List Value) (x n : Od)
  | zap (sz : Nat) (zs : List Value) (x : Od)
  | eqPn (neg : Bool) (x y : Od)
structure AOper where
  dst : Option Nat
  op : AOp
  guard : Option (Nat × Bool)
inductive ACode where
  | skip
  | region (pairs : List (Nat × Nat)) (ops : List AOper)
  | seq (a b : ACode)
  | cond (c : Od) (a b : ACode)
  | block (id : Nat) (c : ACode)
  | loop (c : ACode)
  | exit (id : Nat)
  | ret
inductive ARes where
  | tmp (t : Nat)
  | cell (t : Nat) (k : Option Nat)
def cOd : Operand → Option Od
  | .tmp t => some (.t t)
  | .const (.agg cs) => if cs.toList.all (·.oneCell') then some (.c (.agg cs)) else none
  | .const (.tuple _) => none
  | .const v => some (.c v)
  | .func f => some (.c (.func (.func f) #[] #[]))
  | .global _ => none
def cOds (l : List Operand) : Option (List Od) := l.mapM cOd
def kindOf (P : Program) (t : TypeId) : Option (Option Nat) :=
  match P.underlying t, P.info? t with
  | some (.struct _), some i => some (some i.size)
  | some (.array _ _), some i => some (some i.size)
  | some _, some i => if i.size = 1 then some none else none
  | _, _ => none
def sizeC (P : Program) (t : TypeId) : Option Nat := (P.info? t).map (·.size)
def oneL (l : List Value) : Bool := l.all (·.oneCell')
def zeroC (P : Program) (t : TypeId) : Option (List Value) :=
  match P.info? t with
  | some i => match i.zero with
    | some z => if z.cells.size = i.size && oneL z.cells.toList then some z.cells.toList else none
    | none => none
  | none => none
def cParts (off : Nat → Option (Nat × Nat)) : List (Nat × Operand) → Option (List (Nat × Nat × Od))
  | [] => some []
  | (i, x) :: rest => do
    let (o, n) ← off i
    let x ← cOd x
    let r ← cParts off rest
    pure ((o, n, x) :: r)
def cOpt : Option Operand → Option (Option Od)
  | none => some none
  | some x => (cOd x).map some
def flatFields (P : Program) (ft : TypeId → Option (List Bool)) : List Field → Nat → Option (List Bool)
  | [], _ => some []
  | f :: fs, n =>
    if f.offset = n ∧ (f.name != "_") = true then
      match ft f.type with
      | some l => (flatFields P ft fs (n + l.length)).map fun r => l ++ r
      | none => none
    else none
def flatSh (P : Program) : Nat → TypeId → Option (List Bool)
  | 0, _ => none
  | d + 1, t =>
    match P.underlying t with
    | some .bool => if sizeC P t = some 1 then some [true] else none
    | some (.int _) => if sizeC P t = some 1 then some [false] else none
    | some (.struct fs) =>
      if P.stoodInHeld t = false then
        match flatFields P (flatSh P d) fs.toList 0 with
        | some l => if sizeC P t = some l.length ∧ l ≠ [] then some l else none
        | none => none
      else none
    | some (.array n e) =>
      match flatSh P d e with
      | some l => if sizeC P t = some (n * l.length) ∧ 0 < n * l.length then some (List.replicate n l).flatten else none
      | none => none
    | _ => none
def cEqA (P : Program) (neg : Bool) (t : TypeId) (x y : Operand) : Option AOp := do
  let sh ← flatSh P 20 t
  if P.eqGuardType P.depth t then none else
  pure (.eqA neg sh (← cOd x) (← cOd y))
def cBuiltin (P : Program) (args : Array Operand) (argTypes : Array TypeId) : Builtin → Option AOp
  | .len => do
    let x ← args[0]?
    let t ← argTypes[0]?
    match P.underlying t with
    | some (.array n _) => some (.lenC n)
    | some .string => (cOd x).map .lenStr
    | some (.slice _) => (cOd x).map .lenSl
    | _ => none
  | .min => do pure (.minmax false (← cOds args.toList))
  | .max => do pure (.minmax true (← cOds args.toList))
  | .append => do
    let x ← args[0]?
    let y ← args[1]?
    let t ← argTypes[0]?
    let u ← argTypes[1]?
    match P.underlying t with
    | some (.slice e) => do
      let i ← P.info? e
      let zs ← zeroC P e
      match P.underlying u with
      | some (.slice _) | some .string =>
        if i.size = 0 || args.size != 2 then none else
        pure (.append i.size i.bytes (← cOd x) (← cOd y))
      | some (.int _) =>
        if i.size = 0 || args.size != 2 then none else
        pure (.growN i.size i.bytes zs (← cOd x) (← cOd y))
      | _ => none
    | _ => none
  | .copy => do
    let x ← args[0]?
    let y ← args[1]?
    let t ← argTypes[0]?
    match P.underlying t with
    | some (.slice e) => do
      let i ← P.info? e
      if i.size = 0 then none else
      pure (.copy i.size (← cOd x) (← cOd y))
    | _ => none
  | .cap => do
    let x ← args[0]?
    let t ← argTypes[0]?
    match P.underlying t with
    | some (.slice _) => (cOd x).map .capSl
    | _ => none
  | .clear => do
    let x ← args[0]?
    let t ← argTypes[0]?
    match P.underlying t with
    | some (.slice e) => do
      let i ← P.info? e
      let zs ← zeroC P e
      if i.size = 0 then none else
      pure (.zap i.size zs (← cOd x))
    | _ => none
  | _ => none
def Callable (P : Program) (f : Nat) : Bool :=
  match P.funcs[f]? with
  | some fn => fn.name != "runtime.NumGoroutine" && fn.body.isSome
  | none => false
def Outside (P : Program) (f : Nat) : Bool :=
  match P.funcs[f]? with
  | some fn => fn.name != "runtime.NumGoroutine" && fn.body.isNone
  | none => false
def cCall (P : Program) (c : Callee) (args : Array Operand) (argTypes : Array TypeId) : Option AOp :=
  match c with
  | .builtin b => cBuiltin P args argTypes b
  | .value (.func f) => if Callable P f then do pure (.call f (← cOds args.toList)) else if Outside P f then do pure (.ext f (← cOds args.toList)) else none
  | .value f => do pure (.callv (← cOd f) (← cOds args.toList))
  | .invoke _ _ => none
def cOp (P : Program) : Op → Option AOp
  | .move x | .assign x => (cOd x).map .mov
  | .pick c a b => do pure (.pick (← cOd c) (← cOd a) (← cOd b))
  | .alloc t => (zeroC P t).map .alloc
  | .box _ x => (cOd x).map .box
  | .build t parts => do
    let zs ← zeroC P t
    match P.underlying t with
    | some (.struct fields) => do
      let places ← fields.toList.mapM (fun f => (P.info? f.type).map fun i => (f.offset, i.size))
      pure (.build zs (← cParts (fun i => places.toArray[i]?) parts.toList))
    | some (.array _ e) => do
      let sz ← sizeC P e
      pure (.build zs (← cParts (fun i => some (i * sz, sz)) parts.toList))
    | _ => none
  | .buildSlice t n parts =>
    match P.underlying t with
    | some (.slice e) => do
      let sz ← sizeC P e
      let zs ← zeroC P e
      if sz = 0 || n * sz > 2 ^ 20 then none else
      pure (.buildSl sz n zs (← cParts (fun i => some (i * sz, sz)) parts.toList))
    | _ => none
  | .load t x => do pure (.load (← kindOf P t) (← cOd x))
  | .store t a x => do pure (.store (← sizeC P t) (← cOd a) (← cOd x))
  | .nilCheck x => (cOd x).map .nilChk
  | .binOp op t x y _ =>
    match op, P.underlying t with
    | .eql, some (.int _) | .neq, some (.int _) | .eql, some .string | .neq, some .string => do pure (.bin op (← cOd x) (← cOd y))
    | .eql, some .bool => do pure (.eqB false (← cOd x) (← cOd y))
    | .neq, some .bool => do pure (.eqB true (← cOd x) (← cOd y))
    | .eql, some (.slice _) => do pure (.eqNil false (← cOd x) (← cOd y))
    | .neq, some (.slice _) => do pure (.eqNil true (← cOd x) (← cOd y))
    | .eql, some (.pointer _) => do pure (.eqPn false (← cOd x) (← cOd y))
    | .neq, some (.pointer _) => do pure (.eqPn true (← cOd x) (← cOd y))
    | .eql, some (.struct _) | .eql, some (.array _ _) => cEqA P false t x y
    | .neq, some (.struct _) | .neq, some (.array _ _) => cEqA P true t x y
    | .eql, _ | .neq, _ => none
    | _, _ => do pure (.bin op (← cOd x) (← cOd y))
  | .unOp op _ x => (cOd x).map (.un op)
  | .convert src dst x =>
    match P.underlying src, P.underlying dst with
    | some (.int _), some (.int k) => (cOd x).map (.conv k)
    | some (.int _), some .string => (cOd x).map .runeStr
    | some .string, some .string => (cOd x).map .same
    | some (.slice _), some (.slice e) => if src = dst then match P.underlying e with
      | some (.int .u8) => (cOd x).map .mark
      | _ => none else none
    | some (.slice e), some .string => match P.underlying e with
      | some (.int .u8) => if sizeC P e = some 1 then (cOd x).map .toStr else none
      | _ => none
    | some .string, some (.slice e) => match P.underlying e with
      | some (.int .u8) => if sizeC P e = some 1 then (cOd x).map .toBytes else none
      | _ => none
    | _, _ => none
  | .makeSlice t l c =>
    match P.underlying t with
    | some (.slice e) => do
      let i ← P.info? e
      let zs ← zeroC P e
      if i.size = 0 then none else
      pure (.mkSl i.size i.bytes zs (← cOd l) (← cOd c))
    | _ => none
  | .slice t x lo hi none =>
    match P.underlying t with
    | some (.array n e) => do
      let sz ← sizeC P e
      if sz = 0 then none else
      pure (.sliceArr n sz (← cOd x) (← cOpt lo) (← cOpt hi))
    | some (.slice e) => do
      let sz ← sizeC P e
      if sz = 0 then none else
      pure (.sliceSl sz (← cOd x) (← cOpt lo) (← cOpt hi))
    | some .string => do pure (.sliceStr (← cOd x) (← cOpt lo) (← cOpt hi))
    | _ => none
  | .fieldAddr t x f =>
    match P.underlying t with
    | some (.struct fields) => do
      let f ← fields[f]?
      let n ← sizeC P f.type
      if n = 0 then none else
      pure (.fieldAddr f.offset (← cOd x))
    | _ => none
  | .field t x f =>
    match P.underlying t with
    | some (.struct fields) => do
      let f ← fields[f]?
      pure (.field f.offset (← kindOf P f.type) (← cOd x))
    | _ => none
  | .indexAddr t x i =>
    match P.underlying t with
    | some (.array n e) => do
      let sz ← sizeC P e
      if sz = 0 || n ≤ 1 then none else
      pure (.idxArr n sz (← cOd x) (← cOd i))
    | some (.slice e) => do
      let sz ← sizeC P e
      if sz = 0 then none else
      pure (.idxSl sz (← cOd x) (← cOd i))
    | _ => none
  | .index t x i =>
    match P.underlying t with
    | some (.array n e) => do
      let sz ← sizeC P e
      if sz = 0 then none else
      pure (.indexArr n sz (← kindOf P e) (← cOd x) (← cOd i))
    | some .string => do pure (.indexStr (← cOd x) (← cOd i))
    | _ => none
  | .extract x i => do pure (.extract (← cOd x) i)
  | .makeFunc (.func f) first caps => if first.isEmpty then do pure (.mkFunc f (← cOds caps.toList)) else none
  | .makeInterface _ _ => some .bad
  | .panic _ => some .bad
  | .sliceToArrayPointer t x =>
    match P.underlying t with
    | some (.array n e) => do
      let sz ← sizeC P e
      if sz = 0 || n = 0 then none else
      pure (.toArr n sz (← cOd x))
    | _ => none
  | .call c => cCall P c.callee c.args c.argTypes
  | _ => none
def cGuard (ops : Array Oper) : Option (Nat × Bool) → Option (Option (Nat × Bool))
  | none => some none
  | some (j, want) => match (ops[j]?).bind (·.dst) with
    | some d => some (some (d, want))
    | none => none
def masks : List Oper → List Nat → List Nat
  | [], acc => acc
  | o :: os, acc => masks os (acc ++ [o.after.toList.foldl (fun s e => if Region.binds .any e then s ||| 2 ^ e.on ||| acc.getD e.on 0 else s) 0])
def bef (ms : List Nat) (i j : Nat) : Bool := (ms.getD j 0).testBit i
def looks (ops : Array Oper) (o : Oper) : List Nat :=
  (o.op.operands.toList.filterMap fun | .tmp t => some t | _ => none) ++
  (match o.guard with
   | some (g, _) => ((ops[g]?).bind (·.dst)).toList
   | none => [])
def apartOps (ops : Array Oper) (x y : Oper) : Bool :=
  (match x.dst with
   | some d => !(looks ops y).contains d && y.dst != some d
   | none => true) &&
  (match y.dst with
   | some d => !(looks ops x).contains d
   | none => true)
def mayWrite : Op → Bool
  | .store .. => true
  | .call { callee := .builtin .append, .. } => true
  | .call { callee := .builtin .copy, .. } => true
  | .call { callee := .builtin .clear, .. } => true
  | .call { callee := .builtin _, .. } => false
  | .call _ => true
  | _ => false
def mayTouch : Op → Bool
  | .load .. => true
  | .slice .. => true
  | .convert .. => true
  | .call { callee := .builtin .len, .. } => false
  | .call { callee := .builtin .min, .. } => false
  | .call { callee := .builtin .max, .. } => false
  | .store .. => true
  | .call _ => true
  | _ => false
def allPairs (n : Nat) : List (Nat × Nat) := (List.range n).flatMap fun j => (List.range j).map fun i => (i, j)
def freePairs (ops : List Oper) : List (Nat × Nat) :=
  let ms := masks ops []
  (allPairs ops.length).filter fun (i, j) => !bef ms i j
def opAt (ops : List Oper) (i : Nat) : Oper := ops.getD i default
def drawOK (ops : Array Oper) (l : List Oper) (free : List (Nat × Nat)) : Bool :=
  (l.zipIdx.all fun (o, j) => o.after.toList.all fun e => !Region.binds .any e || decide (e.on < j)) &&
  free.all fun (i, j) => apartOps ops (opAt l i) (opAt l j)
def cOps (P : Program) (ops : Array Oper) : List Oper → Option (List AOper)
  | [] => some []
  | o :: rest => do
    let op ← cOp P o.op
    let g ← cGuard ops o.guard
    let r ← cOps P ops rest
    pure ({ dst := o.dst, op, guard := g } :: r)
def askedPairs (l : List Oper) (free : List (Nat × Nat)) : List (Nat × Nat) :=
  free.filter fun (i, j) => (mayWrite (opAt l i).op && mayTouch (opAt l j).op) || (mayWrite (opAt l j).op && mayTouch (opAt l i).op)
def cCode (P : Program) : Code → Option ACode
  | .skip => some .skip
  | .region _ ops draw =>
    match draw with
    | false => (cOps P ops ops.toList).map (.region [])
    | true =>
      let l := ops.toList
      let free := freePairs l
      if drawOK ops l free then (cOps P ops l).map (.region (askedPairs l free)) else none
  | .seq a b => do pure (.seq (← cCode P a) (← cCode P b))
  | .cond c a b => do pure (.cond (← cOd c) (← cCode P a) (← cCode P b))
  | .block id c => (cCode P c).map (.block id)
  | .loop c => (cCode P c).map .loop
  | .exit id => some (.exit id)
  | .ret => some .ret
  | _ => none
def cRes (P : Program) : List ResultVar → Option (List ARes)
  | [] => some []
  | .tmp t :: r => do pure (.tmp t :: (← cRes P r))
  | .cell t ty :: r => do pure (.cell t (← kindOf P ty) :: (← cRes P r))
end
end Go.Proofs.YtfpoebmihjbknaaGreat.VA

/- What the operations of the compact code do, and the abstract machine's own 'weakest precondition'. -/
namespace Go.Proofs.YtfpoebmihjbknaaGreat.VA
open Go
noncomputable section
def constV : Value → V
  | .agg cs => .agg (cs.toList.map .sc)
  | .func (.func f) first caps => if first.isEmpty && caps.isEmpty then .fn f [] else .sc (.func (.func f) first caps)
  | v => .sc v
def Od.ev (S : List V) : Od → V
  | .t i => S.getD i .dead
  | .c v => constV v
def blkAt (H : Heap) (id : Nat) : Option (List V) := H.getD id none
def cellsV : V → Option (List V)
  | .sc v => if v.oneCell' = true then some [.sc v] else none
  | .agg cs => some cs
  | .tup _ => none
  | .dead => none
  | v => some [v]
def rd (k : Option Nat) (cells : List V) (off : Nat) : Option V :=
  match k with
  | none => cells[off]?
  | some n => if off + n ≤ cells.length then some (.agg ((cells.drop off).take n)) else none
def splice (cells : List V) (off : Nat) (new : List V) : List V := cells.take off ++ (new ++ cells.drop (off + new.length))
def pureV : Sem Value → Option Value
  | .pure v => some v
  | _ => none
def evBin (op : BinOp) : V → V → Option V
  | .sc (.int k a), .sc (.int k' b) => (pureV (binOp op 0 (.int k a) (.int k' b))).map .sc
  | .sc (.string a), .sc (.string b) => (pureV (binOp op 0 (.string a) (.string b))).map .sc
  | _, _ => none
def eqW : List Bool → List Value → List Value → Option Bool
  | [], [], [] => some true
  | false :: s, .int k a :: xs, .int k' b :: ys => if k = k' then (eqW s xs ys).map fun r => a == b && r else none
  | true :: s, .bool a :: xs, .bool b :: ys => (eqW s xs ys).map fun r => a == b && r
  | _, _, _ => none
def scs : List V → Option (List Value)
  | [] => some []
  | .sc v :: r => (scs r).map (v :: ·)
  | _ => none
def evEqA (sh : List Bool) : V → V → Option Bool
  | .agg xs, .agg ys => match scs xs, scs ys with
    | some xs, some ys => eqW sh xs ys
    | _, _ => none
  | _, _ => none
def evEqNil : V → V → Option Bool
  | x, .sc (.slice none _ _) => match x with
    | .sc (.slice none _ _) => some true
    | .sl _ _ => some false
    | .sref _ _ _ _ => some false
    | _ => none
  | _, _ => none
def evEqPn : V → V → Option Bool
  | x, .sc (.pointer none) => match x with
    | .sc (.pointer none) => some true
    | .ref _ _ => some false
    | .box _ => some false
    | _ => none
  | _, _ => none
def strOf : List V → Option (List UInt8)
  | [] => some []
  | .sc (.int .u8 n) :: r => (strOf r).map (UInt8.ofNat n.toNat :: ·)
  | _ => none
def intOf? : V → Option Int
  | .sc (.int _ i) => some i
  | _ => none
def u8V (b : UInt8) : V := .sc (.int .u8 b.toNat)
def slCells (H : Heap) (sz : Nat) : V → Option (Nat × List V)
  | .sc (.slice none 0 0) => some (0, [])
  | .sl n cs => if cs.length = n * sz then some (n, cs) else none
  | .sref id off n sz' =>
    match blkAt H id with
    | some cells => if sz' = sz ∧ off + n * sz ≤ cells.length then some (n, (cells.drop off).take (n * sz)) else none
    | none => none
  | _ => none
def srcCells (H : Heap) (sz : Nat) : V → Option (Nat × List V)
  | .sc (.string s) => if sz = 1 then some (s.size, s.data.toList.map u8V) else none
  | v => slCells H sz v
def fillV : List V → List (Nat × Nat × V) → Option (List V)
  | cs, [] => some cs
  | cs, (off, n, v) :: rest =>
    match cellsV v with
    | some l => if l.length = n ∧ off + n ≤ cs.length then fillV (splice cs off l) rest else none
    | none => none
def evParts (S : List V) (parts : List (Nat × Nat × Od)) : List (Nat × Nat × V) := parts.map fun p => (p.1, p.2.1, p.2.2.ev S)
def zeroCells (zs : List Value) (n : Nat) : List V := (List.replicate n (zs.map V.sc)).flatten
def bnd (S : List V) (o : Option Od) (dflt mx : Nat) : Option Nat :=
  match o with
  | none => some dflt
  | some x => match intOf? (x.ev S) with
    | some i => if 0 ≤ i ∧ i ≤ mx then some i.toNat else none
    | none => none
def allInts : List V → Option (List Value)
  | [] => some []
  | .sc (.int k n) :: r => (allInts r).map (.int k n :: ·)
  | _ => none
def evOp (S : List V) (H : Heap) : AOp → Option (V × Heap)
  | .mov x => some (x.ev S, H)
  | .pick c a b => match c.ev S with
    | .sc (.bool t) => some (if t then a.ev S else b.ev S, H)
    | _ => none
  | .alloc zs => some (.ref H.length 0, H ++ [some (zs.map .sc)])
  | .box x => match cellsV (x.ev S) with
    | some l => some (.ref H.length 0, H ++ [some l])
    | none => none
  | .build zs parts => match fillV (zs.map .sc) (evParts S parts) with
    | some cs => some (.agg cs, H)
    | none => none
  | .buildSl sz n zs parts => match fillV (zeroCells zs n) (evParts S parts) with
    | some cs => some (.sref H.length 0 n sz, H ++ [some cs])
    | none => none
  | .load k x => match x.ev S with
    | .ref id off => match blkAt H id with
      | some cells => (rd k cells off).map fun v => (v, H)
      | none => none
    | .box cs => (rd k cs 0).map fun v => (v, H)
    | _ => none
  | .store n a x => match a.ev S, cellsV (x.ev S) with
    | .ref id off, some l => match blkAt H id with
      | some cells => if l.length = n ∧ off + n ≤ cells.length then some (.dead, H.set id (some (splice cells off l))) else none
      | none => none
    | _, _ => none
  | .nilChk x => match x.ev S with
    | .ref id off => some (.ref id off, H)
    | .box cs => some (.box cs, H)
    | .fn f caps => some (.fn f caps, H)
    | _ => none
  | .bin op x y => (evBin op (x.ev S) (y.ev S)).map fun v => (v, H)
  | .eqB neg x y => match x.ev S, y.ev S with
    | .sc (.bool a), .sc (.bool b) => some (.sc (.bool (if neg then !(a == b) else a == b)), H)
    | _, _ => none
  | .eqA neg sh x y => (evEqA sh (x.ev S) (y.ev S)).map fun b => (.sc (.bool (if neg then !b else b)), H)
  | .eqNil neg x y => (evEqNil (x.ev S) (y.ev S)).map fun b => (.sc (.bool (if neg then !b else b)), H)
  | .un op x => match x.ev S with
    | .sc (.int k n) => (pureV (Op.unary op (.int k n))).map fun v => (.sc v, H)
    | .sc (.bool b) => (pureV (Op.unary op (.bool b))).map fun v => (.sc v, H)
    | _ => none
  | .conv k x => match x.ev S with
    | .sc (.int _ n) => some (.sc (.int k (k.wrap n)), H)
    | _ => none
  | .same x => match x.ev S with
    | .sc (.string s) => some (.sc (.string s), H)
    | _ => none
  | .mark x => match x.ev S with
    | .sref id off n sz => match blkAt H id with
      | some _ => some (.sref id off n sz, H)
      | none => none
    | _ => none
  | .toStr x => match slCells H 1 (x.ev S) with
    | some (_, cs) => (strOf cs).map fun l => (.sc (.string ⟨l.toArray⟩), H)
    | none => none
  | .toBytes x => match x.ev S with
    | .sc (.string s) => if s.size ≤ 2 ^ 46 then some (.sref H.length 0 s.size 1, H ++ [some (s.data.toList.map u8V)]) else none
    | _ => none
  | .mkSl sz bytes zs l c => match intOf? (l.ev S), intOf? (c.ev S) with
    | some l, some c => if 0 ≤ l ∧ l ≤ c ∧ bytes * c ≤ 2 ^ 47 ∧ c ≤ 2 ^ 47 then some (.sref H.length 0 l.toNat sz, H ++ [some (zeroCells zs l.toNat)]) else none
    | _, _ => none
  | .sliceArr n sz x lo hi => match bnd S hi n n with
    | some h => match bnd S lo 0 h with
      | some l => match x.ev S with
        | .ref id off => match blkAt H id with
          | some cells => if off + n * sz ≤ cells.length then some (.sref id (off + l * sz) (h - l) sz, H) else none
          | none => none
        | .box cs => if n * sz ≤ cs.length then some (.sl (h - l) ((cs.drop (l * sz)).take ((h - l) * sz)), H) else none
        | _ => none
      | none => none
    | none => none
  | .sliceSl sz x lo hi => match x.ev S with
    | .sc (.slice none 0 0) => match bnd S hi 0 0 with
      | some h => match bnd S lo 0 h with
        | some _ => some (.sc (.slice none 0 0), H)
        | none => none
      | none => none
    | .sl n cs => match bnd S hi n n with
      | some h => match bnd S lo 0 h with
        | some l => if cs.length = n * sz then some (.sl (h - l) ((cs.drop (l * sz)).take ((h - l) * sz)), H) else none
        | none => none
      | none => none
    | .sref id off n sz' => match bnd S hi n n with
      | some h => match bnd S lo 0 h with
        | some l => if sz' = sz then some (.sref id (off + l * sz) (h - l) sz, H) else none
        | none => none
      | none => none
    | _ => none
  | .sliceStr x lo hi => match x.ev S with
    | .sc (.string s) => match bnd S hi s.size s.size with
      | some h => match bnd S lo 0 h with
        | some l => some (.sc (.string (s.extract l h)), H)
        | none => none
      | none => none
    | _ => none
  | .fieldAddr off x => match x.ev S with
    | .ref id o => some (.ref id (o + off), H)
    | .box cs => some (.box (cs.drop off), H)
    | _ => none
  | .field off k x => match x.ev S with
    | .agg cs => (rd k cs off).map fun v => (v, H)
    | _ => none
  | .idxArr n sz x i => match intOf? (i.ev S) with
    | some i => if 0 ≤ i ∧ i < n then match x.ev S with
        | .ref id off => some (.ref id (off + i.toNat * sz), H)
        | .box cs => some (.box (cs.drop (i.toNat * sz)), H)
        | _ => none
      else none
    | none => none
  | .idxSl sz x i => match intOf? (i.ev S), x.ev S with
    | some i, .sref id off n sz' => if 0 ≤ i ∧ i < n ∧ sz' = sz then some (.ref id (off + i.toNat * sz), H) else none
    | some i, .sl n cs => if 0 ≤ i ∧ i < n then some (.box (cs.drop (i.toNat * sz)), H) else none
    | _, _ => none
  | .indexArr n sz k x i => match intOf? (i.ev S), x.ev S with
    | some i, .agg cs => if 0 ≤ i ∧ i < n then (rd k cs (i.toNat * sz)).map fun v => (v, H) else none
    | _, _ => none
  | .indexStr x i => match intOf? (i.ev S), x.ev S with
    | some i, .sc (.string s) => if 0 ≤ i then (s.data.toList[i.toNat]?).map fun b => (u8V b, H) else none
    | _, _ => none
  | .extract x i => match x.ev S with
    | .tup vs => (vs[i]?).map fun v => (v, H)
    | _ => none
  | .lenC n => some (.sc (.int .i64 n), H)
  | .lenStr x => match x.ev S with
    | .sc (.string s) => some (.sc (.int .i64 s.size), H)
    | _ => none
  | .lenSl x => match x.ev S with
    | .sc (.slice none 0 0) => some (.sc (.int .i64 0), H)
    | .sl n _ => some (.sc (.int .i64 n), H)
    | .sref _ _ n _ => some (.sc (.int .i64 n), H)
    | _ => none
  | .minmax mx xs => match allInts (xs.map (·.ev S)) with
    | some l => (pureV (if mx then Builtin.max_ #[] 0 l.toArray else Builtin.min_ #[] 0 l.toArray)).map fun v => (.sc v, H)
    | none => none
  | .append sz bytes x y => match srcCells H sz (y.ev S) with
    | some (m, ys) => match x.ev S with
      | .sc (.slice none 0 0) =>
        if m = 0 then some (.sc (.slice none 0 0), H)
        else if m * bytes ≤ 2 ^ 47 ∧ m ≤ 2 ^ 47 then some (.sref H.length 0 m sz, H ++ [some ys]) else none
      | .sref id off n sz' => match blkAt H id with
        | some cells =>
          if off = 0 ∧ sz' = sz ∧ n * sz ≤ cells.length ∧ (n + m) * bytes ≤ 2 ^ 47 ∧ n + m ≤ 2 ^ 47 then
            some (.sref H.length 0 (n + m) sz, H.set id none ++ [some (cells.take (n * sz) ++ ys)])
          else none
        | none => none
      | _ => none
    | none => none
  | .copy sz x y => match srcCells H sz (y.ev S), x.ev S with
    | some (m, ys), .sref id off n sz' => match blkAt H id with
      | some cells => if sz' = sz ∧ off + n * sz ≤ cells.length then
          some (.sc (.int .i64 (min m n : Nat)), H.set id (some (splice cells off (ys.take (min m n * sz)))))
        else none
      | none => none
    | _, _ => none
  | .eqPn neg x y => (evEqPn (x.ev S) (y.ev S)).map fun b => (.sc (.bool (if neg then !b else b)), H)
  | .zap sz zs x => match x.ev S with
    | .sc (.slice none 0 0) => some (.dead, H)
    | .sref id off n sz' => match blkAt H id with
      | some cells => if sz' = sz ∧ off + n * sz ≤ cells.length then some (.dead, H.set id (some (splice cells off (zeroCells zs n)))) else none
      | none => none
    | _ => none
  | .mkFunc f caps => some (.fn f (caps.map (·.ev S)), H)
  | .call _ _ => none
  | .callv _ _ => none
  | .ext _ _ => none
  | .bad => none
  | .capSl x => match x.ev S with
    | .sc (.slice none 0 0) => some (.sc (.int .i64 0), H)
    | _ => none
  | .runeStr x => match x.ev S with
    | .sc (.int _ n) => some (.sc (.string (Utf8.encode n)), H)
    | _ => none
  | .growN sz bytes zs x y => match x.ev S, intOf? (y.ev S) with
    | .sc (.slice none 0 0), some n => if 1 ≤ n ∧ n * bytes ≤ 2 ^ 47 ∧ n ≤ 2 ^ 47 then some (.sref H.length 0 n.toNat sz, H ++ [some (zeroCells zs n.toNat)]) else none
    | _, _ => none
  | .toArr n sz x => match x.ev S with
    | .sl m cs => if n ≤ m then some (.box cs, H) else none
    | .sref id off m sz' => if 0 < n ∧ n ≤ m ∧ sz' = sz then some (.ref id off, H) else none
    | _ => none
def idV : V → List Nat
  | .ref id _ => [id]
  | .sref id _ _ _ => [id]
  | _ => []
def footOp (S : List V) : AOp → List Nat
  | .load _ x => idV (x.ev S)
  | .store _ a _ => idV (a.ev S)
  | .mark x => idV (x.ev S)
  | .toStr x => idV (x.ev S)
  | .sliceArr _ _ x _ _ => idV (x.ev S)
  | .append _ _ x y => idV (x.ev S) ++ idV (y.ev S)
  | .copy _ x y => idV (x.ev S) ++ idV (y.ev S)
  | .zap _ _ x => idV (x.ev S)
  | _ => []
def wrOp (S : List V) : AOp → List Nat
  | .store _ a _ => idV (a.ev S)
  | .append _ _ x _ => idV (x.ev S)
  | .copy _ x _ => idV (x.ev S)
  | .zap _ _ x => idV (x.ev S)
  | _ => []
def kap (H : Heap) : Nat → Prop := fun i => LiveId H i
def C (P : Program) (f : Nat) (args : List V) (Hin : List (List V)) (r : V) (Hout : Heap) : Prop :=
  ∀ (K : Cx) (vs : List Value), K.B = K.w.heap.size → HeapOK K (Hin.map some) (kap (Hin.map some)) → (∀ i b, K.β i = some b → i < Hin.length) → RepL K args vs →
    Calls P f vs.toArray K.w fun e w' => ∃ c K', e = .returned c ∧ K'.w = w' ∧ HeapOK K' Hout (kap Hout) ∧ (∀ i b, K'.β i = some b → i < Hout.length) ∧
      Step K (Hin.map some) (kap (Hin.map some)) K' Hout (kap Hout) ∧ Rep K' r c
mutual
/-- References under other numbers. -/
def renV (ρ : Nat → Nat) : V → V
  | .sc v => .sc v
  | .agg cs => .agg (renL ρ cs)
  | .tup vs => .tup (renL ρ vs)
  | .sl n cs => .sl n (renL ρ cs)
  | .box cs => .box (renL ρ cs)
  | .ref id off => .ref (ρ id) off
  | .sref id off n sz => .sref (ρ id) off n sz
  | .fn f caps => .fn f (renL ρ caps)
  | .dead => .dead
def renL (ρ : Nat → Nat) : List V → List V
  | [] => []
  | v :: vs => renV ρ v :: renL ρ vs
end
mutual
/-- No read-only memory in it (but empty rows). -/
def NoRO : V → Prop
  | .sc _ => True
  | .agg cs => NoROL cs
  | .tup vs => NoROL vs
  | .sl _ cs => cs = []
  | .box cs => cs = []
  | .ref _ _ => True
  | .sref _ _ _ _ => True
  | .fn _ caps => NoROL caps
  | .dead => True
def NoROL : List V → Prop
  | [] => True
  | v :: vs => NoRO v ∧ NoROL vs
end
def NoROH (H : Heap) : Prop := ∀ (i : Nat) cells, H[i]? = some (some cells) → NoROL cells
mutual
/-- The owned blocks that a value names. -/
def idsIn : V → List Nat
  | .ref id _ => [id]
  | .sref id _ _ _ => [id]
  | .agg cs => idsInL cs
  | .tup vs => idsInL vs
  | .fn _ caps => idsInL caps
  | _ => []
def idsInL : List V → List Nat
  | [] => []
  | v :: vs => idsIn v ++ idsInL vs
end
def Named (H : Heap) (args : List V) (ids : List Nat) : Prop :=
  ∀ (k id : Nat), ids[k]? = some id → id ∈ idsInL args ∨ ∃ (k' id' : Nat) (cells : List V), k' < k ∧ ids[k']? = some id' ∧ blkAt H id' = some cells ∧ id ∈ idsInL cells
def ρof (ids : List Nat) (n : Nat) (k : Nat) : Nat := if k < ids.length then ids.getD k 0 else n + (k - ids.length)
def Seen1 (H : Heap) (ids bs : List Nat) (v u : V) : Prop :=
  (Closed v ∧ u = v) ∨ ∃ (id off n sz : Nat) (cells : List V), v = .sref id off n sz ∧ id ∉ ids ∧ id ∈ bs ∧ blkAt H id = some cells ∧ off + n * sz ≤ cells.length ∧ ClosedL ((cells.drop off).take (n * sz)) ∧ u = .sl n ((cells.drop off).take (n * sz))
def SeenL (H : Heap) (ids bs : List Nat) : List V → List V → Prop
  | [], us => us = []
  | v :: vs, us => ∃ u us', us = u :: us' ∧ Seen1 H ids bs v u ∧ SeenL H ids bs vs us'
mutual
/-- An argument as the callee sees it: blocks 'ids' are handed over; of others ('bs') what is in them is shown. -/
def ArgRel (H : Heap) (ids bs : List Nat) : V → V → Prop
  | .sc v, a => a = .sc v
  | .agg cs, a => ∃ cs', a = .agg cs' ∧ ArgRelL H ids bs cs cs'
  | .sl n cs, a => a = .sl n cs ∧ ClosedL cs
  | .box cs, a => a = .box cs ∧ ClosedL cs
  | .ref id off, a => ∃ k, ids[k]? = some id ∧ a = .ref k off
  | .sref id off n sz, a => (∃ k, ids[k]? = some id ∧ a = .sref k off n sz) ∨
      (id ∉ ids ∧ id ∈ bs ∧ ∃ cells cells', blkAt H id = some cells ∧ off + n * sz ≤ cells.length ∧ SeenL H ids bs ((cells.drop off).take (n * sz)) cells' ∧ a = .sl n cells')
  | .fn f caps, a => ∃ cs', a = .fn f cs' ∧ ArgRelL H ids bs caps cs'
  | .tup vs, a => ∃ vs', a = .tup vs' ∧ ArgRelL H ids bs vs vs'
  | .dead, a => a = .dead
def ArgRelL (H : Heap) (ids bs : List Nat) : List V → List V → Prop
  | [], us => us = []
  | v :: vs, us => ∃ a us', us = a :: us' ∧ ArgRel H ids bs v a ∧ ArgRelL H ids bs vs us'
end
def putBack (H : Heap) (ρ : Nat → Nat) : List Nat → Heap → Heap
  | [], out => H ++ out.map (Option.map (renL ρ))
  | id :: ids, [] => putBack (H.set id none) ρ ids []
  | id :: ids, o :: out => putBack (H.set id (o.map (renL ρ))) ρ ids out
def CallRel (P : Program) (f : Nat) (H : Heap) (args : List V) (v : V) (H' : Heap) (F W : List Nat) : Prop :=
  ∃ (ids bs : List Nat) (args' : List V) (Hin : List (List V)) (r : V) (Hout : Heap),
    C P f args' Hin r Hout ∧ ids.Nodup ∧ Hin.length = ids.length ∧ ids.length ≤ Hout.length ∧
    (∀ (k id : Nat), ids[k]? = some id → ∃ cells cells', Hin[k]? = some cells' ∧ blkAt H id = some cells ∧ ArgRelL H ids [] cells cells') ∧
    Named H args ids ∧ (∀ id ∈ bs, (id ∈ idsInL args ∨ ∃ id' ∈ bs, id' ∈ idsInL args ∧ ∃ cells, blkAt H id' = some cells ∧ id ∈ idsInL cells) ∧ ∃ cells, blkAt H id = some cells) ∧ ArgRelL H ids bs args args' ∧ (bs ≠ [] → NoRO r ∧ NoROH Hout) ∧
    v = renV (ρof ids H.length) r ∧ H' = putBack H (ρof ids H.length) ids Hout ∧ F = ids ++ bs ∧ W = ids
def ExtRel (P : Program) (f : Nat) (args : List V) (v : V) : Prop :=
  ∀ (K : Cx) (vs : List Value), RepL K args vs → ∃ c, (callFunc f vs.toArray).run P K.w = .ok (.value c) K.w ∧ Rep K v c
def EvOp (P : Program) (S : List V) (H : Heap) (op : AOp) (v : V) (H' : Heap) (F W : List Nat) : Prop :=
  match op with
  | .call f args => CallRel P f H (args.map (·.ev S)) v H' F W
  | .callv f args =>
    match f.ev S with
    | .fn g caps => Callable P g = true ∧ CallRel P g H (args.map (·.ev S) ++ caps) v H' F W
    | _ => False
  | .ext f args => ExtRel P f (args.map (·.ev S)) v ∧ H' = H ∧ F = [] ∧ W = []
  | op => evOp S H op = some (v, H') ∧ F = footOp S op ∧ W = wrOp S op
structure St where
  S : List V
  H : Heap
inductive AExit where
  | normal
  | exit (id : Nat)
  | ret
def putS (S : List V) (dst : Option Nat) (v : V) : List V :=
  match dst with
  | some d => S.set d v
  | none => S
def RunOps (P : Program) (Q : List V → Heap → List (List Nat × List Nat) → Prop) : List AOper → List V → Heap → List (List Nat × List Nat) → Prop
  | [], S, H, FW => Q S H FW
  | o :: os, S, H, FW =>
    match o.guard with
    | none => ∃ v H' F W, EvOp P S H o.op v H' F W ∧ RunOps P Q os (putS S o.dst v) H' (FW ++ [(F, W)])
    | some (t, want) => (S.getD t .dead = .sc (.bool want) ∧ ∃ v H' F W, EvOp P S H o.op v H' F W ∧ RunOps P Q os (putS S o.dst v) H' (FW ++ [(F, W)])) ∨
        ((S.getD t .dead = .sc (.bool (!want)) ∨ S.getD t .dead = .sc undef) ∧ RunOps P Q os (putS S o.dst (.sc undef)) H (FW ++ [([], [])]))
def disj (a b : List Nat) : Bool := a.all fun x => !b.contains x
def chk (FW : List (List Nat × List Nat)) (pairs : List (Nat × Nat)) : Bool :=
  pairs.all fun (i, j) => disj (FW.getD i ([], [])).2 (FW.getD j ([], [])).1 && disj (FW.getD j ([], [])).2 (FW.getD i ([], [])).1
def frzV (id : Nat) (cells : List V) : V → V
  | .ref i off => if i = id then .box (cells.drop off) else .ref i off
  | .sref i off n sz => if i = id then (if off + n * sz ≤ cells.length then .sl n ((cells.drop off).take (n * sz)) else .dead) else .sref i off n sz
  | v => v
def KeepS (H : Heap) (sel : List Nat) : List V → List V → Prop
  | [], [] => True
  | v :: vs, a :: us => (a = .dead ∨ ArgRel H sel [] v a) ∧ KeepS H sel vs us
  | _, _ => False
def KeepH (H : Heap) (sel : List Nat) : List Nat → Heap → Prop
  | [], [] => True
  | _ :: ids, none :: H' => KeepH H sel ids H'
  | id :: ids, some cells' :: H' => (∃ cells, blkAt H id = some cells ∧ ArgRelL H sel [] cells cells') ∧ KeepH H sel ids H'
  | _, _ => False
inductive Weak (m0 : Nat) : St → St → Prop where
  | refl (σ : St) : Weak m0 σ σ
  | frz (σ : St) (id : Nat) (cells : List V) (h : blkAt σ.H id = some cells) : Weak m0 σ ⟨σ.S.map (frzV id cells), σ.H.set id none⟩
  | trans {a b c : St} (h : Weak m0 a b) (k : Weak m0 b c) : Weak m0 a c
  | ren (σ : St) (S' : List V) (H' : Heap) (sel : List Nat) (hnd : sel.Nodup) (hlo : ∀ k, k < m0 → sel[k]? = some k) (hS : KeepS σ.H sel σ.S S') (hH : KeepH σ.H sel sel H') : Weak m0 σ ⟨S', H'⟩
def wpA (P : Program) (m0 : Nat) : ACode → (AExit → St → Prop) → St → Prop
  | .skip, Q, σ => Q .normal σ
  | .region pairs ops, Q, σ => ∃ σ', Weak m0 σ σ' ∧ RunOps P (fun S H FW => chk FW pairs = true ∧ Q .normal ⟨S, H⟩) ops σ'.S σ'.H []
  | .seq a b, Q, σ => wpA P m0 a (fun e σ' => match e with | .normal => wpA P m0 b Q σ' | e => Q e σ') σ
  | .cond c a b, Q, σ => ∃ t, c.ev σ.S = .sc (.bool t) ∧ (t = true → wpA P m0 a Q σ) ∧ (t = false → wpA P m0 b Q σ)
  | .block id c, Q, σ => wpA P m0 c (fun e σ' => match e with | .exit i => if i = id then Q .normal σ' else Q (.exit i) σ' | e => Q e σ') σ
  | .loop c, Q, σ => ∃ (I : Nat → St → Prop) (m : Nat) (σ' : St), Weak m0 σ σ' ∧ I m σ' ∧
      ∀ n σ, I n σ → wpA P m0 c (fun e σ' => match e with | .normal => ∃ n' σ'', n' < n ∧ Weak m0 σ' σ'' ∧ I n' σ'' | e => Q e σ') σ
  | .exit id, Q, σ => Q (.exit id) σ
  | .ret, Q, σ => Q .ret σ
def resV (S : List V) (H : Heap) : ARes → Option V
  | .tmp t => some (S.getD t .dead)
  | .cell t k => match S.getD t .dead with
    | .ref id off => match blkAt H id with
      | some cells => rd k cells off
      | none => none
    | _ => none
def resL (S : List V) (H : Heap) : List ARes → Option (List V)
  | [] => some []
  | r :: rs => match resV S H r, resL S H rs with
    | some v, some vs => some (v :: vs)
    | _, _ => none
def resAll (S : List V) (H : Heap) (rs : List ARes) : Option V :=
  match resL S H rs with
  | some [v] => some v
  | some vs => some (.tup vs)
  | none => none
def OutOK (n : Nat) (H : Heap) (v r : V) (Hout : Heap) : Prop :=
  ∃ sel bs : List Nat, sel.Nodup ∧ sel.length = Hout.length ∧ n ≤ Hout.length ∧ (∀ k, k < n → sel[k]? = some k) ∧ (∀ id, id ∈ bs → ∃ cells, blkAt H id = some cells) ∧ ArgRel H sel bs v r ∧
    ∀ (k : Nat) cells', Hout[k]? = some (some cells') → ∃ id cells, sel[k]? = some id ∧ blkAt H id = some cells ∧ ArgRelL H sel bs cells cells'
end
end Go.Proofs.YtfpoebmihjbknaaGreat.VA

/- The memory part of the soundness of 'VA': new blocks, stores, loads. -/
set_option linter.unusedVariables false
set_option linter.unusedSimpArgs false
namespace Go.Proofs.YtfpoebmihjbknaaGreat.VA
open Go
def Dn (D : Nat → Prop) (H H' : Heap) : Nat → Prop := fun i => (D i ∨ H.length ≤ i) ∧ LiveId H' i
theorem HeapOK.live {K : Cx} {H : Heap} {D : Nat → Prop} (h : HeapOK K H D) {i : Nat} (hi : D i) : LiveId H i := by
  obtain ⟨b, cells, _, hc, _⟩ := h.blk i hi
  exact ⟨cells, hc⟩
theorem LiveId.lt {H : Heap} {i : Nat} (h : LiveId H i) : i < H.length := by
  obtain ⟨c, hc⟩ := h
  exact (List.getElem?_eq_some_iff.1 hc).1
theorem HeapOK.def {K : Cx} {H : Heap} {D : Nat → Prop} (h : HeapOK K H D) : ∀ i, D i → ∃ b, K.β i = some b := fun i hi => by
  obtain ⟨b, _, hb, _⟩ := h.blk i hi
  exact ⟨b, hb⟩
theorem Dn_self {K : Cx} {H : Heap} {D : Nat → Prop} (h : HeapOK K H D) (i : Nat) : Dn D H H i ↔ D i := by
  constructor
  · rintro ⟨h1 | h1, h2⟩
    · exact h1
    · have := h2.lt; omega
  · exact fun hi => ⟨.inl hi, h.live hi⟩
theorem Dn_refl {K : Cx} {H : Heap} {D : Nat → Prop} (h : HeapOK K H D) : Dn D H H = D := funext fun i => propext (Dn_self h i)
theorem blkAt_iff {H : Heap} {id : Nat} {cells : List V} : blkAt H id = some cells ↔ H[id]? = some (some cells) := by
  unfold blkAt
  rw [List.getD_eq_getElem?_getD]
  cases h : H[id]? with
  | none => simp
  | some o => simp
theorem RepC.of_blk {K : Cx} {b : Nat} {cells : List V} (h : BlkOK K b cells) : RepC K cells ⟨b, 0, none⟩ 0 := by
  obtain ⟨C, e, lo, hi, hC, _, _, h1, hc⟩ := h
  refine RepC.mk fun j v hv => ?_
  obtain ⟨c, hcj, hr⟩ := hc j v hv
  refine ⟨c, ?_, h1 j c hcj, hr⟩
  have : (⟨b, 0, none⟩ : Addr).add (0 + j) = ⟨b, j, none⟩ := by unfold Addr.add; split <;> simp_all
  rw [this]
  simp [World.cell?, hC, hcj]
theorem BlkOK.pres {K K' : Cx} {b : Nat} {cells : List V} (h : BlkOK K b cells) (hp : Pres K K') (hb : K'.w.heap[b]? = K.w.heap[b]?) : BlkOK K' b cells := by
  obtain ⟨C, e, lo, hi, hC, h2, h3, h1, hc⟩ := h
  refine ⟨C, e, lo, hi, by rw [hb]; exact hC, h2, h3, h1, fun i v hv => ?_⟩
  obtain ⟨c, hcj, hr⟩ := hc i v hv
  exact ⟨c, hcj, Rep.pres hp v c hr⟩
theorem same_sound {K : Cx} {H : Heap} {D : Nat → Prop} (h : HeapOK K H D) : HeapOK K H (Dn D H H) ∧ Step K H D K H (Dn D H H) := by
  rw [Dn_refl h]
  exact ⟨h, Step.refl K H D⟩
theorem alloc_sound {K : Cx} {H : Heap} {D : Nat → Prop} (h : HeapOK K H D) (hfresh : K.β H.length = none) {w' : World} {C : Array Value} {e : TypeId} {lo up : Nat}
    (hw : w'.heap = K.w.heap.push (.cells C e (lo, up))) (hos : w'.os = K.w.os) (ht : w'.tape = K.w.tape) (hout : w'.output = K.w.output) {cells : List V}
    (hlen : cells.length ≤ C.size) (hfz : lo = up ∨ C.size ≤ lo) (h1 : ∀ (i : Nat) (c : Value), C[i]? = some c → c.oneCell' = true)
    (hc : ∀ (i : Nat) (v : V), cells[i]? = some v → ∃ c : Value, C[i]? = some c ∧ Rep K v c) :
    ∃ K', K'.w = w' ∧ HeapOK K' (H ++ [some cells]) (Dn D H (H ++ [some cells])) ∧ Step K H D K' (H ++ [some cells]) (Dn D H (H ++ [some cells])) ∧
      K'.β H.length = some K.w.heap.size ∧ K'.w.heap[K.w.heap.size]? = some (.cells C e (lo, up)) := by
  let K' : Cx := { w := w', β := fun i => if i = H.length then some K.w.heap.size else K.β i, N := fun b => K.N b ∨ b = K.w.heap.size, B := K.B, R := K.R }
  have hold : ∀ b, b < K.w.heap.size → w'.heap[b]? = K.w.heap[b]? := fun b hb => by rw [hw, Array.getElem?_push, if_neg (by omega)]
  have hnew : w'.heap[K.w.heap.size]? = some (.cells C e (lo, up)) := by rw [hw, Array.getElem?_push, if_pos rfl]
  have hsz : w'.heap.size = K.w.heap.size + 1 := by rw [hw, Array.size_push]
  have hlt : ∀ b o, K.w.heap[b]? = some o → b < K.w.heap.size := fun b o hb => (Array.getElem?_eq_some_iff.1 hb).1
  have hDn : ∀ i, Dn D H (H ++ [some cells]) i → D i ∨ i = H.length := by
    rintro i ⟨h1 | h1, h2⟩
    · exact .inl h1
    · have := h2.lt; simp at this; exact .inr (by omega)
  have hstep : Step K H D K' (H ++ [some cells]) (Dn D H (H ++ [some cells])) := by
    refine ⟨rfl, rfl, hos, ht, hout, by show K.w.heap.size ≤ w'.heap.size; omega, by simp, ?_, ?_, ?_, fun b hb _ _ => .inl hb, ?_, fun b hb _ => hold b hb, ?_⟩
    · intro i b hb
      show (if i = H.length then some K.w.heap.size else K.β i) = some b
      by_cases hi : i = H.length
      · subst hi; rw [hfresh] at hb; cases hb
      · rw [if_neg hi]; exact hb
    · intro i b hb
      have hb' : (if i = H.length then some K.w.heap.size else K.β i) = some b := hb
      by_cases hi : i = H.length
      · rw [if_pos hi] at hb'
        cases hb'
        subst hi
        exact .inr ⟨hfresh, Nat.le_refl _, by simp, .inl (Nat.le_refl _)⟩
      · rw [if_neg hi] at hb'; exact .inl hb'
    · intro b hb
      rcases hb with hb | hb
      · exact .inl hb
      · exact .inr (by omega)
    · intro i hi
      rcases hDn i hi with hd | hd
      · exact .inl hd
      · subst hd; exact .inr ⟨hfresh, Nat.le_refl _, by simp⟩
    · intro b C0 e0 fz0 hC0
      exact ⟨C0, fz0, by show w'.heap[b]? = _; rw [hold b (hlt b _ hC0)]; exact hC0, rfl⟩
  have hpres : Pres K K' := hstep.pres h
  refine ⟨K', rfl, ⟨?_, ?_, ?_, ?_⟩, hstep, by show (if H.length = H.length then _ else _) = _; rw [if_pos rfl], hnew⟩
  · intro i j b hi hj hbi hbj
    have hbi' : (if i = H.length then some K.w.heap.size else K.β i) = some b := hbi
    have hbj' : (if j = H.length then some K.w.heap.size else K.β j) = some b := hbj
    have hsmall : ∀ k, D k → K.β k = some K.w.heap.size → False := fun k hk hkb => by
      obtain ⟨b0, cs0, hb0, _, C0, e0, lo0, hi0, hC0, _⟩ := h.blk k hk
      rw [hkb] at hb0; cases hb0
      have := hlt _ _ hC0; omega
    by_cases hi0 : i = H.length <;> by_cases hj0 : j = H.length
    · omega
    · rw [if_pos hi0] at hbi'; rw [if_neg hj0] at hbj'; cases hbi'
      rcases hDn j hj with hd | hd
      · exact (hsmall j hd hbj').elim
      · exact absurd hd hj0
    · rw [if_neg hi0] at hbi'; rw [if_pos hj0] at hbj'; cases hbj'
      rcases hDn i hi with hd | hd
      · exact (hsmall i hd hbi').elim
      · exact absurd hd hi0
    · rw [if_neg hi0] at hbi'; rw [if_neg hj0] at hbj'
      rcases hDn i hi with hd | hd
      · rcases hDn j hj with hd' | hd'
        · exact h.inj i j b hd hd' hbi' hbj'
        · exact absurd hd' hj0
      · exact absurd hd hi0
  · intro i hi
    rcases hDn i hi with hd | hd
    · obtain ⟨b0, cs0, hb0, hH, hok⟩ := h.blk i hd
      have hb1 : b0 < K.w.heap.size := by obtain ⟨C0, e0, lo0, hi0, hC0, _⟩ := hok; exact hlt _ _ hC0
      refine ⟨b0, cs0, hstep.ext i b0 hb0, ?_, hok.pres hpres (hold b0 hb1)⟩
      rw [List.getElem?_append_left (h.live hd).lt]; exact hH
    · subst hd
      refine ⟨K.w.heap.size, cells, by show (if H.length = H.length then _ else _) = _; rw [if_pos rfl], by simp, C, e, lo, up, hnew, hlen, hfz, h1, fun i v hv => ?_⟩
      obtain ⟨c, hcc, hr⟩ := hc i v hv
      exact ⟨c, hcc, Rep.pres hpres v c hr⟩
  · intro i b hi hb
    have hb' : (if i = H.length then some K.w.heap.size else K.β i) = some b := hb
    by_cases hi0 : i = H.length
    · rw [if_pos hi0] at hb'; cases hb'
      exact ⟨.inr rfl, .inr h.low⟩
    · rw [if_neg hi0] at hb'
      rcases hDn i hi with hd | hd
      · exact ⟨.inl (h.own i b hd hb').1, (h.own i b hd hb').2⟩
      · exact absurd hd hi0
  · show K.B ≤ w'.heap.size
    have := h.low; omega
structure Wrote (w w' : World) (b : Nat) (C' : Array Value) (e : TypeId) (fz : Nat × Nat) : Prop where
  os : w'.os = w.os
  tape : w'.tape = w.tape
  output : w'.output = w.output
  size : w'.heap.size = w.heap.size
  other : ∀ k, k ≠ b → w'.heap[k]? = w.heap[k]?
  here : w'.heap[b]? = some (.cells C' e fz)
theorem wrote_step {K : Cx} {H : Heap} {D : Nat → Prop} (h : HeapOK K H D) {id b : Nat} (hD : D id) (hb : K.β id = some b) {w' : World} {C C' : Array Value} {e : TypeId} {fz fz' : Nat × Nat}
    (hC : K.w.heap[b]? = some (.cells C e fz)) (hw : Wrote K.w w' b C' e fz') (hsz : C'.size = C.size) (o : Option (List V)) :
    Step K H D { K with w := w' } (H.set id o) (Dn D H (H.set id o)) := by
  refine ⟨rfl, rfl, hw.os, hw.tape, hw.output, by show K.w.heap.size ≤ w'.heap.size; rw [hw.size]; exact Nat.le_refl _, by simp, fun _ _ h => h, fun _ _ h => .inl h, fun _ h => .inl h, fun _ h _ _ => h, ?_, ?_, ?_⟩
  · rintro i ⟨h1 | h1, h2⟩
    · exact .inl h1
    · have := h2.lt; simp at this; omega
  · intro k hk hno
    exact hw.other k fun hkb => hno ⟨id, hD, by rw [hkb]; exact hb⟩
  · intro k C0 e0 fz0 hC0
    by_cases hkb : k = b
    · subst hkb
      rw [hC] at hC0; cases hC0
      exact ⟨C', fz', hw.here, hsz⟩
    · exact ⟨C0, fz0, by show w'.heap[k]? = _; rw [hw.other k hkb]; exact hC0, rfl⟩
theorem wrote_sound {K : Cx} {H : Heap} {D : Nat → Prop} (h : HeapOK K H D) {id b : Nat} (hD : D id) (hb : K.β id = some b) {w' : World} {C C' : Array Value} {e : TypeId} {fz : Nat × Nat} {lo up : Nat}
    (hC : K.w.heap[b]? = some (.cells C e fz)) (hw : Wrote K.w w' b C' e (lo, up)) (hsz : C'.size = C.size) {cells : List V}
    (hlen : cells.length ≤ C'.size) (hfz : lo = up ∨ C'.size ≤ lo) (h1 : ∀ (i : Nat) (c : Value), C'[i]? = some c → c.oneCell' = true)
    (hc : ∀ (i : Nat) (v : V), cells[i]? = some v → ∃ c : Value, C'[i]? = some c ∧ Rep K v c) :
    HeapOK { K with w := w' } (H.set id (some cells)) (Dn D H (H.set id (some cells))) ∧ Step K H D { K with w := w' } (H.set id (some cells)) (Dn D H (H.set id (some cells))) := by
  have hstep := wrote_step h hD hb hC hw hsz (some cells)
  have hpres : Pres K { K with w := w' } := hstep.pres h
  have hDn : ∀ i, Dn D H (H.set id (some cells)) i → D i := by
    rintro i ⟨h1 | h1, h2⟩
    · exact h1
    · have := h2.lt; simp at this; omega
  refine ⟨⟨fun i j c hi hj hbi hbj => h.inj i j c (hDn i hi) (hDn j hj) hbi hbj, fun i hi => ?_, fun i c hi hbi => h.own i c (hDn i hi) hbi, ?_⟩, hstep⟩
  · by_cases hid : i = id
    · subst hid
      refine ⟨b, cells, hb, by rw [List.getElem?_set_self (h.live hD).lt], C', e, lo, up, hw.here, hlen, hfz, h1, fun i v hv => ?_⟩
      obtain ⟨c, hcc, hr⟩ := hc i v hv
      exact ⟨c, hcc, Rep.pres hpres v c hr⟩
    · obtain ⟨b0, cs0, hb0, hH, hok⟩ := h.blk i (hDn i hi)
      refine ⟨b0, cs0, hb0, by rw [List.getElem?_set_ne (Ne.symm hid)]; exact hH, hok.pres hpres (hw.other b0 fun hbb => ?_)⟩
      subst hbb
      exact hid (h.inj i id b0 (hDn i hi) hD hb0 hb)
  · show K.B ≤ w'.heap.size
    rw [hw.size]; exact h.low
theorem modify_get (h : Array Obj) (b : Nat) (f : Obj → Obj) (k : Nat) : (h.modify b f)[k]? = if b = k then h[k]?.map f else h[k]? := by
  rw [Array.getElem?_modify]
theorem setCell_wrote {w : World} {b o : Nat} {C : Array Value} {e : TypeId} {fz : Nat × Nat} (hC : w.heap[b]? = some (.cells C e fz)) (v : Value) :
    Wrote w (w.setCell ⟨b, o, none⟩ v) b (C.setIfInBounds o v) e fz := by
  refine ⟨rfl, rfl, rfl, by simp [World.setCell], fun k hk => ?_, ?_⟩
  · simp only [World.setCell, Array.getElem?_modify]
    rw [if_neg (Ne.symm hk)]
  · simp [World.setCell, Array.getElem?_modify, hC]
theorem Wrote.trans {w w' w'' : World} {b : Nat} {C C' : Array Value} {e : TypeId} {fz fz' : Nat × Nat} (h : Wrote w w' b C e fz) (k : Wrote w' w'' b C' e fz') : Wrote w w'' b C' e fz' :=
  ⟨k.os.trans h.os, k.tape.trans h.tape, k.output.trans h.output, k.size.trans h.size, fun i hi => (k.other i hi).trans (h.other i hi), k.here⟩
theorem run_storeCells_va (P : Program) (b o : Nat) (e : TypeId) (lo hi : Nat) : ∀ (vs : List Value) (i : Nat) (C : Array Value) (w : World), w.heap[b]? = some (.cells C e (lo, hi)) → (lo = hi ∨ C.size ≤ lo) →
    o + i + vs.length ≤ C.size → (∀ v ∈ vs, v.oneCell' = true) →
    ∃ w' C', (storeCells ⟨b, o, none⟩ vs i).run P w = .ok () w' ∧ Wrote w w' b C' e (lo, hi) ∧ C'.size = C.size ∧
      (∀ k, k < o + i ∨ o + i + vs.length ≤ k → C'[k]? = C[k]?) ∧ ∀ (j : Nat) (v : Value), vs[j]? = some v → C'[o + i + j]? = some v
  | [], i, C, w, hC, _, _, _ => ⟨w, C, rfl, ⟨rfl, rfl, rfl, rfl, fun _ _ => rfl, hC⟩, rfl, fun _ _ => rfl, fun j v hv => by simp at hv⟩
  | v :: vs, i, C, w, hC, hfz, hlen, h1 => by
    have hadd : (⟨b, o, none⟩ : Addr).add i = ⟨b, o + i, none⟩ := by unfold Addr.add; split <;> simp_all
    simp only [List.length_cons] at hlen
    have hin : o + i < C.size := by omega
    have hcell : w.cell? ⟨b, o + i, none⟩ = some C[o + i] := by simp [World.cell?, hC, Array.getElem?_eq_getElem hin]
    have hfro : w.frozen? ⟨b, o + i, none⟩ = false := by
      simp only [World.frozen?, hC]
      rcases hfz with hfz | hfz
      · subst hfz; simp
        try omega
      · simp; omega
    have hst : (store ⟨b, o + i, none⟩ v).run P w = .ok () (w.setCell ⟨b, o + i, none⟩ v) := by
      rw [run_store P w _ v .plain (h1 v (by simp))]
      simp [hcell, hfro]
    obtain ⟨w', C', hrun, hwr, hsz, hout, hin'⟩ := run_storeCells_va P b o e lo hi vs (i + 1) (C.setIfInBounds (o + i) v) (w.setCell ⟨b, o + i, none⟩ v) (setCell_wrote hC v).here
      (by simpa using hfz) (by simp; omega) (fun u hu => h1 u (by simp [hu]))
    refine ⟨w', C', ?_, (setCell_wrote hC v).trans hwr, by rw [hsz]; simp, ?_, ?_⟩
    · simp only [storeCells, Sem.run_bind, hadd, hst, Result.andThen_ok]
      exact hrun
    · intro k hk
      rw [hout k (by simp only [List.length_cons] at hk; omega), Array.getElem?_setIfInBounds_ne (by simp only [List.length_cons] at hk; omega)]
    · intro j u hu
      cases j with
      | zero =>
        simp at hu; subst hu
        rw [hout (o + i + 0) (by omega)]
        simp [Array.getElem?_setIfInBounds, hin]
      | succ j =>
        have := hin' j u (by simpa using hu)
        rwa [show o + (i + 1) + j = o + i + (j + 1) by omega] at this
theorem cellsV_rep {K : Cx} {x : V} {l : List V} {c : Value} (h : cellsV x = some l) (hr : Rep K x c) : RepO K l c.cells.toList := by
  cases x with
  | sc v =>
    simp only [cellsV] at h
    split at h
    · rename_i h1
      cases h
      simp only [Rep] at hr; rw [hr]
      have : v.cells = #[v] := by cases v <;> simp_all [Value.cells, Value.oneCell']
      simp only [this, RepO, Rep]
      exact ⟨v, [], rfl, h1, rfl, rfl⟩
    · cases h
  | agg cs => simp only [cellsV] at h; cases h; simp only [Rep] at hr; obtain ⟨l', rfl, hr⟩ := hr; simpa [Value.cells] using hr
  | tup vs => simp [cellsV] at h
  | dead => simp [cellsV] at h
  | sl n cs =>
    simp only [cellsV] at h; cases h
    have hr' := hr
    simp only [Rep] at hr; obtain ⟨a, cap, rfl, _⟩ := hr
    simp only [Value.cells, RepO]; exact ⟨_, _, rfl, rfl, hr', rfl⟩
  | box cs =>
    simp only [cellsV] at h; cases h
    have hr' := hr
    simp only [Rep] at hr; obtain ⟨a, rfl, _⟩ := hr
    simp only [Value.cells, RepO]; exact ⟨_, _, rfl, rfl, hr', rfl⟩
  | ref id off =>
    simp only [cellsV] at h; cases h
    have hr' := hr
    simp only [Rep] at hr; obtain ⟨b, _, rfl⟩ := hr
    simp only [Value.cells, RepO]; exact ⟨_, _, rfl, rfl, hr', rfl⟩
  | sref id off n sz =>
    simp only [cellsV] at h; cases h
    have hr' := hr
    simp only [Rep] at hr; obtain ⟨b, o, cap, _, rfl, _⟩ := hr
    simp only [Value.cells, RepO]; exact ⟨_, _, rfl, rfl, hr', rfl⟩
  | fn f caps =>
    simp only [cellsV] at h; cases h
    have hr' := hr
    simp only [Rep] at hr; obtain ⟨l, rfl, _⟩ := hr
    simp only [Value.cells, RepO]; exact ⟨_, _, rfl, rfl, hr', rfl⟩
theorem info_size {P : Program} {t : TypeId} {n : Nat} (h : sizeC P t = some n) (w : World) : (sizeOf t).run P w = .ok n w := by
  unfold sizeC at h
  cases hi : P.info? t with
  | none => simp [hi] at h
  | some i => simp [hi] at h; simp [sizeOf, typeInfo, hi, h]
theorem kind_scalar {P : Program} {t : TypeId} (h : kindOf P t = some none) (w : World) : (isAgg t).run P w = .ok false w ∧ sizeC P t = some 1 := by
  unfold kindOf at h
  cases hd : P.underlying t with
  | none => rw [hd] at h; cases P.info? t <;> simp at h
  | some d =>
    cases hi : P.info? t with
    | none => rw [hd, hi] at h; cases d <;> simp at h
    | some i =>
      rw [hd, hi] at h
      simp only [isAgg, Sem.run_bind, run_underlying hd, Result.andThen_ok]
      cases d <;> simp at h <;> exact ⟨rfl, by simp [sizeC, hi, h]⟩
theorem kind_agg {P : Program} {t : TypeId} {n : Nat} (h : kindOf P t = some (some n)) (w : World) : (isAgg t).run P w = .ok true w ∧ sizeC P t = some n := by
  unfold kindOf at h
  split at h <;> try simp at h
  · rename_i hd hi
    exact ⟨by simp [isAgg, run_underlying hd], by simp [sizeC, hi, h]⟩
  · rename_i hd hi
    exact ⟨by simp [isAgg, run_underlying hd], by simp [sizeC, hi, h]⟩
theorem rd_sound {P : Program} {K : Cx} {t : TypeId} {k : Option Nat} (hk : kindOf P t = some k) {cells : List V} {off : Nat} {v : V} (hr : rd k cells off = some v) {a : Addr} (hc : RepC K cells a 0) :
    ∃ c, (loadVar t (a.add off)).run P K.w = .ok c K.w ∧ Rep K v c := by
  cases k with
  | none =>
    obtain ⟨c, hcell, _, hrep⟩ := hc.get off v hr
    refine ⟨c, ?_, hrep⟩
    simp only [Nat.zero_add] at hcell
    simp [loadVar, (kind_scalar hk K.w).1, hcell]
  | some n =>
    simp only [rd] at hr
    split at hr
    · rename_i hle
      cases hr
      have hc' := (hc.drop off).take n
      have hlen : ((cells.drop off).take n).length = n := by simp; omega
      have hex : ∀ j, j < n → ∃ c, K.w.cell? ((a.add off).add j) = some c := fun j hj => by
        obtain ⟨c, hcell, _⟩ := hc'.get j (((cells.drop off).take n)[j]'(by omega)) (List.getElem?_eq_getElem (by omega))
        exact ⟨c, by simpa using hcell⟩
      let f : Nat → Value := fun j => ((K.w.cell? ((a.add off).add j)).getD undef)
      have hf : ∀ j, j < n → K.w.cell? ((a.add off).add j) = some (f j) := fun j hj => by
        obtain ⟨c, hcell⟩ := hex j hj
        simp [f, hcell]
      have hrun := run_loadCells_list (P := P) K.w (a.add off) ((List.range n).map f) (fun j u hu => by
        rw [List.getElem?_map] at hu
        by_cases hj : j < n
        · rw [List.getElem?_range hj] at hu; simp at hu; rw [← hu]; exact hf j hj
        · rw [List.getElem?_eq_none (by simpa using hj)] at hu; simp at hu)
      have hlr : ((List.range n).map f).length = n := by simp
      rw [hlr] at hrun
      refine ⟨.agg ((List.range n).map f).toArray, by simp [loadVar, (kind_agg hk K.w).1, info_size (kind_agg hk K.w).2, hrun], ?_⟩
      simp only [Rep]
      refine ⟨_, rfl, RepO.iff.2 ⟨RepL.mk (by rw [hlen, hlr]) fun i u c hu hcc => ?_, fun c hcm => ?_⟩⟩
      · obtain ⟨c', hcell, _, hrep⟩ := hc'.get i u hu
        simp only [Nat.zero_add] at hcell
        have hi : i < n := by have := (List.getElem?_eq_some_iff.1 hu).1; omega
        rw [List.getElem?_map, List.getElem?_range hi] at hcc
        simp at hcc
        rw [hf i hi] at hcell; cases hcell
        rw [← hcc]; exact hrep
      · obtain ⟨j, hj, rfl⟩ := List.mem_map.1 hcm
        have hj' : j < n := by simpa using hj
        obtain ⟨c', hcell, h1, _⟩ := hc'.get j (((cells.drop off).take n)[j]'(by omega)) (List.getElem?_eq_getElem (by omega))
        simp only [Nat.zero_add] at hcell
        rw [hf j hj'] at hcell; cases hcell
        exact h1
    · cases hr
end Go.Proofs.YtfpoebmihjbknaaGreat.VA

/- The soundness of single operations of 'VA': those that make no use of the elements of a slice. -/
set_option linter.unusedVariables false
set_option linter.unusedSimpArgs false
namespace Go.Proofs.YtfpoebmihjbknaaGreat.VA
open Go
def OpDone (P : Program) (K : Cx) (H : Heap) (D : Nat → Prop) (s : Sem Next) (v : V) (H' : Heap) : Prop :=
  ∃ (n : Next) (c : Value) (K' : Cx), s.run P K.w = .ok n K'.w ∧ (n = .value c ∨ (n = .skip ∧ c = undef)) ∧ HeapOK K' H' (Dn D H H') ∧ Step K H D K' H' (Dn D H H') ∧ Rep K' v c
theorem OpDone.same {P : Program} {K : Cx} {H : Heap} {D : Nat → Prop} {s : Sem Next} {v : V} {c : Value} (hK : HeapOK K H D) (hr : s.run P K.w = .ok (.value c) K.w) (hv : Rep K v c) :
    OpDone P K H D s v H := ⟨_, c, K, hr, .inl rfl, (same_sound hK).1, (same_sound hK).2, hv⟩
def OnOd (K : Cx) (S : List V) (a : Act) (x : Operand) : Prop := ∀ t, x = .tmp t → Rep K (S.getD t .dead) (a.tmps.getD t undef)
theorem repO_const {K : Cx} : ∀ (cs : List Value), cs.all (·.oneCell') = true → RepO K (cs.map V.sc) cs
  | [], _ => by simp [RepO]
  | c :: cs, h => by
    simp only [List.all_cons, Bool.and_eq_true] at h
    simp only [List.map_cons, RepO, Rep]
    exact ⟨c, cs, rfl, h.1, rfl, repO_const cs h.2⟩
theorem od_rep {K : Cx} {S : List V} {a : Act} {x : Operand} {d : Od} (h : cOd x = some d) (hx : OnOd K S a x) : Rep K (d.ev S) (a.eval x) := by
  cases x with
  | tmp t => simp only [cOd] at h; cases h; exact hx t rfl
  | const v =>
    cases v <;> simp only [cOd] at h <;> try (cases h; simp [Od.ev, constV, Act.eval, Rep]; done)
    · rename_i fn first caps
      cases h
      cases fn <;> simp only [Od.ev, constV, Act.eval] <;> try (simp [Rep]; done)
      split
      · rename_i hc
        simp only [Bool.and_eq_true, Array.isEmpty_iff] at hc
        simp only [Rep]
        exact ⟨[], by rw [hc.1, hc.2], by simp [RepL]⟩
      · simp [Rep]
    · rename_i cs
      split at h
      · rename_i hall
        cases h
        simp only [Od.ev, constV, Act.eval, Rep]
        exact ⟨cs.toList, by simp, repO_const _ hall⟩
      · cases h
    · cases h
  | global g => simp [cOd] at h
  | func f => simp only [cOd] at h; cases h; simp [Od.ev, constV, Act.eval, Rep, RepL]
theorem rep_bool {K : Cx} {b : Bool} {c : Value} (h : Rep K (.sc (.bool b)) c) : c = .bool b := by simpa [Rep] using h
theorem rep_sc {K : Cx} {v c : Value} (h : Rep K (.sc v) c) : c = v := by simpa [Rep] using h
theorem pureV_some {s : Sem Value} {v : Value} (h : pureV s = some v) : s = .pure v := by
  unfold pureV at h
  split at h
  · cases h; rfl
  · cases h
theorem snd_move {P : Program} {K : Cx} {H : Heap} {D : Nat → Prop} {S : List V} {a : Act} {o : Oper} {x : Operand} {d : Od} (ho : o.op = .move x ∨ o.op = .assign x) (hd : cOd x = some d)
    (hK : HeapOK K H D) (hx : OnOd K S a x) : OpDone P K H D (execOp a.eval o) (d.ev S) H := by
  refine OpDone.same (c := a.eval x) hK ?_ (od_rep hd hx)
  unfold execOp
  rcases ho with ho | ho <;> rw [ho] <;> rfl
theorem snd_pick {P : Program} {K : Cx} {H : Heap} {D : Nat → Prop} {S : List V} {a : Act} {o : Oper} {c x y : Operand} {dc dx dy : Od} (ho : o.op = .pick c x y) (hc : cOd c = some dc) (hx : cOd x = some dx) (hy : cOd y = some dy)
    (hK : HeapOK K H D) (hoc : OnOd K S a c) (hox : OnOd K S a x) (hoy : OnOd K S a y) {t : Bool} (ht : dc.ev S = .sc (.bool t)) :
    OpDone P K H D (execOp a.eval o) (if t = true then dx.ev S else dy.ev S) H := by
  have h1 := od_rep hc hoc
  rw [ht] at h1
  have h2 := rep_bool h1
  refine OpDone.same (c := if t = true then a.eval x else a.eval y) hK ?_ ?_
  · unfold execOp; rw [ho]
    simp [h2, asBool]
  · cases t
    · simpa using od_rep hy hoy
    · simpa using od_rep hx hox
theorem snd_load {P : Program} {K : Cx} {H : Heap} {D : Nat → Prop} {S : List V} {a : Act} {o : Oper} {t : TypeId} {x : Operand} {d : Od} {k : Option Nat} (ho : o.op = .load t x) (hd : cOd x = some d) (hk : kindOf P t = some k)
    (hK : HeapOK K H D) (hx : OnOd K S a x) (hfoot : ∀ i ∈ footOp S (.load k d), D i) {v : V} {H' : Heap} (he : evOp S H (.load k d) = some (v, H')) : OpDone P K H D (execOp a.eval o) v H' := by
  have hrep := od_rep hd hx
  simp only [evOp] at he
  simp only [footOp] at hfoot
  cases hv : d.ev S with
  | ref id off =>
    rw [hv] at he hrep hfoot
    simp only [Rep] at hrep
    obtain ⟨b, hb, hc⟩ := hrep
    cases hblk : blkAt H id with
    | none => simp [hblk] at he
    | some cells =>
      simp only [hblk, Option.map_eq_some_iff] at he
      obtain ⟨u, hu, he⟩ := he
      cases he
      obtain ⟨b', cells', hb', hH, hok⟩ := hK.blk id (hfoot id (by simp [idV]))
      rw [hb] at hb'; cases hb'
      rw [blkAt_iff, hH] at hblk; cases hblk
      obtain ⟨c, hrun, hr⟩ := rd_sound hk hu (RepC.of_blk hok)
      have hadd : (⟨b, 0, none⟩ : Addr).add off = ⟨b, off, none⟩ := by unfold Addr.add; split <;> simp_all
      rw [hadd] at hrun
      refine OpDone.same (c := c) hK ?_ hr
      unfold execOp; rw [ho]
      simp [hc, Instr.loadAt, Instr.sureAddr, hrun]
  | box cs =>
    rw [hv] at he hrep
    simp only [Rep] at hrep
    obtain ⟨ad, hc, _, hcs⟩ := hrep
    simp only [Option.map_eq_some_iff] at he
    obtain ⟨u, hu, he⟩ := he
    cases he
    obtain ⟨c, hrun, hr⟩ := rd_sound hk hu hcs
    refine OpDone.same (c := c) hK ?_ hr
    have hadd : ad.add 0 = ad := by simp [Addr.add]
    rw [hadd] at hrun
    unfold execOp; rw [ho]
    simp [hc, Instr.loadAt, Instr.sureAddr, hrun]
  | _ => rw [hv] at he; simp at he
theorem snd_store {P : Program} {K : Cx} {H : Heap} {D : Nat → Prop} {S : List V} {a : Act} {o : Oper} {t : TypeId} {x y : Operand} {dx dy : Od} {n : Nat} (ho : o.op = .store t x y) (hdx : cOd x = some dx) (hdy : cOd y = some dy) (hk : sizeC P t = some n)
    (hK : HeapOK K H D) (hx : OnOd K S a x) (hy : OnOd K S a y) (hfoot : ∀ i ∈ footOp S (.store n dx dy), D i) {v : V} {H' : Heap} (he : evOp S H (.store n dx dy) = some (v, H')) : OpDone P K H D (execOp a.eval o) v H' := by
  have hrx := od_rep hdx hx
  have hry := od_rep hdy hy
  simp only [evOp] at he
  simp only [footOp] at hfoot
  cases hv : dx.ev S with
  | ref id off =>
    rw [hv] at he hrx hfoot
    cases hl : cellsV (dy.ev S) with
    | none => simp [hl] at he
    | some l =>
      simp only [hl] at he
      cases hblk : blkAt H id with
      | none => simp [hblk] at he
      | some cells =>
        simp only [hblk] at he
        split at he
        · rename_i hcond
          obtain ⟨hln, hoff⟩ := hcond
          cases he
          simp only [Rep] at hrx
          obtain ⟨b, hb, hc⟩ := hrx
          have hD := hfoot id (by simp [idV])
          obtain ⟨b', cells', hb', hH, hok⟩ := hK.blk id hD
          rw [hb] at hb'; cases hb'
          rw [blkAt_iff, hH] at hblk; cases hblk
          have hcl := cellsV_rep hl hry
          have hcl' := RepO.iff.1 hcl
          have hlen := RepL.length hcl'.1
          obtain ⟨C, e, lo, up, hC, hcs, hfz, h1, hcc⟩ := hok
          obtain ⟨w', C', hrun, hwr, hsz, hout, hin⟩ := run_storeCells_va P b off e lo up (a.eval y).cells.toList 0 C K.w hC hfz (by omega) hcl'.2
          have hspl : ∀ (i : Nat) (u : V), (splice cells off l)[i]? = some u → ∃ c : Value, C'[i]? = some c ∧ Rep K u c := by
            intro i u hu
            unfold splice at hu
            by_cases h1 : i < off
            · rw [List.getElem?_append_left (by simp; omega), List.getElem?_take_of_lt h1] at hu
              obtain ⟨c, hc1, hc2⟩ := hcc i u hu
              exact ⟨c, by rw [hout i (.inl (by omega))]; exact hc1, hc2⟩
            · rw [List.getElem?_append_right (by simp; omega)] at hu
              have hmin : min off cells.length = off := by omega
              simp only [List.length_take, hmin] at hu
              by_cases h2 : i - off < l.length
              · rw [List.getElem?_append_left h2] at hu
                obtain ⟨c, hc1, hc2⟩ := hcl'.1.get (i - off) u hu
                have := hin (i - off) c hc1
                rw [show off + 0 + (i - off) = i by omega] at this
                exact ⟨c, this, hc2⟩
              · rw [List.getElem?_append_right (by omega), List.getElem?_drop] at hu
                rw [show off + l.length + (i - off - l.length) = i by omega] at hu
                obtain ⟨c, hc1, hc2⟩ := hcc i u hu
                exact ⟨c, by rw [hout i (.inr (by omega))]; exact hc1, hc2⟩
          have h1' : ∀ (i : Nat) (c : Value), C'[i]? = some c → c.oneCell' = true := by
            intro i c hci
            by_cases hi : i < off + 0 ∨ off + 0 + (a.eval y).cells.toList.length ≤ i
            · rw [hout i hi] at hci; exact h1 i c hci
            · have hj : i - off < (a.eval y).cells.toList.length := by omega
              have := hin (i - off) _ (List.getElem?_eq_getElem hj)
              rw [show off + 0 + (i - off) = i by omega, hci] at this
              cases this
              exact hcl'.2 _ (List.getElem_mem hj)
          have hsplen : (splice cells off l).length ≤ C'.size := by
            unfold splice; simp; omega
          obtain ⟨hK', hst⟩ := wrote_sound hK hD hb hC hwr hsz hsplen (by rw [hsz]; exact hfz) h1' hspl
          refine ⟨.skip, undef, _, ?_, .inr ⟨rfl, rfl⟩, hK', hst, by simp [Rep]⟩
          have hszc : (a.eval y).cells.size = n := by rw [← Array.length_toList, hlen, hln]
          unfold execOp; rw [ho]
          simp only [Instr.storeAt, Instr.sureAddr, hc, storeVar, Sem.run_bind, info_size hk, Result.andThen_ok, hszc, ne_eq, not_true, if_false, pure_bind, ite_false]
          simp [hrun]
        · cases he
  | _ => rw [hv] at he; simp at he
theorem snd_nilChk {P : Program} {K : Cx} {H : Heap} {D : Nat → Prop} {S : List V} {a : Act} {o : Oper} {x : Operand} {d : Od} (ho : o.op = .nilCheck x) (hd : cOd x = some d)
    (hK : HeapOK K H D) (hx : OnOd K S a x) {v : V} {H' : Heap} (he : evOp S H (.nilChk d) = some (v, H')) : OpDone P K H D (execOp a.eval o) v H' := by
  have hrep := od_rep hd hx
  simp only [evOp] at he
  cases hv : d.ev S with
  | ref id off =>
    rw [hv] at he hrep
    simp at he; obtain ⟨rfl, rfl⟩ := he
    refine OpDone.same hK ?_ hrep
    simp only [Rep] at hrep; obtain ⟨b, _, hc⟩ := hrep
    unfold execOp; rw [ho]; simp only [hc]; rfl
  | box cs =>
    rw [hv] at he hrep
    simp at he; obtain ⟨rfl, rfl⟩ := he
    refine OpDone.same hK ?_ hrep
    simp only [Rep] at hrep; obtain ⟨b, hc, _⟩ := hrep
    unfold execOp; rw [ho]; simp only [hc]; rfl
  | fn f caps =>
    rw [hv] at he hrep
    simp at he; obtain ⟨rfl, rfl⟩ := he
    refine OpDone.same hK ?_ hrep
    simp only [Rep] at hrep; obtain ⟨b, hc, _⟩ := hrep
    unfold execOp; rw [ho]; simp only [hc]; rfl
  | _ => rw [hv] at he; simp at he
theorem binOp_int {op : BinOp} {k k' : IntKind} {x y : Int} {v : Value} (t : TypeId) (h : pureV (binOp op 0 (.int k x) (.int k' y)) = some v) : binOp op t (.int k x) (.int k' y) = .pure v := by
  rw [← pureV_some h]
  cases op <;> rfl
theorem binOp_str {op : BinOp} {x y : ByteArray} {v : Value} (t : TypeId) (h : pureV (binOp op 0 (.string x) (.string y)) = some v) : binOp op t (.string x) (.string y) = .pure v := by
  rw [← pureV_some h]
  cases op <;> rfl
theorem eqGuard_int {op : BinOp} {t : TypeId} {x y : Operand} {k k' : IntKind} {m n : Int} (P : Program) (w : World) : (eqGuard op t x y (.int k m) (.int k' n)).run P w = .ok () w := by
  cases op <;> rfl
theorem eqGuard_str {op : BinOp} {t : TypeId} {x y : Operand} {m n : ByteArray} (P : Program) (w : World) : (eqGuard op t x y (.string m) (.string n)).run P w = .ok () w := by
  cases op <;> rfl
theorem snd_bin {P : Program} {K : Cx} {H : Heap} {D : Nat → Prop} {S : List V} {a : Act} {o : Oper} {op : BinOp} {t ty : TypeId} {x y : Operand} {dx dy : Od} (ho : o.op = .binOp op t x y ty) (hdx : cOd x = some dx) (hdy : cOd y = some dy)
    (hK : HeapOK K H D) (hx : OnOd K S a x) (hy : OnOd K S a y) {v : V} {H' : Heap} (he : evOp S H (.bin op dx dy) = some (v, H')) : OpDone P K H D (execOp a.eval o) v H' := by
  have hrx := od_rep hdx hx
  have hry := od_rep hdy hy
  simp only [evOp, Option.map_eq_some_iff] at he
  obtain ⟨u, hu, he⟩ := he
  cases he
  unfold evBin at hu
  split at hu
  · rename_i k m k' n h1 h2
    rw [h1] at hrx; rw [h2] at hry
    simp only [Option.map_eq_some_iff] at hu
    obtain ⟨z, hz, rfl⟩ := hu
    refine OpDone.same (c := z) hK ?_ (by simp [Rep])
    unfold execOp; rw [ho]
    simp only [rep_sc hrx, rep_sc hry, Sem.run_bind, eqGuard_int, Result.andThen_ok, binOp_int t hz]
    rfl
  · rename_i m n h1 h2
    rw [h1] at hrx; rw [h2] at hry
    simp only [Option.map_eq_some_iff] at hu
    obtain ⟨z, hz, rfl⟩ := hu
    refine OpDone.same (c := z) hK ?_ (by simp [Rep])
    unfold execOp; rw [ho]
    simp only [rep_sc hrx, rep_sc hry, Sem.run_bind, eqGuard_str, Result.andThen_ok, binOp_str t hz]
    rfl
  · cases hu
theorem snd_un {P : Program} {K : Cx} {H : Heap} {D : Nat → Prop} {S : List V} {a : Act} {o : Oper} {op : UnOp} {t : TypeId} {x : Operand} {d : Od} (ho : o.op = .unOp op t x) (hd : cOd x = some d)
    (hK : HeapOK K H D) (hx : OnOd K S a x) {v : V} {H' : Heap} (he : evOp S H (.un op d) = some (v, H')) : OpDone P K H D (execOp a.eval o) v H' := by
  have hrep := od_rep hd hx
  simp only [evOp] at he
  split at he
  · rename_i k n h1
    rw [h1] at hrep
    simp only [Option.map_eq_some_iff] at he
    obtain ⟨z, hz, he⟩ := he
    cases he
    refine OpDone.same (c := z) hK ?_ (by simp [Rep])
    unfold execOp; rw [ho]
    simp only [rep_sc hrep, pureV_some hz]
    rfl
  · rename_i n h1
    rw [h1] at hrep
    simp only [Option.map_eq_some_iff] at he
    obtain ⟨z, hz, he⟩ := he
    cases he
    refine OpDone.same (c := z) hK ?_ (by simp [Rep])
    unfold execOp; rw [ho]
    simp only [rep_sc hrep, pureV_some hz]
    rfl
  · cases he
theorem snd_conv {P : Program} {K : Cx} {H : Heap} {D : Nat → Prop} {S : List V} {a : Act} {o : Oper} {src dst : TypeId} {x : Operand} {d : Od} {k k0 : IntKind} (ho : o.op = .convert src dst x) (hd : cOd x = some d)
    (h1 : P.underlying src = some (.int k0)) (h2 : P.underlying dst = some (.int k))
    (hK : HeapOK K H D) (hx : OnOd K S a x) {v : V} {H' : Heap} (he : evOp S H (.conv k d) = some (v, H')) : OpDone P K H D (execOp a.eval o) v H' := by
  have hrep := od_rep hd hx
  simp only [evOp] at he
  split at he
  · rename_i k' n h3
    rw [h3] at hrep
    cases he
    refine OpDone.same (c := .int k (k.wrap n)) hK ?_ (by simp [Rep])
    unfold execOp; rw [ho]
    simp [rep_sc hrep, convert, run_underlying h1, run_underlying h2, Conv.intToInt]
  · cases he
theorem snd_runeStr {P : Program} {K : Cx} {H : Heap} {D : Nat → Prop} {S : List V} {a : Act} {o : Oper} {src dst : TypeId} {x : Operand} {d : Od} {k0 : IntKind} (ho : o.op = .convert src dst x) (hd : cOd x = some d)
    (h1 : P.underlying src = some (.int k0)) (h2 : P.underlying dst = some .string)
    (hK : HeapOK K H D) (hx : OnOd K S a x) {v : V} {H' : Heap} (he : evOp S H (.runeStr d) = some (v, H')) : OpDone P K H D (execOp a.eval o) v H' := by
  have hrep := od_rep hd hx
  simp only [evOp] at he
  split at he
  · rename_i k' n h3
    rw [h3] at hrep
    cases he
    refine OpDone.same (c := .string (Utf8.encode n)) hK ?_ (by simp [Rep])
    unfold execOp; rw [ho]
    simp [rep_sc hrep, convert, run_underlying h1, run_underlying h2, Conv.intToString, asInt, asIntOf]
  · cases he
theorem snd_same {P : Program} {K : Cx} {H : Heap} {D : Nat → Prop} {S : List V} {a : Act} {o : Oper} {src dst : TypeId} {x : Operand} {d : Od} (ho : o.op = .convert src dst x) (hd : cOd x = some d)
    (h1 : P.underlying src = some .string) (h2 : P.underlying dst = some .string)
    (hK : HeapOK K H D) (hx : OnOd K S a x) {v : V} {H' : Heap} (he : evOp S H (.same d) = some (v, H')) : OpDone P K H D (execOp a.eval o) v H' := by
  have hrep := od_rep hd hx
  simp only [evOp] at he
  split at he
  · rename_i n h3
    rw [h3] at hrep
    cases he
    refine OpDone.same (c := .string n) hK ?_ (by simp [Rep])
    unfold execOp; rw [ho]
    simp [rep_sc hrep, convert, run_underlying h1, run_underlying h2]
  · cases he
theorem fieldPlace_run {P : Program} {f : Field} {n : Nat} (h : sizeC P f.type = some n) (hn : n ≠ 0) (a : Addr) (w : World) : (fieldPlace a f).run P w = .ok (a.add f.offset) w := by
  simp [fieldPlace, info_size h, hn]
theorem snd_fieldAddr {P : Program} {K : Cx} {H : Heap} {D : Nat → Prop} {S : List V} {a : Act} {o : Oper} {t : TypeId} {x : Operand} {i : Nat} {d : Od} {fs : Array Field} {f : Field} {n : Nat} (ho : o.op = .fieldAddr t x i) (hd : cOd x = some d)
    (h1 : P.underlying t = some (.struct fs)) (hf : fs[i]? = some f) (h2 : sizeC P f.type = some n) (hn : n ≠ 0)
    (hK : HeapOK K H D) (hx : OnOd K S a x) {v : V} {H' : Heap} (he : evOp S H (.fieldAddr f.offset d) = some (v, H')) : OpDone P K H D (execOp a.eval o) v H' := by
  have hrep := od_rep hd hx
  simp only [evOp] at he
  cases hv : d.ev S with
  | ref id off =>
    rw [hv] at he hrep
    simp at he; obtain ⟨rfl, rfl⟩ := he
    simp only [Rep] at hrep; obtain ⟨b, hb, hc⟩ := hrep
    refine OpDone.same (c := .pointer (some ⟨b, off + f.offset, none⟩)) hK ?_ (by simp only [Rep]; exact ⟨b, hb, rfl⟩)
    have hadd : (⟨b, off, none⟩ : Addr).add f.offset = ⟨b, off + f.offset, none⟩ := by unfold Addr.add; split <;> simp_all
    unfold execOp; rw [ho]
    simp [hc, Instr.fieldAt, Instr.sureAddr, run_underlying h1, hf, fieldPlace_run h2 hn, hadd]
  | box cs =>
    rw [hv] at he hrep
    simp at he; obtain ⟨rfl, rfl⟩ := he
    simp only [Rep] at hrep; obtain ⟨ad, hc, hro, hcs⟩ := hrep
    refine OpDone.same (c := .pointer (some (ad.add f.offset))) hK ?_ ?_
    · unfold execOp; rw [ho]
      simp [hc, Instr.fieldAt, Instr.sureAddr, run_underlying h1, hf, fieldPlace_run h2 hn]
    · simp only [Rep]
      exact ⟨_, rfl, hro.imp (by rintro rfl; simp) (by rw [add_block]; exact id), hcs.drop f.offset⟩
  | _ => rw [hv] at he; simp at he
theorem rd_part {P : Program} {K : Cx} {t : TypeId} {k : Option Nat} (hk : kindOf P t = some k) {cells : List V} {off : Nat} {v : V} (hr : rd k cells off = some v) {l : List Value} (hl : RepO K cells l) :
    ∃ c, (part t l.toArray off).run P K.w = .ok c K.w ∧ Rep K v c := by
  have hl' := RepO.iff.1 hl
  have hlen := RepL.length hl'.1
  cases k with
  | none =>
    obtain ⟨c, hc, hrep⟩ := hl'.1.get off v hr
    exact ⟨c, by simp [part, (kind_scalar hk K.w).1, hc], hrep⟩
  | some n =>
    simp only [rd] at hr
    split at hr
    · rename_i hle
      cases hr
      refine ⟨.agg ((l.drop off).take n).toArray, by simp [part, (kind_agg hk K.w).1, info_size (kind_agg hk K.w).2], ?_⟩
      simp only [Rep]
      refine ⟨_, rfl, RepO.iff.2 ⟨RepL.mk (by simp; omega) fun i u c hu hc => ?_, fun c hc => hl'.2 c (List.mem_of_mem_drop (List.mem_of_mem_take hc))⟩⟩
      rw [List.getElem?_take] at hu hc
      split at hu
      · rename_i hi
        rw [if_pos hi] at hc
        rw [List.getElem?_drop] at hu hc
        obtain ⟨c', hc', hrep⟩ := hl'.1.get _ _ hu
        rw [hc] at hc'; cases hc'; exact hrep
      · cases hu
    · cases hr
theorem snd_field {P : Program} {K : Cx} {H : Heap} {D : Nat → Prop} {S : List V} {a : Act} {o : Oper} {t : TypeId} {x : Operand} {i : Nat} {d : Od} {fs : Array Field} {f : Field} {k : Option Nat} (ho : o.op = .field t x i) (hd : cOd x = some d)
    (h1 : P.underlying t = some (.struct fs)) (hf : fs[i]? = some f) (h2 : kindOf P f.type = some k)
    (hK : HeapOK K H D) (hx : OnOd K S a x) {v : V} {H' : Heap} (he : evOp S H (.field f.offset k d) = some (v, H')) : OpDone P K H D (execOp a.eval o) v H' := by
  have hrep := od_rep hd hx
  simp only [evOp] at he
  split at he
  · rename_i cs hv
    rw [hv] at hrep
    simp only [Option.map_eq_some_iff] at he
    obtain ⟨u, hu, he⟩ := he
    cases he
    simp only [Rep] at hrep; obtain ⟨l, hc, hl⟩ := hrep
    obtain ⟨c, hrun, hr⟩ := rd_part (P := P) h2 hu hl
    refine OpDone.same (c := c) hK ?_ hr
    unfold execOp; rw [ho]
    simp [hc, Instr.field, run_underlying h1, hf, asAgg, hrun]
  · cases he
theorem int_rep {K : Cx} {S : List V} {d : Od} {i : Int} {c : Value} (h : intOf? (d.ev S) = some i) (hr : Rep K (d.ev S) c) : ∃ k, c = .int k i := by
  unfold intOf? at h
  split at h
  · rename_i k n hv
    cases h
    rw [hv] at hr
    exact ⟨k, rep_sc hr⟩
  · cases h
theorem snd_idxArr {P : Program} {K : Cx} {H : Heap} {D : Nat → Prop} {S : List V} {a : Act} {o : Oper} {t e : TypeId} {x y : Operand} {n sz : Nat} {dx dy : Od} (ho : o.op = .indexAddr t x y) (hdx : cOd x = some dx) (hdy : cOd y = some dy)
    (h1 : P.underlying t = some (.array n e)) (h2 : sizeC P e = some sz)
    (hK : HeapOK K H D) (hx : OnOd K S a x) (hy : OnOd K S a y) {v : V} {H' : Heap} (he : evOp S H (.idxArr n sz dx dy) = some (v, H')) : OpDone P K H D (execOp a.eval o) v H' := by
  have hrx := od_rep hdx hx
  have hry := od_rep hdy hy
  simp only [evOp] at he
  cases hi : intOf? (dy.ev S) with
  | none => simp [hi] at he
  | some i =>
    simp only [hi] at he
    split at he
    · rename_i hb
      obtain ⟨k, hk⟩ := int_rep hi hry
      cases hv : dx.ev S with
      | ref id off =>
        rw [hv] at he hrx
        simp at he; obtain ⟨rfl, rfl⟩ := he
        simp only [Rep] at hrx; obtain ⟨b, hb', hc⟩ := hrx
        refine OpDone.same (c := .pointer (some ⟨b, off + i.toNat * sz, none⟩)) hK ?_ (by simp only [Rep]; exact ⟨b, hb', rfl⟩)
        have hadd : (⟨b, off, none⟩ : Addr).add (i.toNat * sz) = ⟨b, off + i.toNat * sz, none⟩ := by unfold Addr.add; split <;> simp_all
        unfold execOp; rw [ho]
        simp [hc, hk, Instr.indexAt, Instr.sureAddr, asIntOf, run_underlying h1, hb, info_size h2, hadd]
      | box cs =>
        rw [hv] at he hrx
        simp at he; obtain ⟨rfl, rfl⟩ := he
        simp only [Rep] at hrx; obtain ⟨ad, hc, hro, hcs⟩ := hrx
        refine OpDone.same (c := .pointer (some (ad.add (i.toNat * sz)))) hK ?_ ?_
        · unfold execOp; rw [ho]
          simp [hc, hk, Instr.indexAt, Instr.sureAddr, asIntOf, run_underlying h1, hb, info_size h2]
        · simp only [Rep]
          exact ⟨_, rfl, hro.imp (by rintro rfl; simp) (by rw [add_block]; exact id), hcs.drop _⟩
      | _ => rw [hv] at he; simp at he
    · cases he
theorem snd_idxSl {P : Program} {K : Cx} {H : Heap} {D : Nat → Prop} {S : List V} {a : Act} {o : Oper} {t e : TypeId} {x y : Operand} {sz : Nat} {dx dy : Od} (ho : o.op = .indexAddr t x y) (hdx : cOd x = some dx) (hdy : cOd y = some dy)
    (h1 : P.underlying t = some (.slice e)) (h2 : sizeC P e = some sz)
    (hK : HeapOK K H D) (hx : OnOd K S a x) (hy : OnOd K S a y) {v : V} {H' : Heap} (he : evOp S H (.idxSl sz dx dy) = some (v, H')) : OpDone P K H D (execOp a.eval o) v H' := by
  have hrx := od_rep hdx hx
  have hry := od_rep hdy hy
  simp only [evOp] at he
  cases hi : intOf? (dy.ev S) with
  | none => simp [hi] at he
  | some i =>
    obtain ⟨k, hk⟩ := int_rep hi hry
    cases hv : dx.ev S with
    | sref id off n sz' =>
      rw [hv] at he hrx
      simp only [hi] at he
      split at he
      · rename_i hb
        simp at he; obtain ⟨rfl, rfl⟩ := he
        simp only [Rep] at hrx; obtain ⟨b, oo, cap, hb', hc, hcap, hoo, _⟩ := hrx
        obtain ⟨hb0, hb1, rfl⟩ := hb
        have : oo = off := by rcases hoo with hoo | hoo; · omega
                              · exact hoo
        subst this
        refine OpDone.same (c := .pointer (some ⟨b, oo + i.toNat * sz', none⟩)) hK ?_ (by simp only [Rep]; exact ⟨b, hb', rfl⟩)
        have hadd : (⟨b, oo, none⟩ : Addr).add (i.toNat * sz') = ⟨b, oo + i.toNat * sz', none⟩ := by unfold Addr.add; split <;> simp_all
        unfold execOp; rw [ho]
        simp [hc, hk, Instr.indexAt, asIntOf, run_underlying h1, hb0, hb1, info_size h2, hadd]
      · cases he
    | sl n cs =>
      rw [hv] at he hrx
      simp only [hi] at he
      split at he
      · rename_i hb
        simp at he; obtain ⟨rfl, rfl⟩ := he
        simp only [Rep] at hrx; obtain ⟨ad, cap, hc, hcap, hro, hcs⟩ := hrx
        refine OpDone.same (c := .pointer (some (ad.add (i.toNat * sz)))) hK ?_ ?_
        · unfold execOp; rw [ho]
          simp [hc, hk, Instr.indexAt, asIntOf, run_underlying h1, hb, info_size h2]
        · simp only [Rep]
          exact ⟨_, rfl, hro.imp (by rintro rfl; simp) (by rw [add_block]; exact id), hcs.drop _⟩
      · cases he
    | _ => rw [hv] at he; simp [hi] at he
theorem snd_indexArr {P : Program} {K : Cx} {H : Heap} {D : Nat → Prop} {S : List V} {a : Act} {o : Oper} {t e : TypeId} {x y : Operand} {n sz : Nat} {k : Option Nat} {dx dy : Od} (ho : o.op = .index t x y) (hdx : cOd x = some dx) (hdy : cOd y = some dy)
    (h1 : P.underlying t = some (.array n e)) (h2 : sizeC P e = some sz) (h3 : kindOf P e = some k)
    (hK : HeapOK K H D) (hx : OnOd K S a x) (hy : OnOd K S a y) {v : V} {H' : Heap} (he : evOp S H (.indexArr n sz k dx dy) = some (v, H')) : OpDone P K H D (execOp a.eval o) v H' := by
  have hrx := od_rep hdx hx
  have hry := od_rep hdy hy
  simp only [evOp] at he
  split at he
  · rename_i i cs hi hv
    split at he
    · rename_i hb
      simp only [Option.map_eq_some_iff] at he
      obtain ⟨u, hu, he⟩ := he
      cases he
      rw [hv] at hrx
      obtain ⟨kk, hkk⟩ := int_rep hi hry
      simp only [Rep] at hrx; obtain ⟨l, hc, hl⟩ := hrx
      obtain ⟨c, hrun, hr⟩ := rd_part (P := P) h3 hu hl
      refine OpDone.same (c := c) hK ?_ hr
      unfold execOp; rw [ho]
      simp [hc, hkk, Instr.index, asIntOf, run_underlying h1, hb, info_size h2, hrun]
    · cases he
  · cases he
theorem snd_indexStr {P : Program} {K : Cx} {H : Heap} {D : Nat → Prop} {S : List V} {a : Act} {o : Oper} {t : TypeId} {x y : Operand} {dx dy : Od} (ho : o.op = .index t x y) (hdx : cOd x = some dx) (hdy : cOd y = some dy)
    (h1 : P.underlying t = some .string)
    (hK : HeapOK K H D) (hx : OnOd K S a x) (hy : OnOd K S a y) {v : V} {H' : Heap} (he : evOp S H (.indexStr dx dy) = some (v, H')) : OpDone P K H D (execOp a.eval o) v H' := by
  have hrx := od_rep hdx hx
  have hry := od_rep hdy hy
  simp only [evOp] at he
  split at he
  · rename_i i s hi hv
    split at he
    · rename_i hb
      simp only [Option.map_eq_some_iff] at he
      obtain ⟨ub, hu, he⟩ := he
      cases he
      rw [hv] at hrx
      obtain ⟨kk, hkk⟩ := int_rep hi hry
      refine OpDone.same (c := .int .u8 ub.toNat) hK ?_ (by simp [u8V, Rep])
      have hs : s[i.toNat]? = some ub := by
        rw [Array.getElem?_toList] at hu
        obtain ⟨hlt, hu⟩ := Array.getElem?_eq_some_iff.1 hu
        rw [getElem?_pos s i.toNat hlt]
        exact congrArg some hu
      unfold execOp; rw [ho]
      simp only [rep_sc hrx, hkk, Instr.index, asIntOf, Sem.run_bind, Sem.run_pure, Result.andThen_ok, run_underlying h1, if_pos hb, hs]
    · cases he
  · cases he
theorem snd_extract {P : Program} {K : Cx} {H : Heap} {D : Nat → Prop} {S : List V} {a : Act} {o : Oper} {x : Operand} {i : Nat} {d : Od} (ho : o.op = .extract x i) (hd : cOd x = some d)
    (hK : HeapOK K H D) (hx : OnOd K S a x) {v : V} {H' : Heap} (he : evOp S H (.extract d i) = some (v, H')) : OpDone P K H D (execOp a.eval o) v H' := by
  have hrep := od_rep hd hx
  simp only [evOp] at he
  split at he
  · rename_i vs hv
    rw [hv] at hrep
    simp only [Option.map_eq_some_iff] at he
    obtain ⟨u, hu, he⟩ := he
    cases he
    simp only [Rep] at hrep; obtain ⟨l, hc, hl⟩ := hrep
    obtain ⟨c, hc', hr⟩ := hl.get i _ hu
    refine OpDone.same (c := c) hK ?_ hr
    unfold execOp; rw [ho]
    simp [hc, Instr.extract, hc']
  · cases he
theorem resolve_builtin {ρ : Operand → Value} {b : Builtin} {args : Array Operand} {tys : Array TypeId} {ty : TypeId} :
    resolve ρ { callee := .builtin b, args, argTypes := tys } ty = pure { target := .builtin b tys ty (args.map fun | .const _ => true | _ => false), args := args.map ρ } := rfl
theorem snd_lenC {P : Program} {K : Cx} {H : Heap} {D : Nat → Prop} {S : List V} {a : Act} {o : Oper} {args : Array Operand} {tys : Array TypeId} {t e : TypeId} {x : Operand} {n : Nat} (ho : o.op = .call { callee := .builtin .len, args, argTypes := tys })
    (hx0 : args[0]? = some x) (ht0 : tys[0]? = some t) (h1 : P.underlying t = some (.array n e)) (hK : HeapOK K H D) : OpDone P K H D (execOp a.eval o) (.sc (.int .i64 n)) H := by
  refine OpDone.same (c := .int .i64 n) hK ?_ (by simp [Rep])
  unfold execOp; rw [ho]
  have hx1 : (args.map a.eval)[0]? = some (a.eval x) := by simp [hx0]
  simp [resolve_builtin, invoke, builtin, Builtin.len_, ht0, hx1, run_underlying h1, goInt, hx0]
theorem snd_lenStr {P : Program} {K : Cx} {H : Heap} {D : Nat → Prop} {S : List V} {a : Act} {o : Oper} {args : Array Operand} {tys : Array TypeId} {t : TypeId} {x : Operand} {d : Od} (ho : o.op = .call { callee := .builtin .len, args, argTypes := tys })
    (hx0 : args[0]? = some x) (ht0 : tys[0]? = some t) (hd : cOd x = some d) (h1 : P.underlying t = some .string) (hK : HeapOK K H D) (hx : OnOd K S a x)
    {v : V} {H' : Heap} (he : evOp S H (.lenStr d) = some (v, H')) : OpDone P K H D (execOp a.eval o) v H' := by
  have hrep := od_rep hd hx
  simp only [evOp] at he
  split at he
  · rename_i s hv
    rw [hv] at hrep
    cases he
    refine OpDone.same (c := .int .i64 s.size) hK ?_ (by simp [Rep])
    unfold execOp; rw [ho]
    have hx1 : (args.map a.eval)[0]? = some (.string s) := by simp [hx0, rep_sc hrep]
    simp [resolve_builtin, invoke, builtin, Builtin.len_, ht0, hx0, rep_sc hrep, run_underlying h1, goInt]
  · cases he
theorem snd_lenSl {P : Program} {K : Cx} {H : Heap} {D : Nat → Prop} {S : List V} {a : Act} {o : Oper} {args : Array Operand} {tys : Array TypeId} {t e : TypeId} {x : Operand} {d : Od} (ho : o.op = .call { callee := .builtin .len, args, argTypes := tys })
    (hx0 : args[0]? = some x) (ht0 : tys[0]? = some t) (hd : cOd x = some d) (h1 : P.underlying t = some (.slice e)) (hK : HeapOK K H D) (hx : OnOd K S a x)
    {v : V} {H' : Heap} (he : evOp S H (.lenSl d) = some (v, H')) : OpDone P K H D (execOp a.eval o) v H' := by
  have hrep := od_rep hd hx
  simp only [evOp] at he
  have key : ∀ (ad : Option Addr) (n cap : Nat), a.eval x = .slice ad n cap → OpDone P K H D (execOp a.eval o) (.sc (.int .i64 n)) H := by
    intro ad n cap hc
    refine OpDone.same (c := .int .i64 n) hK ?_ (by simp [Rep])
    unfold execOp; rw [ho]
    simp [resolve_builtin, invoke, builtin, Builtin.len_, ht0, hx0, hc, run_underlying h1, goInt]
  split at he
  · rename_i hv
    rw [hv] at hrep
    cases he
    exact key none 0 0 (rep_sc hrep)
  · rename_i n cs hv
    rw [hv] at hrep
    cases he
    simp only [Rep] at hrep; obtain ⟨ad, cap, hc, _⟩ := hrep
    exact key _ _ _ hc
  · rename_i id off n sz hv
    rw [hv] at hrep
    cases he
    simp only [Rep] at hrep; obtain ⟨b, oo, cap, _, hc, _⟩ := hrep
    exact key _ _ _ hc
  · cases he
theorem snd_capSl {P : Program} {K : Cx} {H : Heap} {D : Nat → Prop} {S : List V} {a : Act} {o : Oper} {args : Array Operand} {tys : Array TypeId} {t e : TypeId} {x : Operand} {d : Od} (ho : o.op = .call { callee := .builtin .cap, args, argTypes := tys })
    (hx0 : args[0]? = some x) (ht0 : tys[0]? = some t) (hd : cOd x = some d) (h1 : P.underlying t = some (.slice e)) (hK : HeapOK K H D) (hx : OnOd K S a x)
    {v : V} {H' : Heap} (he : evOp S H (.capSl d) = some (v, H')) : OpDone P K H D (execOp a.eval o) v H' := by
  have hrep := od_rep hd hx
  simp only [evOp] at he
  split at he
  · rename_i hv
    rw [hv] at hrep
    cases he
    have hc := rep_sc hrep
    refine OpDone.same (c := .int .i64 0) hK ?_ (by simp [Rep])
    unfold execOp; rw [ho]
    simp [resolve_builtin, invoke, builtin, Builtin.cap_, ht0, hx0, hc, run_underlying h1, goInt]
  · cases he
theorem snd_toArr {P : Program} {K : Cx} {H : Heap} {D : Nat → Prop} {S : List V} {a : Act} {o : Oper} {t e : TypeId} {x : Operand} {n sz : Nat} {d : Od} (ho : o.op = .sliceToArrayPointer t x) (hd : cOd x = some d)
    (h1 : P.underlying t = some (.array n e))
    (hK : HeapOK K H D) (hx : OnOd K S a x) {v : V} {H' : Heap} (he : evOp S H (.toArr n sz d) = some (v, H')) : OpDone P K H D (execOp a.eval o) v H' := by
  have hrx := od_rep hd hx
  simp only [evOp] at he
  split at he
  · rename_i m cs hv
    rw [hv] at hrx
    split at he
    · rename_i hb
      cases he
      simp only [Rep] at hrx; obtain ⟨ad, cap, hc, hcap, hro, hcs⟩ := hrx
      refine OpDone.same (c := .pointer (some ad)) hK ?_ ?_
      · unfold execOp; rw [ho]
        simp [hc, Instr.arrayAt, run_underlying h1, Nat.not_lt.2 hb]
      · simp only [Rep]
        exact ⟨_, rfl, hro, hcs⟩
    · cases he
  · rename_i id off m sz' hv
    rw [hv] at hrx
    split at he
    · rename_i hb
      cases he
      obtain ⟨hb0, hb1, rfl⟩ := hb
      simp only [Rep] at hrx; obtain ⟨b, oo, cap, hb', hc, hcap, hoo, _⟩ := hrx
      have : oo = off := by rcases hoo with hoo | hoo; · omega
                            · exact hoo
      subst this
      refine OpDone.same (c := .pointer (some ⟨b, oo, none⟩)) hK ?_ (by simp only [Rep]; exact ⟨b, hb', rfl⟩)
      unfold execOp; rw [ho]
      simp [hc, Instr.arrayAt, run_underlying h1, Nat.not_lt.2 hb1]
    · cases he
  · cases he
theorem allInts_rep {K : Cx} : ∀ {vs : List V} {l cl : List Value}, allInts vs = some l → RepL K vs cl → cl = l
  | [], l, cl, h, hr => by simp only [allInts] at h; cases h; simpa [RepL] using hr
  | v :: vs, l, cl, h, hr => by
    simp only [RepL] at hr
    obtain ⟨c, cl', rfl, h1, h2⟩ := hr
    cases v with
    | sc u =>
      cases u with
      | int k n =>
        simp only [allInts, Option.map_eq_some_iff] at h
        obtain ⟨l', hl', rfl⟩ := h
        rw [rep_sc h1, allInts_rep hl' h2]
      | _ => simp [allInts] at h
    | _ => simp [allInts] at h
theorem cOds_rep {K : Cx} {S : List V} {a : Act} : ∀ {xs : List Operand} {ds : List Od}, cOds xs = some ds → (∀ x ∈ xs, OnOd K S a x) → RepL K (ds.map (·.ev S)) (xs.map a.eval)
  | [], ds, h, _ => by simp [cOds] at h; subst h; simp [RepL]
  | x :: xs, ds, h, hx => by
    simp only [cOds, List.mapM_cons, Option.bind_eq_bind, Option.bind_eq_some_iff, Option.pure_def, Option.some.injEq] at h
    obtain ⟨d, hd, ds', hds, rfl⟩ := h
    simp only [List.map_cons, RepL]
    exact ⟨_, _, rfl, od_rep hd (hx x (by simp)), cOds_rep hds fun y hy => hx y (by simp [hy])⟩
theorem snd_minmax {P : Program} {K : Cx} {H : Heap} {D : Nat → Prop} {S : List V} {a : Act} {o : Oper} {args : Array Operand} {tys : Array TypeId} {ds : List Od} {mx : Bool}
    (ho : o.op = .call { callee := .builtin (if mx then .max else .min), args, argTypes := tys })
    (hd : cOds args.toList = some ds) (hK : HeapOK K H D) (hx : ∀ x ∈ args.toList, OnOd K S a x)
    {v : V} {H' : Heap} (he : evOp S H (.minmax mx ds) = some (v, H')) : OpDone P K H D (execOp a.eval o) v H' := by
  have hrep := cOds_rep hd hx
  simp only [evOp] at he
  split at he
  · rename_i l hl
    simp only [Option.map_eq_some_iff] at he
    obtain ⟨z, hz, he⟩ := he
    cases he
    have hargs : args.map a.eval = l.toArray := by
      have := allInts_rep hl hrep
      rw [← this]
      apply Array.ext'
      simp
    refine OpDone.same (c := z) hK ?_ (by simp [Rep])
    have hp := pureV_some hz
    cases mx
    · simp only [Bool.false_eq_true, if_false] at hp ho
      have hp' : ∀ tys ty, Builtin.min_ tys ty l.toArray = .pure z := fun _ _ => hp
      unfold execOp; rw [ho]
      simp [resolve_builtin, invoke, builtin, hargs, hp']
    · simp only [if_true] at hp ho
      have hp' : ∀ tys ty, Builtin.max_ tys ty l.toArray = .pure z := fun _ _ => hp
      unfold execOp; rw [ho]
      simp [resolve_builtin, invoke, builtin, hargs, hp']
  · cases he
theorem snd_mkFunc {P : Program} {K : Cx} {H : Heap} {D : Nat → Prop} {S : List V} {a : Act} {o : Oper} {f : Nat} {caps : Array Operand} {ds : List Od}
    (ho : o.op = .makeFunc (.func f) #[] caps) (hd : cOds caps.toList = some ds) (hK : HeapOK K H D) (hx : ∀ x ∈ caps.toList, OnOd K S a x) :
    OpDone P K H D (execOp a.eval o) (.fn f (ds.map (·.ev S))) H := by
  have hrep := cOds_rep hd hx
  refine OpDone.same (c := .func (.func f) #[] (caps.toList.map a.eval).toArray) hK ?_ ?_
  · unfold execOp; rw [ho]
    simp [Instr.makeFunc]
    apply Array.ext'
    simp
  · simp only [Rep]
    exact ⟨_, rfl, hrep⟩
end Go.Proofs.YtfpoebmihjbknaaGreat.VA

/- The soundness of single operations of 'VA': what makes new rows, what cuts them, what compares them. -/
set_option linter.unusedVariables false
set_option linter.unusedSimpArgs false
namespace Go.Proofs.YtfpoebmihjbknaaGreat.VA
open Go
theorem zeroC_spec {P : Program} {t : TypeId} {zs : List Value} (h : zeroC P t = some zs) : ∃ i z, P.info? t = some i ∧ i.zero = some z ∧ z.cells.toList = zs ∧ z.cells.size = i.size ∧ zs.all (·.oneCell') = true := by
  unfold zeroC at h
  cases hi : P.info? t with
  | none => simp [hi] at h
  | some i =>
    simp only [hi] at h
    cases hz : i.zero with
    | none => simp [hz] at h
    | some z =>
      simp only [hz] at h
      split at h
      · rename_i hc
        cases h
        simp only [Bool.and_eq_true, decide_eq_true_eq] at hc
        exact ⟨i, z, rfl, hz, rfl, hc.1, by simpa [oneL] using hc.2⟩
      · cases h
theorem size_le_one {l : List V} : l.length ≤ l.length := Nat.le_refl _
theorem cells_of_repO {K : Cx} {cells : List V} {l : List Value} (h : RepO K cells l) :
    cells.length ≤ l.toArray.size ∧ (∀ (i : Nat) (c : Value), l.toArray[i]? = some c → c.oneCell' = true) ∧ ∀ (i : Nat) (v : V), cells[i]? = some v → ∃ c : Value, l.toArray[i]? = some c ∧ Rep K v c := by
  have h' := RepO.iff.1 h
  refine ⟨by simp [RepL.length h'.1], fun i c hc => h'.2 c ?_, fun i v hv => ?_⟩
  · rw [List.getElem?_toArray] at hc
    exact List.mem_of_getElem? hc
  · obtain ⟨c, hc, hr⟩ := h'.1.get i v hv
    exact ⟨c, by simpa using hc, hr⟩
theorem OpDone.alloc {P : Program} {K : Cx} {H : Heap} {D : Nat → Prop} {s : Sem Next} {v : V} {c : Value} {w' : World} (hK : HeapOK K H D) (hfresh : K.β H.length = none) {C : Array Value} {e : TypeId} {lo up : Nat} {cells : List V}
    (hr : s.run P K.w = .ok (.value c) w')
    (hw : w'.heap = K.w.heap.push (.cells C e (lo, up))) (hos : w'.os = K.w.os) (ht : w'.tape = K.w.tape) (hout : w'.output = K.w.output)
    (hlen : cells.length ≤ C.size) (hfz : lo = up ∨ C.size ≤ lo) (h1 : ∀ (i : Nat) (c : Value), C[i]? = some c → c.oneCell' = true)
    (hc : ∀ (i : Nat) (v : V), cells[i]? = some v → ∃ c : Value, C[i]? = some c ∧ Rep K v c)
    (hv : ∀ K' : Cx, K'.w = w' → K'.β H.length = some K.w.heap.size → K'.w.heap[K.w.heap.size]? = some (.cells C e (lo, up)) → Rep K' v c) :
    OpDone P K H D s v (H ++ [some cells]) := by
  obtain ⟨K', hK'w, h1', h2', h3', h4'⟩ := alloc_sound hK hfresh hw hos ht hout hlen hfz h1 hc
  exact ⟨_, c, K', by rw [hK'w]; exact hr, .inl rfl, h1', h2', hv K' hK'w h3' h4'⟩
theorem snd_alloc {P : Program} {K : Cx} {H : Heap} {D : Nat → Prop} {S : List V} {a : Act} {o : Oper} {t : TypeId} {zs : List Value} (ho : o.op = .alloc t) (hz : zeroC P t = some zs)
    (hK : HeapOK K H D) (hfresh : K.β H.length = none) : OpDone P K H D (execOp a.eval o) (.ref H.length 0) (H ++ [some (zs.map .sc)]) := by
  obtain ⟨i, z, hi, hzz, rfl, hs, hone⟩ := zeroC_spec hz
  have hc := cells_of_repO (repO_const (K := K) z.cells.toList hone)
  simp only [Array.toArray_toList] at hc
  refine OpDone.alloc (c := .pointer (some ⟨K.w.heap.size, 0, none⟩)) (w' := { K.w with heap := K.w.heap.push (.cells z.cells t) }) hK hfresh ?_ rfl rfl rfl rfl hc.1 (.inl rfl) hc.2.1 hc.2.2
    (fun K' _ hb _ => by simp only [Rep]; exact ⟨_, hb, rfl⟩)
  unfold execOp; rw [ho]
  simp [Instr.alloc, zeroValue, typeInfo, hi, hzz, newVar, newRow]
theorem snd_box {P : Program} {K : Cx} {H : Heap} {D : Nat → Prop} {S : List V} {a : Act} {o : Oper} {t : TypeId} {x : Operand} {d : Od} {l : List V} (ho : o.op = .box t x) (hd : cOd x = some d)
    (hK : HeapOK K H D) (hfresh : K.β H.length = none) (hx : OnOd K S a x) (hl : cellsV (d.ev S) = some l) : OpDone P K H D (execOp a.eval o) (.ref H.length 0) (H ++ [some l]) := by
  have hc := cells_of_repO (cellsV_rep hl (od_rep hd hx))
  simp only [Array.toArray_toList] at hc
  refine OpDone.alloc (c := .pointer (some ⟨K.w.heap.size, 0, none⟩)) (w' := { K.w with heap := K.w.heap.push (.cells (a.eval x).cells t) }) hK hfresh ?_ rfl rfl rfl rfl hc.1 (.inl rfl) hc.2.1 hc.2.2
    (fun K' _ hb _ => by simp only [Rep]; exact ⟨_, hb, rfl⟩)
  unfold execOp; rw [ho]
  simp [Instr.box, newVar, newRow]
theorem foldl_set (off : Nat) : ∀ (l : List Value) (k : Nat) (cells : Array Value), off + k + l.length ≤ cells.size →
    (List.foldl (fun (cs : Array Value) (p : Value × Nat) => cs.setIfInBounds (off + p.2) p.1) cells (l.zipIdx k)).toList = cells.toList.take (off + k) ++ (l ++ cells.toList.drop (off + k + l.length))
  | [], k, cells, h => by simp
  | v :: l, k, cells, h => by
    simp only [List.length_cons] at h
    rw [List.zipIdx_cons, List.foldl_cons, foldl_set off l (k + 1) _ (by simp; omega)]
    have hlt : off + k < cells.toList.length := by simp; omega
    simp only [Array.toList_setIfInBounds]
    rw [show off + (k + 1) = off + k + 1 by omega]
    rw [List.take_set, List.drop_set_of_lt (by omega)]
    rw [List.take_succ_eq_append_getElem hlt, List.set_append_right _ _ (by simp; omega)]
    simp only [List.length_take, List.length_cons]
    rw [show min (off + k) cells.toList.length = off + k by omega]
    simp [show off + k + 1 + l.length = off + k + (l.length + 1) by omega]
theorem splice_len {cells l : List V} {off : Nat} (h : off + l.length ≤ cells.length) : (splice cells off l).length = cells.length := by
  unfold splice; simp; omega
theorem splice_rep {K : Cx} {cells l : List V} {off : Nat} {cs cl : List Value} (hc : RepO K cells cs) (hl : RepO K l cl) (h : off + l.length ≤ cells.length) :
    RepO K (splice cells off l) (cs.take off ++ (cl ++ cs.drop (off + cl.length))) := by
  have hc' := RepO.iff.1 hc
  have hl' := RepO.iff.1 hl
  have e1 := RepL.length hc'.1
  have e2 := RepL.length hl'.1
  refine RepO.iff.2 ⟨RepL.mk (by unfold splice; simp; omega) fun i v c hv hcc => ?_, fun c hcm => ?_⟩
  · unfold splice at hv
    by_cases h1 : i < off
    · rw [List.getElem?_append_left (by simp; omega), List.getElem?_take_of_lt h1] at hv
      rw [List.getElem?_append_left (by simp; omega), List.getElem?_take_of_lt h1] at hcc
      obtain ⟨c', hc1, hr⟩ := hc'.1.get i v hv
      rw [hcc] at hc1; cases hc1; exact hr
    · rw [List.getElem?_append_right (by simp; omega)] at hv hcc
      have m1 : min off cells.length = off := by omega
      have m2 : min off cs.length = off := by omega
      simp only [List.length_take, m1] at hv
      simp only [List.length_take, m2] at hcc
      by_cases h2 : i - off < l.length
      · rw [List.getElem?_append_left h2] at hv
        rw [List.getElem?_append_left (by omega)] at hcc
        obtain ⟨c', hc1, hr⟩ := hl'.1.get _ v hv
        rw [hcc] at hc1; cases hc1; exact hr
      · rw [List.getElem?_append_right (by omega), List.getElem?_drop] at hv hcc
        rw [e2] at hcc
        obtain ⟨c', hc1, hr⟩ := hc'.1.get _ v hv
        rw [hcc] at hc1; cases hc1; exact hr
  · rcases List.mem_append.1 hcm with h1 | h1
    · exact hc'.2 c (List.mem_of_mem_take h1)
    · rcases List.mem_append.1 h1 with h1 | h1
      · exact hl'.2 c h1
      · exact hc'.2 c (List.mem_of_mem_drop h1)
theorem fill_sound {K : Cx} {S : List V} {a : Act} {off : Nat → Option (Nat × Nat)} : ∀ {ps : List (Nat × Operand)} {qs : List (Nat × Nat × Od)} {cells out : List V} {ca : Array Value},
    cParts off ps = some qs → (∀ p ∈ ps, OnOd K S a p.2) → fillV cells (evParts S qs) = some out → RepO K cells ca.toList →
    ∃ oa, Instr.fill off ca (ps.map fun p => (p.1, a.eval p.2)) = some oa ∧ RepO K out oa.toList
  | [], qs, cells, out, ca, hq, _, hf, hc => by
    simp only [cParts] at hq; cases hq
    simp only [evParts, List.map_nil, fillV] at hf; cases hf
    exact ⟨ca, rfl, hc⟩
  | (i, x) :: ps, qs, cells, out, ca, hq, hx, hf, hc => by
    simp only [cParts, Option.bind_eq_bind, Option.bind_eq_some_iff, Option.pure_def, Option.some.injEq, Prod.exists] at hq
    obtain ⟨oo, n, ho, d, hd, r, hr, rfl⟩ := hq
    simp only [evParts, List.map_cons, fillV] at hf
    split at hf
    · rename_i l hl
      split at hf
      · rename_i hcond
        obtain ⟨hln, hoff⟩ := hcond
        have hcl := cellsV_rep hl (od_rep hd (hx (i, x) (by simp)))
        have e1 := RepL.length (RepO.iff.1 hcl).1
        have e2 := RepL.length (RepO.iff.1 hc).1
        simp only [Array.length_toList] at e1 e2
        have hnext := splice_rep (off := oo) hc hcl (by omega)
        simp only [List.map_cons, Instr.fill, ho]
        rw [if_neg (by simp; omega)]
        have hfold : (Array.foldl (fun (cs : Array Value) (p : Value × Nat) => cs.setIfInBounds (oo + p.2) p.1) ca (a.eval x).cells.zipIdx).toList =
            ca.toList.take oo ++ ((a.eval x).cells.toList ++ ca.toList.drop (oo + (a.eval x).cells.toList.length)) := by
          rw [← Array.foldl_toList, Array.toList_zipIdx]
          have := foldl_set oo (a.eval x).cells.toList 0 ca (by rw [Array.length_toList]; omega)
          simpa using this
        refine fill_sound hr (fun p hp => hx p (by simp [hp])) hf ?_
        rw [hfold]
        exact hnext
      · cases hf
    · cases hf
theorem snd_build {P : Program} {K : Cx} {H : Heap} {D : Nat → Prop} {S : List V} {a : Act} {o : Oper} {t : TypeId} {parts : Array (Nat × Operand)} {zs : List Value} {qs : List (Nat × Nat × Od)} {cs : List V}
    (ho : o.op = .build t parts) (hz : zeroC P t = some zs)
    (hu : (∃ fs places, P.underlying t = some (.struct fs) ∧ fs.toList.mapM (fun f => (P.info? f.type).map fun i => (f.offset, i.size)) = some places ∧ cParts (fun i => places.toArray[i]?) parts.toList = some qs) ∨
      (∃ n e sz, P.underlying t = some (.array n e) ∧ sizeC P e = some sz ∧ cParts (fun i => some (i * sz, sz)) parts.toList = some qs))
    (hK : HeapOK K H D) (hx : ∀ p ∈ parts.toList, OnOd K S a p.2) (hf : fillV (zs.map .sc) (evParts S qs) = some cs) :
    OpDone P K H D (execOp a.eval o) (.agg cs) H := by
  obtain ⟨i, z, hi, hzz, rfl, hs, hone⟩ := zeroC_spec hz
  have hmap : (parts.map fun x => (x.1, a.eval x.2)).toList = parts.toList.map fun p => (p.1, a.eval p.2) := by simp
  have key : ∀ oa, P.built t (parts.map fun x => (x.1, a.eval x.2)).toList = some oa → RepO K cs oa.toList → OpDone P K H D (execOp a.eval o) (.agg cs) H := by
    intro oa hb hrep
    refine OpDone.same (c := .agg oa) hK ?_ (by simp only [Rep]; exact ⟨oa.toList, by simp, hrep⟩)
    unfold execOp; rw [ho]
    have := run_build (P := P) K.w t _ oa hb
    simp only [Sem.run_bind, this, Result.andThen_ok]
    rfl
  rcases hu with ⟨fs, places, hut, hpl, hq⟩ | ⟨n, e, sz, hut, hsz, hq⟩
  · obtain ⟨oa, hrun, hrep⟩ := fill_sound (a := a) hq hx hf (repO_const z.cells.toList hone)
    refine key oa ?_ hrep
    simp only [Program.built, hi, hut, hzz, hpl, hmap]
    exact hrun
  · obtain ⟨oa, hrun, hrep⟩ := fill_sound (a := a) hq hx hf (repO_const z.cells.toList hone)
    refine key oa ?_ hrep
    cases he : P.info? e with
    | none => simp [sizeC, he] at hsz
    | some ie =>
      simp [sizeC, he] at hsz
      subst hsz
      simp only [Program.built, hi, hut, hzz, he, hmap]
      exact hrun
theorem zeroCells_get (zs : List Value) : ∀ (n i : Nat), i < n * zs.length → (zeroCells zs n)[i]? = (zs[i % zs.length]?).map V.sc
  | 0, i, h => by simp at h
  | n + 1, i, h => by
    unfold zeroCells
    rw [List.replicate_succ, List.flatten_cons]
    by_cases hi : i < zs.length
    · rw [List.getElem?_append_left (by simpa using hi), Nat.mod_eq_of_lt hi]
      simp
    · rw [List.getElem?_append_right (by simp; omega)]
      have hpos : 0 < zs.length := by
        rcases Nat.eq_zero_or_pos zs.length with h0 | h0
        · rw [h0] at h; simp at h
        · exact h0
      have hlt : i - zs.length < n * zs.length := by rw [Nat.add_mul, Nat.one_mul] at h; omega
      have := zeroCells_get zs n (i - zs.length) hlt
      unfold zeroCells at this
      simp only [List.length_map]
      rw [this]
      rw [Nat.mod_eq_sub_mod (show zs.length ≤ i by omega)]
theorem zeroCells_len (zs : List Value) (n : Nat) : (zeroCells zs n).length = n * zs.length := by
  unfold zeroCells
  rw [List.length_flatten]
  simp [Nat.mul_comm]
theorem madeCells_rep {K : Cx} {z : Value} (hone : z.cells.toList.all (·.oneCell') = true) (n m : Nat) (hnm : n ≤ m) (hpos : 0 < z.cells.size) :
    (zeroCells z.cells.toList n).length ≤ (madeCells z.cells (m * z.cells.size)).size ∧ (∀ (i : Nat) (c : Value), (madeCells z.cells (m * z.cells.size))[i]? = some c → c.oneCell' = true) ∧
      ∀ (i : Nat) (v : V), (zeroCells z.cells.toList n)[i]? = some v → ∃ c : Value, (madeCells z.cells (m * z.cells.size))[i]? = some c ∧ Rep K v c := by
  have hle : n * z.cells.size ≤ m * z.cells.size := Nat.mul_le_mul_right _ hnm
  refine ⟨by rw [zeroCells_len, size_madeCells]; simpa using hle, fun i c hc => ?_, fun i v hv => ?_⟩
  · obtain ⟨hlt, hc⟩ := Array.getElem?_eq_some_iff.1 hc
    simp only [madeCells, Array.getElem_map, Array.getElem_range] at hc
    rw [← hc]
    have hm : i % z.cells.size < z.cells.size := Nat.mod_lt _ hpos
    rw [getElem!_pos z.cells _ hm]
    exact List.all_eq_true.1 hone _ (by simp)
  · have hi : i < n * z.cells.toList.length := by have := (List.getElem?_eq_some_iff.1 hv).1; rwa [zeroCells_len] at this
    rw [zeroCells_get _ n i hi] at hv
    simp only [Array.length_toList] at hv hi
    have hm : i % z.cells.size < z.cells.size := Nat.mod_lt _ hpos
    rw [List.getElem?_eq_getElem (by simpa using hm)] at hv
    simp only [Option.map_some, Option.some.injEq] at hv
    subst hv
    refine ⟨z.cells[i % z.cells.size], ?_, by simp [Rep]⟩
    have hlt : i < (madeCells z.cells (m * z.cells.size)).size := by rw [size_madeCells]; omega
    rw [Array.getElem?_eq_getElem hlt]
    simp only [madeCells, Array.getElem_map, Array.getElem_range]
    rw [getElem!_pos z.cells _ hm]
theorem snd_mkSl {P : Program} {K : Cx} {H : Heap} {D : Nat → Prop} {S : List V} {a : Act} {o : Oper} {t e : TypeId} {x y : Operand} {dx dy : Od} {zs : List Value} {i : TypeInfo} (ho : o.op = .makeSlice t x y) (hdx : cOd x = some dx) (hdy : cOd y = some dy)
    (h1 : P.underlying t = some (.slice e)) (h2 : P.info? e = some i) (hz : zeroC P e = some zs) (hsz : i.size ≠ 0)
    (hK : HeapOK K H D) (hfresh : K.β H.length = none) (hx : OnOd K S a x) (hy : OnOd K S a y) {v : V} {H' : Heap} (he : evOp S H (.mkSl i.size i.bytes zs dx dy) = some (v, H')) : OpDone P K H D (execOp a.eval o) v H' := by
  have hrx := od_rep hdx hx
  have hry := od_rep hdy hy
  obtain ⟨i', z, hi, hzz, rfl, hs, hone⟩ := zeroC_spec hz
  rw [h2] at hi; cases hi
  simp only [evOp] at he
  split at he
  · rename_i l c hl hc
    split at he
    · rename_i hcond
      obtain ⟨h0, hlc, hb, hcm⟩ := hcond
      cases he
      obtain ⟨kl, hkl⟩ := int_rep hl hrx
      obtain ⟨kc, hkc⟩ := int_rep hc hry
      have hrun := run_make (P := P) K.w t e i z h1 h2 hzz kl kc l c h0 hlc (by omega) (by omega)
      have hcells := madeCells_rep (K := K) hone l.toNat c.toNat (by omega) (by omega)
      rw [hs] at hcells
      refine OpDone.alloc (c := .slice (some ⟨K.w.heap.size, 0, none⟩) l.toNat c.toNat) (w' := K.w.alloc (.cells (madeCells z.cells (c.toNat * i.size)) e)) hK hfresh ?_ rfl rfl rfl rfl hcells.1 (.inl rfl) hcells.2.1 hcells.2.2 ?_
      · unfold execOp; rw [ho]
        simp only [hkl, hkc, Sem.run_bind, hrun, Result.andThen_ok]
        rfl
      · intro K' _ hb hh
        simp only [Rep]
        exact ⟨_, _, _, hb, rfl, by omega, .inr rfl, _, _, _, hh, by rw [size_madeCells]; omega⟩
    · cases he
  · cases he
theorem snd_buildSl {P : Program} {K : Cx} {H : Heap} {D : Nat → Prop} {S : List V} {a : Act} {o : Oper} {t e : TypeId} {n sz : Nat} {parts : Array (Nat × Operand)} {zs : List Value} {qs : List (Nat × Nat × Od)}
    (ho : o.op = .buildSlice t n parts) (h1 : P.underlying t = some (.slice e)) (h2 : sizeC P e = some sz) (hz : zeroC P e = some zs) (hsz : sz ≠ 0) (hsmall : n * sz ≤ 2 ^ 20)
    (hq : cParts (fun i => some (i * sz, sz)) parts.toList = some qs)
    (hK : HeapOK K H D) (hfresh : K.β H.length = none) (hx : ∀ p ∈ parts.toList, OnOd K S a p.2) {v : V} {H' : Heap} (he : evOp S H (.buildSl sz n zs qs) = some (v, H')) : OpDone P K H D (execOp a.eval o) v H' := by
  obtain ⟨i, z, hi, hzz, rfl, hs, hone⟩ := zeroC_spec hz
  simp only [sizeC, hi, Option.map_some, Option.some.injEq] at h2
  simp only [evOp] at he
  split at he
  · rename_i cs hf
    cases he
    have hmap : (parts.map fun x => (x.1, a.eval x.2)).toList = parts.toList.map fun p => (p.1, a.eval p.2) := by simp
    have hbase : RepO K (zeroCells z.cells.toList n) (madeCells z.cells (n * sz)).toList := by
      rw [← h2, ← hs]
      have hc := madeCells_rep (K := K) hone n n (Nat.le_refl _) (by omega)
      refine RepO.iff.2 ⟨RepL.mk (by rw [zeroCells_len, Array.length_toList, size_madeCells, Array.length_toList]) fun j u c hu hcc => ?_, fun c hcm => ?_⟩
      · obtain ⟨c', hc', hr⟩ := hc.2.2 j u hu
        rw [Array.getElem?_toList, hc'] at hcc; cases hcc; exact hr
      · obtain ⟨j, hj, rfl⟩ := List.getElem_of_mem hcm
        refine hc.2.1 j _ ?_
        rw [Array.getElem_toList]
        exact Array.getElem?_eq_getElem _
    obtain ⟨oa, hrun, hrep⟩ := fill_sound (a := a) hq hx hf hbase
    have hcells := cells_of_repO hrep
    simp only [Array.toArray_toList] at hcells
    have hlen : oa.size = n * sz := by
      have e1 := RepL.length (RepO.iff.1 hrep).1
      have e2 : ∀ (ps : List (Nat × Nat × V)) (cs0 cs1 : List V), fillV cs0 ps = some cs1 → cs1.length = cs0.length := by
        intro ps
        induction ps with
        | nil => intro cs0 cs1 h; simp only [fillV] at h; cases h; rfl
        | cons p ps ih =>
          intro cs0 cs1 h
          obtain ⟨oo, nn, u⟩ := p
          simp only [fillV] at h
          split at h
          · split at h
            · rename_i hc
              rw [ih _ _ h, splice_len (by omega)]
            · cases h
          · cases h
      have e3 : cs.length = n * z.cells.size := by rw [e2 _ _ _ hf, zeroCells_len]; simp
      simp only [Array.length_toList] at e1
      rw [e1, e3, ← h2, hs]
    refine OpDone.alloc (c := .slice (some ⟨K.w.heap.size, 0, none⟩) n n) (w' := { K.w with heap := K.w.heap.push (.cells oa e) }) hK hfresh ?_ rfl rfl rfl rfl hcells.1 (.inl rfl) hcells.2.1 hcells.2.2 ?_
    · unfold execOp; rw [ho]
      have hrun' : Instr.fill (fun i => some (i * sz, sz)) (madeCells z.cells (n * sz)) (parts.map fun x => (x.1, a.eval x.2)).toList = some oa := by rw [hmap]; exact hrun
      have hsm : ¬ (16777216 < n * sz) := by omega
      by_cases hn : n * sz = 0
      · have hm0 : madeCells z.cells (n * sz) = (Array.range (n * sz)).map ((#[] : Array Value)[· % (#[] : Array Value).size]!) := by rw [hn]; simp [madeCells, Array.range_zero']
        rw [hm0] at hrun'
        simp only [Instr.buildSlice, Sem.run_bind, run_underlying h1, sizeOf, typeInfo, run_program, Result.andThen_ok, hi, Sem.run_pure, h2]
        simp [hn] at hrun' ⊢
        simp [hrun', newRow]
      · simp [Instr.buildSlice, run_underlying h1, sizeOf, typeInfo, hi, h2, zeroValue, hzz, hsm, hn, newRow]
        have hrun'' := hrun'
        simp only [madeCells] at hrun''
        simp only [Array.toList_map] at hrun''
        simp [hrun'']
    · intro K' _ hb hh
      simp only [Rep]
      exact ⟨_, _, _, hb, rfl, Nat.le_refl _, .inr rfl, _, _, _, hh, by omega⟩
  · cases he
end Go.Proofs.YtfpoebmihjbknaaGreat.VA

/- The soundness of single operations of 'VA': comparisons, conversions, slices, append, copy. -/
set_option linter.unusedVariables false
set_option linter.unusedSimpArgs false
namespace Go.Proofs.YtfpoebmihjbknaaGreat.VA
open Go
theorem eqW_nil {xs ys : List Value} {r : Bool} (h : eqW [] xs ys = some r) : xs = [] ∧ ys = [] ∧ r = true := by
  cases xs with
  | nil => cases ys with
    | nil => simp only [eqW, Option.some.injEq] at h; exact ⟨rfl, rfl, h.symm⟩
    | cons y ys => simp [eqW] at h
  | cons x xs => simp [eqW] at h
theorem eqW_false {s : List Bool} {xs ys : List Value} {r : Bool} (h : eqW (false :: s) xs ys = some r) :
    ∃ k a b xs' ys' r0, xs = .int k a :: xs' ∧ ys = .int k b :: ys' ∧ eqW s xs' ys' = some r0 ∧ r = (a == b && r0) := by
  cases xs with
  | nil => simp [eqW] at h
  | cons x xs =>
    cases ys with
    | nil => cases x <;> simp [eqW] at h
    | cons y ys =>
      cases x with
      | int k a =>
        cases y with
        | int k' b =>
          simp only [eqW] at h
          split at h
          · rename_i hk
            subst hk
            simp only [Option.map_eq_some_iff] at h
            obtain ⟨r0, h0, h1⟩ := h
            exact ⟨k, a, b, xs, ys, r0, rfl, rfl, h0, h1.symm⟩
          · cases h
        | _ => simp [eqW] at h
      | _ => simp [eqW] at h
theorem eqW_true {s : List Bool} {xs ys : List Value} {r : Bool} (h : eqW (true :: s) xs ys = some r) :
    ∃ a b xs' ys' r0, xs = .bool a :: xs' ∧ ys = .bool b :: ys' ∧ eqW s xs' ys' = some r0 ∧ r = (a == b && r0) := by
  cases xs with
  | nil => simp [eqW] at h
  | cons x xs =>
    cases ys with
    | nil => cases x <;> simp [eqW] at h
    | cons y ys =>
      cases x with
      | bool a =>
        cases y with
        | bool b =>
          simp only [eqW, Option.map_eq_some_iff] at h
          obtain ⟨r0, h0, h1⟩ := h
          exact ⟨a, b, xs, ys, r0, rfl, rfl, h0, h1.symm⟩
        | _ => simp [eqW] at h
      | _ => simp [eqW] at h
theorem eqW_append : ∀ (s1 s2 : List Bool) (xs ys : List Value) (r : Bool), eqW (s1 ++ s2) xs ys = some r →
    ∃ r1 r2, eqW s1 (xs.take s1.length) (ys.take s1.length) = some r1 ∧ eqW s2 (xs.drop s1.length) (ys.drop s1.length) = some r2 ∧ r = (r1 && r2)
  | [], s2, xs, ys, r, h => ⟨true, r, by simp [eqW], by simpa using h, by simp⟩
  | false :: s1, s2, xs, ys, r, h => by
    obtain ⟨k, a, b, xs', ys', r0, rfl, rfl, h0, rfl⟩ := eqW_false h
    obtain ⟨r1, r2, h1, h2, rfl⟩ := eqW_append s1 s2 xs' ys' r0 h0
    exact ⟨a == b && r1, r2, by simp [eqW, h1], by simpa using h2, by simp [Bool.and_assoc]⟩
  | true :: s1, s2, xs, ys, r, h => by
    obtain ⟨a, b, xs', ys', r0, rfl, rfl, h0, rfl⟩ := eqW_true h
    obtain ⟨r1, r2, h1, h2, rfl⟩ := eqW_append s1 s2 xs' ys' r0 h0
    exact ⟨a == b && r1, r2, by simp [eqW, h1], by simpa using h2, by simp [Bool.and_assoc]⟩
theorem eqW_len : ∀ (s : List Bool) (xs ys : List Value) (r : Bool), eqW s xs ys = some r → xs.length = s.length ∧ ys.length = s.length
  | [], xs, ys, r, h => by obtain ⟨rfl, rfl, _⟩ := eqW_nil h; simp
  | false :: s, xs, ys, r, h => by
    obtain ⟨k, a, b, xs', ys', r0, rfl, rfl, h0, rfl⟩ := eqW_false h
    have := eqW_len s _ _ _ h0
    simp [this]
  | true :: s, xs, ys, r, h => by
    obtain ⟨a, b, xs', ys', r0, rfl, rfl, h0, rfl⟩ := eqW_true h
    have := eqW_len s _ _ _ h0
    simp [this]
def valK (k : Option Nat) (xs : List Value) : Value := match k with
  | none => xs.headD undef
  | some _ => .agg xs.toArray
theorem part_valK {P : Program} {t : TypeId} {k : Option Nat} (hk : kindOf P t = some k) {n : Nat} (hn : sizeC P t = some n) (xs : List Value) (off : Nat) (h : off + n ≤ xs.length) (w : World) :
    (part t xs.toArray off).run P w = .ok (valK k ((xs.drop off).take n)) w := by
  cases k with
  | none =>
    have h1 := (kind_scalar hk w).2
    rw [hn] at h1; cases h1
    have hlt : off < xs.length := by omega
    have : (xs.drop off).take 1 = [xs[off]] := by
      rw [List.drop_eq_getElem_cons hlt, List.take_succ_cons, List.take_zero]
    simp [part, (kind_scalar hk w).1, valK, hlt, this]
  | some m =>
    have h1 := (kind_agg hk w).2
    rw [hn] at h1; cases h1
    simp [part, (kind_agg hk w).1, info_size hn, valK]
def FlatOK (P : Program) (d : Nat) (t : TypeId) (sh : List Bool) : Prop :=
  ∃ k, kindOf P t = some k ∧ sizeC P t = some sh.length ∧ sh ≠ [] ∧ ∀ (xs ys : List Value) (r : Bool) (D : Nat) (w : World), eqW sh xs ys = some r → (Op.equalIn (d + D) t (valK k xs) (valK k ys)).run P w = .ok r w
theorem flatFields_ok {P : Program} {d : Nat} (ft : TypeId → Option (List Bool)) (hft : ∀ t sh, ft t = some sh → FlatOK P d t sh) (D : Nat) (XS YS : List Value) : ∀ (fs : List Field) (n : Nat) (sh : List Bool) (r : Bool) (w : World),
    flatFields P ft fs n = some sh → eqW sh (XS.drop n) (YS.drop n) = some r → (Op.eqFields (d + D) XS.toArray YS.toArray fs).run P w = .ok r w
  | [], n, sh, r, w, h, he => by
    simp only [flatFields] at h; cases h
    obtain ⟨_, _, rfl⟩ := eqW_nil he
    simp [Op.eqFields]
  | f :: fs, n, sh, r, w, h, he => by
    simp only [flatFields] at h
    split at h
    · rename_i hc
      obtain ⟨hoff, hname⟩ := hc
      split at h
      · rename_i l hl
        simp only [Option.map_eq_some_iff] at h
        obtain ⟨rest, hrest, rfl⟩ := h
        obtain ⟨k, hk, hsz, hne, hok⟩ := hft _ _ hl
        obtain ⟨r1, r2, h1, h2, rfl⟩ := eqW_append l rest _ _ r he
        have hlen := eqW_len _ _ _ _ he
        have hpos : 0 < l.length := List.length_pos_iff.2 hne
        simp only [List.length_drop, List.length_append] at hlen
        have hn : f.name ≠ "_" := by simpa using hname
        have ih := flatFields_ok ft hft D XS YS fs (n + l.length) rest r2 w hrest (by simpa [List.drop_drop] using h2)
        have hp1 := part_valK hk hsz XS n (by omega) w
        have hp2 := part_valK hk hsz YS n (by omega) w
        have he1 := hok _ _ r1 D w h1
        simp only [Op.eqFields, hn, ne_eq, not_false_eq_true, if_true, Sem.run_bind, hoff, hp1, hp2, he1, Result.andThen_ok]
        cases r1
        · simp
        · simpa using ih
      · cases h
    · cases h
theorem flatItems_ok {P : Program} {d : Nat} {e : TypeId} {l : List Bool} (hok : FlatOK P d e l) (D : Nat) (XS YS : List Value) : ∀ (m i : Nat) (r : Bool) (w : World),
    eqW (List.replicate m l).flatten (XS.drop (i * l.length)) (YS.drop (i * l.length)) = some r → (Op.eqItems (d + D) e l.length XS.toArray YS.toArray (List.range' i m)).run P w = .ok r w
  | 0, i, r, w, he => by
    simp only [List.replicate_zero, List.flatten_nil] at he
    obtain ⟨_, _, rfl⟩ := eqW_nil he
    simp [Op.eqItems]
  | m + 1, i, r, w, he => by
    obtain ⟨k, hk, hsz, hne, hkk⟩ := hok
    have hok : FlatOK P d e l := ⟨k, hk, hsz, hne, hkk⟩
    rw [List.replicate_succ, List.flatten_cons] at he
    obtain ⟨r1, r2, h1, h2, rfl⟩ := eqW_append l _ _ _ r he
    have hlen := eqW_len _ _ _ _ he
    have hpos : 0 < l.length := List.length_pos_iff.2 hne
    simp only [List.length_drop, List.length_append] at hlen
    rw [List.range'_succ]
    have ih := flatItems_ok hok D XS YS m (i + 1) r2 w (by
      rw [Nat.add_mul, Nat.one_mul]
      simpa [List.drop_drop] using h2)
    have hp1 := part_valK hk hsz XS (i * l.length) (by omega) w
    have hp2 := part_valK hk hsz YS (i * l.length) (by omega) w
    have he1 := hkk _ _ r1 D w h1
    simp only [Op.eqItems, Sem.run_bind, hp1, hp2, he1, Result.andThen_ok]
    cases r1
    · simp
    · simpa using ih
theorem kind_of_scalar {P : Program} {t : TypeId} {d : TypeDesc} (hu : P.underlying t = some d) (hs : sizeC P t = some 1) (hd : (match d with | .struct _ | .array _ _ => true | _ => false) = false) : kindOf P t = some none := by
  cases hi : P.info? t with
  | none => simp [sizeC, hi] at hs
  | some i =>
    simp [sizeC, hi] at hs
    cases d <;> simp_all [kindOf]
theorem kind_of_agg {P : Program} {t : TypeId} {d : TypeDesc} {n : Nat} (hu : P.underlying t = some d) (hs : sizeC P t = some n) (hd : (match d with | .struct _ | .array _ _ => true | _ => false) = true) : kindOf P t = some (some n) := by
  cases hi : P.info? t with
  | none => simp [sizeC, hi] at hs
  | some i =>
    simp [sizeC, hi] at hs
    cases d <;> simp_all [kindOf]
theorem flatSh_ok (P : Program) : ∀ (d : Nat) (t : TypeId) (sh : List Bool), flatSh P d t = some sh → FlatOK P d t sh
  | 0, t, sh, h => by simp [flatSh] at h
  | d + 1, t, sh, h => by
    simp only [flatSh] at h
    split at h
    · rename_i hu
      split at h
      · rename_i hs
        cases h
        refine ⟨none, kind_of_scalar hu hs rfl, hs, by simp, fun xs ys r D w he => ?_⟩
        obtain ⟨a, b, xs', ys', r0, rfl, rfl, h0, rfl⟩ := eqW_true he
        obtain ⟨_, _, rfl⟩ := eqW_nil h0
        simp only [valK, List.headD_cons]
        rw [show d + 1 + D = (d + D) + 1 by omega, run_equalIn_bool' w _ t a b hu]; simp
      · cases h
    · rename_i k0 hu
      split at h
      · rename_i hs
        cases h
        refine ⟨none, kind_of_scalar hu hs rfl, hs, by simp, fun xs ys r D w he => ?_⟩
        obtain ⟨k, a, b, xs', ys', r0, rfl, rfl, h0, rfl⟩ := eqW_false he
        obtain ⟨_, _, rfl⟩ := eqW_nil h0
        simp only [valK, List.headD_cons]
        rw [show d + 1 + D = (d + D) + 1 by omega, run_equalIn_int w _ t k k0 a b hu]; simp
      · cases h
    · rename_i fs hu
      split at h
      · rename_i hst
        split at h
        · rename_i l hl
          split at h
          · rename_i hs
            cases h
            refine ⟨some sh.length, kind_of_agg hu hs.1 rfl, hs.1, hs.2, fun xs ys r D w he => ?_⟩
            have hfo : P.fieldsOf t = fs := by simp [Program.fieldsOf, hu]
            simp only [valK]
            rw [show d + 1 + D = (d + D) + 1 by omega, run_equalIn_struct w (d + D) t _ _ (by rw [hfo]; exact hu) hst, hfo]
            exact flatFields_ok (flatSh P d) (fun t sh h => flatSh_ok P d t sh h) D xs ys fs.toList 0 sh r w hl (by simpa using he)
          · cases h
        · cases h
      · cases h
    · rename_i n e hu
      split at h
      · rename_i l hl
        split at h
        · rename_i hs
          cases h
          have hlenfl : ((List.replicate n l).flatten).length = n * l.length := by rw [List.length_flatten]; simp [Nat.mul_comm]
          refine ⟨some (n * l.length), kind_of_agg hu hs.1 rfl, by rw [hlenfl]; exact hs.1, fun h0 => ?_, fun xs ys r D w he => ?_⟩
          · rw [h0] at hlenfl; simp only [List.length_nil] at hlenfl; omega
          · obtain ⟨k, hk', hsz, hne, hkk⟩ := flatSh_ok P d e l hl
            cases hie : P.info? e with
            | none => simp [sizeC, hie] at hsz
            | some ie =>
              have hco : P.cellsOf e = l.length := by simp [sizeC, hie] at hsz; simp [Program.cellsOf, hie, hsz]
              simp only [valK]
              rw [show d + 1 + D = (d + D) + 1 by omega, run_equalIn_array w (d + D) _ _ hu hie, hco, List.range_eq_range']
              exact flatItems_ok ⟨k, hk', hsz, hne, hkk⟩ D xs ys n 0 r w (by simpa using he)
        · cases h
      · cases h
    · cases h
theorem scs_rep {K : Cx} : ∀ {vs : List V} {l cl : List Value}, scs vs = some l → RepL K vs cl → cl = l
  | [], l, cl, h, hr => by simp only [scs] at h; cases h; simpa [RepL] using hr
  | v :: vs, l, cl, h, hr => by
    simp only [RepL] at hr
    obtain ⟨c, cl', rfl, h1, h2⟩ := hr
    cases v with
    | sc u =>
      simp only [scs, Option.map_eq_some_iff] at h
      obtain ⟨l', hl', rfl⟩ := h
      rw [rep_sc h1, scs_rep hl' h2]
    | _ => simp [scs] at h
theorem snd_eqA {P : Program} {K : Cx} {H : Heap} {D : Nat → Prop} {S : List V} {a : Act} {o : Oper} {neg : Bool} {t ty : TypeId} {x y : Operand} {dx dy : Od} {sh : List Bool} (ho : o.op = .binOp (if neg then .neq else .eql) t x y ty) (hdx : cOd x = some dx) (hdy : cOd y = some dy)
    (hsh : flatSh P 20 t = some sh) (hgd : P.eqGuardType P.depth t = false) (hagg : (∃ fs, P.underlying t = some (.struct fs)) ∨ ∃ n e, P.underlying t = some (.array n e))
    (hK : HeapOK K H D) (hx : OnOd K S a x) (hy : OnOd K S a y) {v : V} {H' : Heap} (he : evOp S H (.eqA neg sh dx dy) = some (v, H')) : OpDone P K H D (execOp a.eval o) v H' := by
  have hrx := od_rep hdx hx
  have hry := od_rep hdy hy
  simp only [evOp, Option.map_eq_some_iff] at he
  obtain ⟨r, hr, he⟩ := he
  cases he
  unfold evEqA at hr
  split at hr
  · rename_i xs ys h1 h2
    split at hr
    · rename_i lx ly hlx hly
      rw [h1] at hrx; rw [h2] at hry
      simp only [Rep] at hrx hry
      obtain ⟨cx, hcx, hrx⟩ := hrx
      obtain ⟨cy, hcy, hry⟩ := hry
      have e1 := scs_rep hlx (RepO.iff.1 hrx).1
      have e2 := scs_rep hly (RepO.iff.1 hry).1
      subst e1; subst e2
      obtain ⟨k, hk, hsz, _, hok⟩ := flatSh_ok P 20 t sh hsh
      have hrun := hok cx cy r 9980 K.w hr
      have hkk : ∃ n, k = some n := by
        rcases hagg with ⟨fs, hu⟩ | ⟨n, e, hu⟩
        · rw [kind_of_agg hu hsz rfl] at hk; cases hk; exact ⟨_, rfl⟩
        · rw [kind_of_agg hu hsz rfl] at hk; cases hk; exact ⟨_, rfl⟩
      obtain ⟨n, rfl⟩ := hkk
      simp only [valK] at hrun
      refine OpDone.same (c := .bool (if neg then !r else r)) hK ?_ (by simp [Rep])
      unfold execOp; rw [ho]
      cases neg
      · simp only [Bool.false_eq_true, if_false, Sem.run_bind, hcx, hcy, run_eqGuard_agg K.w _ t x y _ _ hgd, Result.andThen_ok, run_eql_struct, hrun]; rfl
      · simp only [if_true, Sem.run_bind, hcx, hcy, run_eqGuard_agg K.w _ t x y _ _ hgd, Result.andThen_ok, run_neq_struct, hrun]; rfl
    · cases hr
  · cases hr
theorem snd_eqB {P : Program} {K : Cx} {H : Heap} {D : Nat → Prop} {S : List V} {a : Act} {o : Oper} {neg : Bool} {t ty : TypeId} {x y : Operand} {dx dy : Od} (ho : o.op = .binOp (if neg then .neq else .eql) t x y ty) (hdx : cOd x = some dx) (hdy : cOd y = some dy)
    (hu : P.underlying t = some .bool)
    (hK : HeapOK K H D) (hx : OnOd K S a x) (hy : OnOd K S a y) {v : V} {H' : Heap} (he : evOp S H (.eqB neg dx dy) = some (v, H')) : OpDone P K H D (execOp a.eval o) v H' := by
  have hrx := od_rep hdx hx
  have hry := od_rep hdy hy
  simp only [evOp] at he
  split at he
  · rename_i p q h1 h2
    cases he
    rw [h1] at hrx; rw [h2] at hry
    refine OpDone.same (c := .bool (if neg then !(p == q) else p == q)) hK ?_ (by simp [Rep])
    have hrun : ∀ w, (Op.equal t (.bool p) (.bool q)).run P w = .ok (p == q) w := fun w => run_equalIn_bool' w 9999 t p q hu
    unfold execOp; rw [ho]
    cases neg
    · simp only [Bool.false_eq_true, if_false, Sem.run_bind, rep_sc hrx, rep_sc hry, eqGuard, binOp, hrun, Result.andThen_ok, Sem.run_pure]
      simp [hrun]
    · simp only [if_true, Sem.run_bind, rep_sc hrx, rep_sc hry, eqGuard, binOp, hrun, Result.andThen_ok, Sem.run_pure]
      simp [hrun]
  · cases he
theorem equalIn_nil' {P : Program} {t e : TypeId} (hu : P.underlying t = some (.slice e)) (d : Nat) (ao : Option Addr) (n c n' c' : Nat) (w : World) :
    (Op.equalIn (d + 1) t (.slice ao n c) (.slice none n' c')).run P w = .ok ao.isNone w := by
  cases ao <;> simp [Op.equalIn, run_underlying hu]
theorem equalIn_nil {P : Program} {t e : TypeId} (hu : P.underlying t = some (.slice e)) (ao : Option Addr) (n c n' c' : Nat) (w : World) :
    (Op.equal t (.slice ao n c) (.slice none n' c')).run P w = .ok ao.isNone w := equalIn_nil' hu 9999 ao n c n' c' w
theorem snd_eqNil {P : Program} {K : Cx} {H : Heap} {D : Nat → Prop} {S : List V} {a : Act} {o : Oper} {neg : Bool} {t ty e : TypeId} {x y : Operand} {dx dy : Od} (ho : o.op = .binOp (if neg then .neq else .eql) t x y ty) (hdx : cOd x = some dx) (hdy : cOd y = some dy)
    (hu : P.underlying t = some (.slice e))
    (hK : HeapOK K H D) (hx : OnOd K S a x) (hy : OnOd K S a y) {v : V} {H' : Heap} (he : evOp S H (.eqNil neg dx dy) = some (v, H')) : OpDone P K H D (execOp a.eval o) v H' := by
  have hrx := od_rep hdx hx
  have hry := od_rep hdy hy
  simp only [evOp, Option.map_eq_some_iff] at he
  obtain ⟨r, hr, he⟩ := he
  cases he
  have key : ∀ (ao : Option Addr) (n c n' c' : Nat), a.eval x = .slice ao n c → a.eval y = .slice none n' c' → ao.isNone = r → OpDone P K H D (execOp a.eval o) (.sc (.bool (if neg then !r else r))) H := by
    intro ao n c n' c' h1 h2 h3
    refine OpDone.same (c := .bool (if neg then !r else r)) hK ?_ (by simp [Rep])
    unfold execOp; rw [ho]
    cases neg
    · simp only [Bool.false_eq_true, if_false, Sem.run_bind, h1, h2, eqGuard, binOp, Result.andThen_ok, Sem.run_pure]
      simp [equalIn_nil hu, h3]
    · simp only [if_true, Sem.run_bind, h1, h2, eqGuard, binOp, Result.andThen_ok, Sem.run_pure]
      simp [equalIn_nil hu, h3]
  unfold evEqNil at hr
  split at hr
  · rename_i h2
    rw [h2] at hry
    split at hr
    · rename_i h1; rw [h1] at hrx; cases hr
      exact key _ _ _ _ _ (rep_sc hrx) (rep_sc hry) rfl
    · rename_i h1; rw [h1] at hrx; cases hr
      simp only [Rep] at hrx; obtain ⟨ad, cap, hc, _⟩ := hrx
      exact key _ _ _ _ _ hc (rep_sc hry) rfl
    · rename_i h1; rw [h1] at hrx; cases hr
      simp only [Rep] at hrx; obtain ⟨b, oo, cap, _, hc, _⟩ := hrx
      exact key _ _ _ _ _ hc (rep_sc hry) rfl
    · cases hr
  · cases hr
theorem equalIn_pnil {P : Program} {t e : TypeId} (hu : P.underlying t = some (.pointer e)) (d : Nat) (ao : Option Addr) (w : World) :
    (Op.equalIn (d + 1) t (.pointer ao) (.pointer none)).run P w = .ok ao.isNone w := by
  cases ao <;> simp [Op.equalIn, run_underlying hu]
theorem snd_eqPn {P : Program} {K : Cx} {H : Heap} {D : Nat → Prop} {S : List V} {a : Act} {o : Oper} {neg : Bool} {t ty e : TypeId} {x y : Operand} {dx dy : Od} (ho : o.op = .binOp (if neg then .neq else .eql) t x y ty) (hdx : cOd x = some dx) (hdy : cOd y = some dy)
    (hu : P.underlying t = some (.pointer e))
    (hK : HeapOK K H D) (hx : OnOd K S a x) (hy : OnOd K S a y) {v : V} {H' : Heap} (he : evOp S H (.eqPn neg dx dy) = some (v, H')) : OpDone P K H D (execOp a.eval o) v H' := by
  have hrx := od_rep hdx hx
  have hry := od_rep hdy hy
  simp only [evOp, Option.map_eq_some_iff] at he
  obtain ⟨r, hr, he⟩ := he
  cases he
  have key : ∀ (ao : Option Addr), a.eval x = .pointer ao → a.eval y = .pointer none → ao.isNone = r → OpDone P K H D (execOp a.eval o) (.sc (.bool (if neg then !r else r))) H := by
    intro ao h1 h2 h3
    refine OpDone.same (c := .bool (if neg then !r else r)) hK ?_ (by simp [Rep])
    have heq : ∀ w, (Op.equal t (.pointer ao) (.pointer none)).run P w = .ok ao.isNone w := fun w => equalIn_pnil hu 9999 ao w
    unfold execOp; rw [ho]
    cases neg
    · simp only [Bool.false_eq_true, if_false, Sem.run_bind, h1, h2, eqGuard, binOp, Result.andThen_ok, Sem.run_pure]
      simp [heq, h3]
    · simp only [if_true, Sem.run_bind, h1, h2, eqGuard, binOp, Result.andThen_ok, Sem.run_pure]
      simp [heq, h3]
  unfold evEqPn at hr
  split at hr
  · rename_i h2
    rw [h2] at hry
    split at hr
    · rename_i h1; rw [h1] at hrx; cases hr
      exact key _ (rep_sc hrx) (rep_sc hry) rfl
    · rename_i h1; rw [h1] at hrx; cases hr
      simp only [Rep] at hrx; obtain ⟨b, _, hc⟩ := hrx
      exact key _ hc (rep_sc hry) rfl
    · rename_i h1; rw [h1] at hrx; cases hr
      simp only [Rep] at hrx; obtain ⟨ad, hc, _⟩ := hrx
      exact key _ hc (rep_sc hry) rfl
    · cases hr
  · cases hr
theorem strOf_spec : ∀ (cs : List V) (l : List UInt8), strOf cs = some l → ∃ ns : List Int, cs = ns.map (fun n => V.sc (.int .u8 n)) ∧ l = ns.map fun n => UInt8.ofNat n.toNat
  | [], l, h => by simp only [strOf] at h; cases h; exact ⟨[], rfl, rfl⟩
  | v :: cs, l, h => by
    unfold strOf at h
    split at h
    · simp_all
    · rename_i n r heq
      simp only [List.cons.injEq] at heq
      obtain ⟨rfl, rfl⟩ := heq
      simp only [Option.map_eq_some_iff] at h
      obtain ⟨l', hl', rfl⟩ := h
      obtain ⟨ns, rfl, rfl⟩ := strOf_spec cs l' hl'
      exact ⟨n :: ns, rfl, rfl⟩
    · cases h
theorem foldl_push (ns : List Int) : ∀ (s : ByteArray), ns.foldl (fun r n => r.push (UInt8.ofNat n.toNat)) s = ⟨s.data ++ (ns.map fun n => UInt8.ofNat n.toNat).toArray⟩ := by
  induction ns with
  | nil => intro s; cases s; simp
  | cons n ns ih =>
    intro s
    simp only [List.foldl_cons]
    rw [ih]
    cases s
    simp [ByteArray.push]
theorem scs_ints {K : Cx} : ∀ {ns : List Int} {l : List Value}, RepL K (ns.map fun n => V.sc (.int .u8 n)) l → l = ns.map (Value.int .u8)
  | [], l, h => by simpa [RepL] using h
  | n :: ns, l, h => by
    simp only [List.map_cons, RepL] at h
    obtain ⟨c, l', rfl, h1, h2⟩ := h
    rw [rep_sc h1, scs_ints h2]; rfl
theorem slCells_run {P : Program} {K : Cx} {H : Heap} {D : Nat → Prop} (hK : HeapOK K H D) {sz : Nat} {v : V} {n : Nat} {cs : List V} (h : slCells H sz v = some (n, cs)) (hD : ∀ i ∈ idV v, D i) {c : Value} (hr : Rep K v c) (hsz : sz ≠ 0) :
    cs.length = n * sz ∧ ∃ ao cap, c = .slice ao n cap ∧ (ao = none → n = 0 ∧ cap = 0) ∧ n ≤ cap ∧ ∀ a, ao = some a → RepC K cs a 0 := by
  unfold slCells at h
  split at h
  · cases h
    exact ⟨by simp, none, 0, rep_sc hr, fun _ => ⟨rfl, rfl⟩, Nat.le_refl _, fun a h => by cases h⟩
  · split at h
    · rename_i hl
      cases h
      simp only [Rep] at hr; obtain ⟨a, cap, hc, hn, _, hcs⟩ := hr
      exact ⟨hl, some a, cap, hc, (fun h => by cases h), hn, (fun a' h => by cases h; exact hcs)⟩
    · cases h
  · rename_i id off n' sz'
    split at h
    · rename_i cells hb
      split at h
      · rename_i hc0
        obtain ⟨rfl, hle⟩ := hc0
        cases h
        simp only [Rep] at hr; obtain ⟨b, o, cap, hb', hc, hn, ho, _⟩ := hr
        obtain ⟨b2, cells2, hb2, hH, hok⟩ := hK.blk id (hD id (by simp [idV]))
        rw [hb'] at hb2; cases hb2
        rw [blkAt_iff, hH] at hb; cases hb
        refine ⟨by simp; omega, some ⟨b, o, none⟩, cap, hc, (fun h => by cases h), hn, fun a h => ?_⟩
        cases h
        by_cases hn0 : n = 0
        · subst hn0; simp [RepC]
        · have : o = off := by rcases ho with ho | ho; · omega
                               · exact ho
          subst this
          have := ((RepC.of_blk hok).drop o).take (n * sz')
          have hadd : (⟨b, 0, none⟩ : Addr).add o = ⟨b, o, none⟩ := by unfold Addr.add; split <;> simp_all
          rwa [hadd] at this
      · cases h
    · cases h
  · cases h
theorem repC_cells {K : Cx} {cs : List V} {a : Addr} (h : RepC K cs a 0) : ∃ l : List Value, RepO K cs l ∧ ∀ (j : Nat) (u : Value), l[j]? = some u → K.w.cell? (a.add j) = some u := by
  let f : Nat → Value := fun j => (K.w.cell? (a.add j)).getD undef
  have hf : ∀ j, j < cs.length → ∃ c, K.w.cell? (a.add j) = some c ∧ c.oneCell' = true ∧ Rep K (cs[j]?.getD .dead) c ∧ f j = c := fun j hj => by
    obtain ⟨c, hcell, h1, hr⟩ := h.get j cs[j] (List.getElem?_eq_getElem hj)
    simp only [Nat.zero_add] at hcell
    exact ⟨c, hcell, h1, by simpa [List.getElem?_eq_getElem hj] using hr, by simp [f, hcell]⟩
  refine ⟨(List.range cs.length).map f, RepO.iff.2 ⟨RepL.mk (by simp) fun i v c hv hc => ?_, fun c hc => ?_⟩, fun j u hu => ?_⟩
  · have hi : i < cs.length := (List.getElem?_eq_some_iff.1 hv).1
    obtain ⟨c', h1, h2, h3, h4⟩ := hf i hi
    rw [List.getElem?_map, List.getElem?_range hi] at hc
    simp only [Option.map_some, Option.some.injEq] at hc
    rw [h4] at hc; subst hc
    rw [hv] at h3; exact h3
  · obtain ⟨j, hj, rfl⟩ := List.mem_map.1 hc
    obtain ⟨c', h1, h2, h3, h4⟩ := hf j (by simpa using hj)
    rw [h4]; exact h2
  · by_cases hj : j < cs.length
    · obtain ⟨c', h1, h2, h3, h4⟩ := hf j hj
      rw [List.getElem?_map, List.getElem?_range hj] at hu
      simp only [Option.map_some, Option.some.injEq] at hu
      rw [← hu, h4]; exact h1
    · rw [List.getElem?_eq_none (by simp; omega)] at hu; cases hu
theorem snd_toStr {P : Program} {K : Cx} {H : Heap} {D : Nat → Prop} {S : List V} {a : Act} {o : Oper} {src dst e : TypeId} {x : Operand} {d : Od} (ho : o.op = .convert src dst x) (hd : cOd x = some d)
    (h1 : P.underlying src = some (.slice e)) (h2 : P.underlying dst = some .string) (h3 : P.underlying e = some (.int .u8))
    (hK : HeapOK K H D) (hx : OnOd K S a x) (hfoot : ∀ i ∈ footOp S (.toStr d), D i) {v : V} {H' : Heap} (he : evOp S H (.toStr d) = some (v, H')) : OpDone P K H D (execOp a.eval o) v H' := by
  have hrep := od_rep hd hx
  simp only [evOp] at he
  split at he
  · rename_i n cs hcs
    simp only [Option.map_eq_some_iff] at he
    obtain ⟨l, hl, he⟩ := he
    cases he
    obtain ⟨hlen, ao, cap, hc, hnil, hcap, hcells⟩ := slCells_run (P := P) hK hcs hfoot hrep (by omega)
    obtain ⟨ns, rfl, rfl⟩ := strOf_spec _ _ hl
    refine OpDone.same (c := .string ⟨(ns.map fun n => UInt8.ofNat n.toNat).toArray⟩) hK ?_ (by simp [Rep])
    have hconv := run_convert_bytes_string (P := P) K.w src dst e ao n cap h1 h3 h2
    have hrun : (Conv.bytesToString (.slice ao n cap)).run P K.w = .ok (.string ⟨(ns.map fun n => UInt8.ofNat n.toNat).toArray⟩) K.w := by
      cases ao with
      | none =>
        obtain ⟨rfl, rfl⟩ := hnil rfl
        simp at hlen; subst hlen
        rfl
      | some ad =>
        obtain ⟨cl, hcl, hcell⟩ := repC_cells (hcells ad rfl)
        have := scs_ints (RepO.iff.1 hcl).1
        subst this
        simp only [List.length_map, Nat.mul_one] at hlen
        subst hlen
        have hload := run_loadCells_list (P := P) K.w ad _ hcell
        simp only [List.length_map] at hload
        rw [run_bytesToString K.w ad ns.length cap ns hload, foldl_push]
        simp
    unfold execOp; rw [ho]
    simp only [hc, Sem.run_bind, hconv, hrun, Result.andThen_ok]
    rfl
  · cases he
theorem push_modify (h : Array Obj) (x : Obj) (f : Obj → Obj) : (h.push x).modify h.size f = h.push (f x) := by
  apply Array.ext_getElem?
  intro i
  rw [Array.getElem?_modify, Array.getElem?_push, Array.getElem?_push]
  by_cases hi : i = h.size
  · subst hi; simp
  · rw [if_neg (Ne.symm hi), if_neg hi, if_neg hi]
theorem run_mark_new {P : Program} (w : World) (C : Array Value) (e : TypeId) :
    (markStringish ⟨w.heap.size, 0, none⟩).run P { w with heap := w.heap.push (.cells C e (0, 0)) } = .ok () { w with heap := w.heap.push (.cells C e (C.size, C.size + 1)) } := by
  have hs : ({ w with heap := w.heap.push (.cells C e (0, 0)) } : World).shape? w.heap.size = some (e, C.size) := by
    simp [World.shape?]
  have hf : ({ w with heap := w.heap.push (.cells C e (0, 0)) } : World).freeze { block := w.heap.size, off := C.size } 1 = { w with heap := w.heap.push (.cells C e (C.size, C.size + 1)) } := by
    simp only [World.freeze]
    rw [if_neg (by omega), push_modify]
    rfl
  simp only [markStringish, Sem.run_bind, run_shape, hs, Result.andThen_ok]
  simp only [run_freeze, hf]
theorem snd_toBytes {P : Program} {K : Cx} {H : Heap} {D : Nat → Prop} {S : List V} {a : Act} {o : Oper} {src dst e : TypeId} {x : Operand} {d : Od} (ho : o.op = .convert src dst x) (hd : cOd x = some d)
    (h1 : P.underlying src = some .string) (h2 : P.underlying dst = some (.slice e)) (h3 : P.underlying e = some (.int .u8))
    (hK : HeapOK K H D) (hfresh : K.β H.length = none) (hx : OnOd K S a x) {v : V} {H' : Heap} (he : evOp S H (.toBytes d) = some (v, H')) : OpDone P K H D (execOp a.eval o) v H' := by
  have hrep := od_rep hd hx
  simp only [evOp] at he
  split at he
  · rename_i s hs
    rw [hs] at hrep
    split at he
    · rename_i hle
      cases he
      let cap := (Question.appendCap s.size 0 e).cut (K.w.tape K.w.drawn (.appendCap s.size 0 e))
      have hcap : s.size ≤ cap := by simp [cap, Question.cut]
      let C : Array Value := (s.data.map fun b => Value.int .u8 b.toNat) ++ Array.replicate (cap - s.size) (.int .u8 0)
      have hC : C.size = cap := by
        simp only [C, Array.size_append, Array.size_map, Array.size_replicate]
        show s.data.size + (cap - s.data.size) = cap
        have : s.data.size ≤ cap := hcap
        omega
      have hconv : (convert src dst (.string s)).run P K.w = (Conv.stringToBytes e s).run P K.w := by
        simp [convert, run_underlying h1, run_underlying h2, run_underlying h3]
      refine OpDone.alloc (c := .slice (some ⟨K.w.heap.size, 0, none⟩) s.size cap) (C := C) (e := e) (lo := C.size) (up := C.size + 1)
        (w' := { K.w with drawn := K.w.drawn + 1, heap := K.w.heap.push (.cells C e (C.size, C.size + 1)) }) hK hfresh ?_ rfl rfl rfl rfl ?_ (.inr (Nat.le_refl _)) ?_ ?_ ?_
      · unfold execOp; rw [ho]
        have hmark := run_mark_new (P := P) { K.w with drawn := K.w.drawn + 1 } C e
        simp only [rep_sc hrep, Sem.run_bind, hconv, Conv.stringToBytes, run_choose, Question.forced, Bool.false_eq_true, if_false, Result.andThen_ok, newRow, run_newObj, Sem.run_pure]
        erw [hmark]
        rfl
      · rw [hC]; simp; exact hcap
      · intro i c hc
        simp only [C] at hc
        rcases Array.mem_append.1 (Array.mem_of_getElem? hc) with hm | hm
        · obtain ⟨b, _, rfl⟩ := Array.mem_map.1 hm; rfl
        · have := Array.eq_of_mem_replicate hm; subst this; rfl
      · intro i v hv
        rw [List.getElem?_map] at hv
        simp only [Option.map_eq_some_iff] at hv
        obtain ⟨b, hb, rfl⟩ := hv
        refine ⟨.int .u8 b.toNat, ?_, by simp [u8V, Rep]⟩
        rw [Array.getElem?_toList] at hb
        have hlt := (Array.getElem?_eq_some_iff.1 hb).1
        simp only [C]
        rw [Array.getElem?_append_left (by simpa using hlt)]
        simp [hb]
      · intro K' _ hb hh
        simp only [Rep]
        exact ⟨_, _, _, hb, rfl, hcap, .inr rfl, _, _, _, hh, by rw [hC]; omega⟩
    · cases he
  · cases he
end Go.Proofs.YtfpoebmihjbknaaGreat.VA

/- The soundness of single operations of 'VA': slice expressions, append, copy. -/
set_option linter.unusedVariables false
set_option linter.unusedSimpArgs false
namespace Go.Proofs.YtfpoebmihjbknaaGreat.VA
open Go
theorem run_mark_old {P : Program} {w : World} {b o : Nat} {C : Array Value} {e : TypeId} {lo up : Nat} (hC : w.heap[b]? = some (.cells C e (lo, up))) (hfz : lo = up ∨ C.size ≤ lo) :
    ∃ w' lo' up', (markStringish ⟨b, o, none⟩).run P w = .ok () w' ∧ Wrote w w' b C e (lo', up') ∧ (lo' = up' ∨ C.size ≤ lo') := by
  have hs : w.shape? b = some (e, C.size) := by simp [World.shape?, hC]
  refine ⟨w.freeze { block := b, off := C.size } 1, (if lo == up then (C.size, C.size + 1) else (min lo C.size, max up (C.size + 1))).1, (if lo == up then (C.size, C.size + 1) else (min lo C.size, max up (C.size + 1))).2, ?_, ?_, ?_⟩
  · simp only [markStringish, Sem.run_bind, run_shape, hs, Result.andThen_ok]
    simp only [run_freeze]
  · refine ⟨rfl, rfl, rfl, by simp [World.freeze], fun k hk => ?_, ?_⟩
    · simp only [World.freeze]
      rw [if_neg (by omega)]
      simp only [Array.getElem?_modify]
      rw [if_neg (Ne.symm hk)]
    · simp only [World.freeze]
      rw [if_neg (by omega)]
      simp only [Array.getElem?_modify, hC, if_true, Option.map_some]
  · by_cases h : lo = up
    · subst h; right; simp
    · have : (lo == up) = false := by simpa using h
      rw [this]
      right
      simp only [Bool.false_eq_true, if_false]
      rcases hfz with hfz | hfz
      · exact absurd hfz h
      · omega
theorem set_self {H : Heap} {id : Nat} {o : Option (List V)} (h : H[id]? = some o) : H.set id o = H := by
  apply List.ext_getElem?
  intro i
  by_cases hi : id = i
  · subst hi; rw [List.getElem?_set_self (List.getElem?_eq_some_iff.1 h).1, h]
  · rw [List.getElem?_set_ne hi]
theorem snd_mark {P : Program} {K : Cx} {H : Heap} {D : Nat → Prop} {S : List V} {a : Act} {o : Oper} {src dst e e0 : TypeId} {x : Operand} {d : Od} (ho : o.op = .convert src dst x) (hsd : src = dst) (hd : cOd x = some d)
    (h1 : P.underlying src = some (.slice e0)) (h2 : P.underlying dst = some (.slice e)) (h3 : P.underlying e = some (.int .u8))
    (hK : HeapOK K H D) (hx : OnOd K S a x) (hfoot : ∀ i ∈ footOp S (.mark d), D i) {v : V} {H' : Heap} (he : evOp S H (.mark d) = some (v, H')) : OpDone P K H D (execOp a.eval o) v H' := by
  have hrep := od_rep hd hx
  simp only [evOp] at he
  simp only [footOp] at hfoot
  split at he
  · rename_i id off n sz hv
    rw [hv] at hrep hfoot
    split at he
    · rename_i cells hb
      cases he
      have hrep' := hrep
      simp only [Rep] at hrep; obtain ⟨b, oo, cap, hb', hc, _⟩ := hrep
      have hD := hfoot id (by simp [idV])
      obtain ⟨b2, cells2, hb2, hH, C, e1, lo, up, hC, hl, hfz, h1c, hcc⟩ := hK.blk id hD
      rw [hb'] at hb2; cases hb2
      rw [blkAt_iff, hH] at hb; cases hb
      obtain ⟨w', lo', up', hrun, hwr, hfz'⟩ := run_mark_old (P := P) (o := oo) hC hfz
      obtain ⟨hK', hst⟩ := wrote_sound hK hD hb' hC hwr rfl hl hfz' h1c hcc
      rw [set_self hH] at hK' hst
      refine ⟨.value (a.eval x), a.eval x, _, ?_, .inl rfl, hK', hst, Rep.pres (hst.pres hK) _ _ hrep'⟩
      unfold execOp; rw [ho]
      subst hsd
      have hconv : (convert src src (.slice (some ⟨b, oo, none⟩) n cap)).run P K.w = .ok (.slice (some ⟨b, oo, none⟩) n cap) w' := by
        simp [convert, run_underlying h2, run_underlying h3, hrun]
      simp only [hc, Sem.run_bind, hconv, Result.andThen_ok]
      rfl
    · cases he
  · cases he
theorem bnd_run {P : Program} {K : Cx} {S : List V} {a : Act} {oo : Option Operand} {d : Option Od} {dflt mx h : Nat} (hd : cOpt oo = some d) (hx : ∀ x, oo = some x → OnOd K S a x) (hb : bnd S d dflt mx = some h) :
    (oo = none ∧ h = dflt) ∨ ∃ x k i, oo = some x ∧ a.eval x = .int k i ∧ 0 ≤ i ∧ i ≤ mx ∧ h = i.toNat := by
  cases oo with
  | none => simp only [cOpt] at hd; cases hd; simp only [bnd] at hb; cases hb; exact .inl ⟨rfl, rfl⟩
  | some x =>
    simp only [cOpt, Option.map_eq_some_iff] at hd
    obtain ⟨d', hd', rfl⟩ := hd
    simp only [bnd] at hb
    split at hb
    · rename_i i hi
      split at hb
      · rename_i hle
        cases hb
        obtain ⟨k, hk⟩ := int_rep hi (od_rep hd' (hx x rfl))
        exact .inr ⟨x, k, i, rfl, hk, hle.1, hle.2, rfl⟩
      · cases hb
    · cases hb
theorem bounds_run {P : Program} {K : Cx} {S : List V} {a : Act} {lo hi : Option Operand} {dl dh : Option Od} {n cap l h : Nat} (isS : Bool) (hl : cOpt lo = some dl) (hh : cOpt hi = some dh) (hxl : ∀ x, lo = some x → OnOd K S a x) (hxh : ∀ x, hi = some x → OnOd K S a x)
    (hbh : bnd S dh n n = some h) (hbl : bnd S dl 0 h = some l) (hn : n ≤ cap) (w : World) :
    l ≤ h ∧ h ≤ n ∧ (Instr.sliceBounds isS n cap (lo.map a.eval) (hi.map a.eval) none).run P w = .ok (l, h, cap) w := by
  have eh := bnd_run (P := P) hh hxh hbh
  have el := bnd_run (P := P) hl hxl hbl
  have hhn : h ≤ n := by rcases eh with ⟨_, rfl⟩ | ⟨x, k, i, _, _, _, h2, rfl⟩ <;> omega
  have hlh : l ≤ h := by rcases el with ⟨_, rfl⟩ | ⟨x, k, i, _, _, _, h2, rfl⟩ <;> omega
  refine ⟨hlh, hhn, ?_⟩
  have runb : ∀ (k : IntKind) (i : Int) (m : Nat) (code : BoundsCode), 0 ≤ i → i ≤ m → (Instr.sliceBound (.int k i) m code).run P w = .ok i.toNat w := fun k i m code h0 h1 => by
    simp [Instr.sliceBound, asIntOf, h0, h1]
  rcases eh with ⟨rfl, rfl⟩ | ⟨x, k, i, rfl, hx, h1, h2, rfl⟩
  · rcases el with ⟨rfl, rfl⟩ | ⟨y, k', j, rfl, hy, h3, h4, rfl⟩
    · simp [Instr.sliceBounds]
    · simp [Instr.sliceBounds, hy, runb k' j _ _ h3 h4]
  · rcases el with ⟨rfl, rfl⟩ | ⟨y, k', j, rfl, hy, h3, h4, rfl⟩
    · simp [Instr.sliceBounds, hx, runb k i cap _ h1 (by omega)]
    · simp [Instr.sliceBounds, hx, hy, runb k i cap _ h1 (by omega), runb k' j _ _ h3 h4]
theorem snd_sliceArr {P : Program} {K : Cx} {H : Heap} {D : Nat → Prop} {S : List V} {a : Act} {o : Oper} {t e : TypeId} {x : Operand} {lo hi : Option Operand} {d : Od} {dl dh : Option Od} {n sz : Nat} (ho : o.op = .slice t x lo hi none) (hd : cOd x = some d)
    (hl : cOpt lo = some dl) (hh : cOpt hi = some dh) (h1 : P.underlying t = some (.array n e)) (h2 : sizeC P e = some sz)
    (hK : HeapOK K H D) (hx : OnOd K S a x) (hxl : ∀ x, lo = some x → OnOd K S a x) (hxh : ∀ x, hi = some x → OnOd K S a x) (hfoot : ∀ i ∈ footOp S (.sliceArr n sz d dl dh), D i)
    {v : V} {H' : Heap} (he : evOp S H (.sliceArr n sz d dl dh) = some (v, H')) : OpDone P K H D (execOp a.eval o) v H' := by
  have hrep := od_rep hd hx
  simp only [evOp] at he
  simp only [footOp] at hfoot
  split at he
  · rename_i h hbh
    split at he
    · rename_i l hbl
      obtain ⟨hlh, hhn, hbr⟩ := bounds_run (P := P) false hl hh hxl hxh hbh hbl (Nat.le_refl n) K.w
      have hrun : ∀ (ad : Addr), a.eval x = .pointer (some ad) → (execOp a.eval o).run P K.w = .ok (.value (.slice (some (if n = l then ad else ad.add (l * sz))) (h - l) (n - l))) K.w := by
        intro ad hc
        unfold execOp; rw [ho]
        simp [Instr.sliceAt, Instr.sureAddr, run_underlying h1, hc, hbr, info_size h2]
      cases hv : d.ev S with
      | ref id off =>
        rw [hv] at he hrep hfoot
        simp only [] at he
        split at he
        · rename_i cells hb
          split at he
          · rename_i hle
            cases he
            simp only [Rep] at hrep; obtain ⟨b, hb', hc⟩ := hrep
            refine OpDone.same hK (hrun _ hc) ?_
            obtain ⟨b2, cells2, hb2, hH, C, e1, lo', up, hC, hcl, _⟩ := hK.blk id (hfoot id (by simp [idV]))
            rw [hb'] at hb2; cases hb2
            rw [blkAt_iff, hH] at hb; cases hb
            have hmul : l * sz + (n - l) * sz = n * sz := by rw [← Nat.add_mul]; congr 1; omega
            simp only [Rep]
            by_cases hnl : n = l
            · rw [if_pos hnl]
              exact ⟨b, off, n - l, hb', rfl, by omega, .inl (by omega), C, e1, _, hC, by omega⟩
            · rw [if_neg hnl]
              have hadd : (⟨b, off, none⟩ : Addr).add (l * sz) = ⟨b, off + l * sz, none⟩ := by unfold Addr.add; split <;> simp_all
              rw [hadd]
              exact ⟨b, off + l * sz, n - l, hb', rfl, by omega, .inr rfl, C, e1, _, hC, by omega⟩
          · cases he
        · cases he
      | box cs =>
        rw [hv] at he hrep
        simp only [] at he
        split at he
        · rename_i hle
          cases he
          simp only [Rep] at hrep; obtain ⟨ad, hc, hro, hcs⟩ := hrep
          refine OpDone.same hK (hrun _ hc) ?_
          simp only [Rep]
          by_cases hnl : n = l
          · rw [if_pos hnl]
            refine ⟨ad, n - l, rfl, by omega, .inl ?_, ?_⟩
            · rw [show h - l = 0 by omega]; simp
            · rw [show h - l = 0 by omega]; simp [RepC]
          · rw [if_neg hnl]
            refine ⟨_, n - l, rfl, by omega, ?_, (hcs.drop _).take _⟩
            exact hro.imp (by rintro rfl; simp) (by rw [add_block]; exact id)
        · cases he
      | _ => rw [hv] at he; simp at he
    · cases he
  · cases he
theorem snd_sliceSl {P : Program} {K : Cx} {H : Heap} {D : Nat → Prop} {S : List V} {a : Act} {o : Oper} {t e : TypeId} {x : Operand} {lo hi : Option Operand} {d : Od} {dl dh : Option Od} {sz : Nat} (ho : o.op = .slice t x lo hi none) (hd : cOd x = some d)
    (hl : cOpt lo = some dl) (hh : cOpt hi = some dh) (h1 : P.underlying t = some (.slice e)) (h2 : sizeC P e = some sz)
    (hK : HeapOK K H D) (hx : OnOd K S a x) (hxl : ∀ x, lo = some x → OnOd K S a x) (hxh : ∀ x, hi = some x → OnOd K S a x)
    {v : V} {H' : Heap} (he : evOp S H (.sliceSl sz d dl dh) = some (v, H')) : OpDone P K H D (execOp a.eval o) v H' := by
  have hrep := od_rep hd hx
  have hrun : ∀ (ao : Option Addr) (n cap l h : Nat), a.eval x = .slice ao n cap → (Instr.sliceBounds true n cap (lo.map a.eval) (hi.map a.eval) none).run P K.w = .ok (l, h, cap) K.w →
      (execOp a.eval o).run P K.w = .ok (.value (.slice (if cap = l then ao else ao.map (·.add (l * sz))) (h - l) (cap - l))) K.w := by
    intro ao n cap l h hc hbr
    unfold execOp; rw [ho]
    simp [Instr.sliceAt, Instr.slice, run_underlying h1, hc, hbr, info_size h2]
  simp only [evOp] at he
  split at he
  · rename_i hv
    split at he
    · rename_i h hbh
      split at he
      · rename_i l hbl
        cases he
        obtain ⟨hlh, hhn, hbr⟩ := bounds_run (P := P) true hl hh hxl hxh hbh hbl (Nat.le_refl 0) K.w
        rw [hv] at hrep
        have := hrun none 0 0 l h (rep_sc hrep) hbr
        have hh0 : h = 0 := by omega
        have hl0 : l = 0 := by omega
        subst hh0; subst hl0
        exact OpDone.same hK this (by simp [Rep])
      · cases he
    · cases he
  · rename_i n cs hv
    split at he
    · rename_i h hbh
      split at he
      · rename_i l hbl
        split at he
        · rename_i hlen
          cases he
          rw [hv] at hrep
          simp only [Rep] at hrep; obtain ⟨ad, cap, hc, hcap, hro, hcs⟩ := hrep
          obtain ⟨hlh, hhn, hbr⟩ := bounds_run (P := P) true hl hh hxl hxh hbh hbl hcap K.w
          refine OpDone.same hK (hrun _ _ _ _ _ hc hbr) ?_
          simp only [Rep]
          by_cases hnl : cap = l
          · rw [if_pos hnl]
            refine ⟨ad, cap - l, rfl, by omega, .inl ?_, ?_⟩
            · rw [show h - l = 0 by omega]; simp
            · rw [show h - l = 0 by omega]; simp [RepC]
          · rw [if_neg hnl]
            refine ⟨ad.add (l * sz), cap - l, rfl, by omega, ?_, (hcs.drop _).take _⟩
            exact hro.imp (by rintro rfl; simp) (by rw [add_block]; exact id)
        · cases he
      · cases he
    · cases he
  · rename_i id off n sz' hv
    split at he
    · rename_i h hbh
      split at he
      · rename_i l hbl
        split at he
        · rename_i hsz
          subst hsz
          cases he
          rw [hv] at hrep
          simp only [Rep] at hrep; obtain ⟨b, oo, cap, hb, hc, hcap, hoo, C, e1, fz, hC, hle⟩ := hrep
          obtain ⟨hlh, hhn, hbr⟩ := bounds_run (P := P) true hl hh hxl hxh hbh hbl hcap K.w
          refine OpDone.same hK (hrun _ _ _ _ _ hc hbr) ?_
          have hmul : l * sz' + (cap - l) * sz' = cap * sz' := by rw [← Nat.add_mul]; congr 1; omega
          simp only [Rep]
          by_cases hnl : cap = l
          · rw [if_pos hnl]
            exact ⟨b, oo, cap - l, hb, rfl, by omega, .inl (by omega), C, e1, fz, hC, by omega⟩
          · rw [if_neg hnl]
            have hoo' : oo = off := by rcases hoo with hoo | hoo; · omega
                                       · exact hoo
            subst hoo'
            have hadd : (⟨b, oo, none⟩ : Addr).add (l * sz') = ⟨b, oo + l * sz', none⟩ := by unfold Addr.add; split <;> simp_all
            simp only [Option.map_some, hadd]
            exact ⟨b, oo + l * sz', cap - l, hb, rfl, by omega, .inr rfl, C, e1, fz, hC, by omega⟩
        · cases he
      · cases he
    · cases he
  · cases he
theorem snd_sliceStr {P : Program} {K : Cx} {H : Heap} {D : Nat → Prop} {S : List V} {a : Act} {o : Oper} {t : TypeId} {x : Operand} {lo hi : Option Operand} {d : Od} {dl dh : Option Od} (ho : o.op = .slice t x lo hi none) (hd : cOd x = some d)
    (hl : cOpt lo = some dl) (hh : cOpt hi = some dh) (h1 : P.underlying t = some .string)
    (hK : HeapOK K H D) (hx : OnOd K S a x) (hxl : ∀ x, lo = some x → OnOd K S a x) (hxh : ∀ x, hi = some x → OnOd K S a x)
    {v : V} {H' : Heap} (he : evOp S H (.sliceStr d dl dh) = some (v, H')) : OpDone P K H D (execOp a.eval o) v H' := by
  have hrep := od_rep hd hx
  simp only [evOp] at he
  split at he
  · rename_i s hv
    split at he
    · rename_i h hbh
      split at he
      · rename_i l hbl
        cases he
        obtain ⟨hlh, hhn, hbr⟩ := bounds_run (P := P) false hl hh hxl hxh hbh hbl (Nat.le_refl s.size) K.w
        rw [hv] at hrep
        refine OpDone.same (c := .string (s.extract l h)) hK ?_ (by simp [Rep])
        unfold execOp; rw [ho]
        simp [Instr.sliceAt, Instr.slice, run_underlying h1, rep_sc hrep, hbr]
      · cases he
    · cases he
  · cases he
theorem repO_bytes {K : Cx} : ∀ (l : List UInt8), RepO K (l.map u8V) (l.map fun b => Value.int .u8 b.toNat)
  | [] => by simp [RepO]
  | b :: l => by
    simp only [List.map_cons, RepO, u8V, Rep]
    exact ⟨_, _, rfl, rfl, rfl, repO_bytes l⟩
theorem src_run {P : Program} {K : Cx} {H : Heap} {D : Nat → Prop} (hK : HeapOK K H D) {sz : Nat} {v : V} {m : Nat} {ys : List V} (h : srcCells H sz v = some (m, ys)) (hD : ∀ i ∈ idV v, D i) {c : Value} (hr : Rep K v c) (hsz : sz ≠ 0) :
    ys.length = m * sz ∧ ∃ news : List Value, RepO K ys news ∧ (∀ w, (Builtin.lenOf c).run P w = .ok m w) ∧
      ∀ (k : Nat) (w : World), k ≤ m → w.heap = K.w.heap → (Builtin.firstCells sz k c).run P w = .ok (news.take (k * sz)).toArray w := by
  unfold srcCells at h
  split at h
  · rename_i s
    split at h
    · rename_i hs1
      subst hs1
      cases h
      have hc := rep_sc hr
      refine ⟨by simp, _, repO_bytes s.data.toList, fun w => by simp [hc, Builtin.lenOf], fun k w hk _ => ?_⟩
      simp only [hc, Builtin.firstCells, Sem.run_pure, Nat.mul_one]
      congr 1
      apply Array.ext'
      simp only [Array.toList_map]
      rw [← List.map_take]
      congr 1
      simp [ByteArray.extract, ByteArray.copySlice]
    · cases h
  · obtain ⟨hlen, ao, cap, hc, hnil, hcap, hcells⟩ := slCells_run (P := P) hK h hD hr hsz
    cases ao with
    | none =>
      obtain ⟨rfl, rfl⟩ := hnil rfl
      have : ys = [] := List.eq_nil_of_length_eq_zero (by simpa using hlen)
      subst this
      refine ⟨hlen, [], by simp [RepO], fun w => by simp [hc, Builtin.lenOf], fun k w hk _ => ?_⟩
      have : k = 0 := by omega
      subst this
      simp [hc, Builtin.firstCells]
    | some ad =>
      obtain ⟨news, hnews, hcell⟩ := repC_cells (hcells ad rfl)
      refine ⟨hlen, news, hnews, fun w => by simp [hc, Builtin.lenOf], fun k w hk hw => ?_⟩
      have hl := RepL.length (RepO.iff.1 hnews).1
      have hle : k * sz ≤ m * sz := Nat.mul_le_mul_right _ hk
      have hrun := run_loadCells_list (P := P) w ad (news.take (k * sz)) (fun j u hu => by
        rw [List.getElem?_take] at hu
        split at hu
        · exact (cell_block (by rw [hw])).trans (hcell j u hu)
        · cases hu)
      have hlt : (news.take (k * sz)).length = k * sz := by simp; omega
      rw [hlt] at hrun
      simp only [hc, Builtin.firstCells, hrun]
theorem Dn_kill {D : Nat → Prop} {H : Heap} {id : Nat} {o : Option (List V)} {i : Nat} (h : Dn D H (H.set id none ++ [o]) i) : (D i ∧ i ≠ id ∧ i < H.length) ∨ i = H.length ∨ (H.length ≤ i ∧ D i) := by
  obtain ⟨h1, h2⟩ := h
  have hlt := h2.lt
  simp only [List.length_append, List.length_set, List.length_cons, List.length_nil] at hlt
  by_cases hi : i < H.length
  · left
    refine ⟨by rcases h1 with h1 | h1; · exact h1
               · omega, fun hid => ?_, hi⟩
    subst hid
    obtain ⟨c, hc⟩ := h2
    rw [List.getElem?_append_left (by simpa using hi), List.getElem?_set_self hi] at hc
    cases hc
  · right; left; omega
theorem HeapOK.kill {K : Cx} {H : Heap} {D D' : Nat → Prop} {id : Nat} (h : HeapOK K H D) (hs : ∀ i, D' i → D i ∧ i ≠ id) : HeapOK K (H.set id none) D' := by
  refine ⟨fun i j c hi hj => h.inj i j c (hs i hi).1 (hs j hj).1, fun i hi => ?_, fun i b hi => h.own i b (hs i hi).1, h.low⟩
  obtain ⟨b, cells, hb, hH, hok⟩ := h.blk i (hs i hi).1
  exact ⟨b, cells, hb, by rw [List.getElem?_set_ne (Ne.symm (hs i hi).2)]; exact hH, hok⟩
theorem HeapOK.mono {K : Cx} {H : Heap} {D D' : Nat → Prop} (h : HeapOK K H D) (hs : ∀ i, D' i → D i) : HeapOK K H D' :=
  ⟨fun i j c hi hj => h.inj i j c (hs i hi) (hs j hj), fun i hi => h.blk i (hs i hi), fun i b hi => h.own i b (hs i hi), h.low⟩
theorem inplace_sound {K : Cx} {H : Heap} {D : Nat → Prop} (h : HeapOK K H D) (hfresh : K.β H.length = none) {id b : Nat} (hD : D id) (hb : K.β id = some b) {w' : World} {C C' : Array Value} {e : TypeId} {fz : Nat × Nat} {lo up : Nat}
    (hC : K.w.heap[b]? = some (.cells C e fz)) (hw : Wrote K.w w' b C' e (lo, up)) (hsz : C'.size = C.size) {cells : List V}
    (hlen : cells.length ≤ C'.size) (hfz : lo = up ∨ C'.size ≤ lo) (h1 : ∀ (i : Nat) (c : Value), C'[i]? = some c → c.oneCell' = true)
    (hc : ∀ (i : Nat) (v : V), cells[i]? = some v → ∃ c : Value, C'[i]? = some c ∧ Rep K v c) :
    ∃ K', K'.w = w' ∧ HeapOK K' (H.set id none ++ [some cells]) (Dn D H (H.set id none ++ [some cells])) ∧ Step K H D K' (H.set id none ++ [some cells]) (Dn D H (H.set id none ++ [some cells])) ∧ K'.β H.length = some b := by
  let K' : Cx := { w := w', β := fun i => if i = H.length then some b else K.β i, N := K.N, B := K.B, R := K.R }
  have hβ : ∀ i, i ≠ H.length → K'.β i = K.β i := fun i hi => if_neg hi
  have hDlt : ∀ i, D i → i < H.length := fun i hi => (h.live hi).lt
  have hDn : ∀ i, Dn D H (H.set id none ++ [some cells]) i → (D i ∧ i ≠ id ∧ i ≠ H.length) ∨ i = H.length := fun i hi => by
    rcases Dn_kill hi with h1 | h1 | h1
    · exact .inl ⟨h1.1, h1.2.1, by omega⟩
    · exact .inr h1
    · have := hDlt i h1.2; omega
  have hstep : Step K H D K' (H.set id none ++ [some cells]) (Dn D H (H.set id none ++ [some cells])) := by
    refine ⟨rfl, rfl, hw.os, hw.tape, hw.output, by show K.w.heap.size ≤ w'.heap.size; rw [hw.size]; exact Nat.le_refl _, by simp, ?_, ?_, fun b hb => .inl hb, fun b hb _ _ => hb, ?_, ?_, ?_⟩
    · intro i b0 hb0
      by_cases hi : i = H.length
      · subst hi; rw [hfresh] at hb0; cases hb0
      · rw [hβ i hi]; exact hb0
    · intro i b0 hb0
      by_cases hi : i = H.length
      · subst hi
        have : (some b : Option Nat) = some b0 := by rw [← hb0]; exact (if_pos rfl).symm
        cases this
        exact .inr ⟨hfresh, Nat.le_refl _, by simp, .inr ⟨id, hD, hb⟩⟩
      · rw [hβ i hi] at hb0; exact .inl hb0
    · intro i hi
      rcases hDn i hi with hd | hd
      · exact .inl hd.1
      · subst hd; exact .inr ⟨hfresh, Nat.le_refl _, by simp⟩
    · intro k hk hno
      exact hw.other k fun hkb => hno ⟨id, hD, by rw [hkb]; exact hb⟩
    · intro k C0 e0 fz0 hC0
      by_cases hkb : k = b
      · subst hkb
        rw [hC] at hC0; cases hC0
        exact ⟨C', _, hw.here, hsz⟩
      · exact ⟨C0, fz0, by show w'.heap[k]? = _; rw [hw.other k hkb]; exact hC0, rfl⟩
  have hpres : Pres K K' := hstep.pres h
  have hnewβ : K'.β H.length = some b := if_pos rfl
  refine ⟨K', rfl, ⟨?_, ?_, ?_, ?_⟩, hstep, hnewβ⟩
  · intro i j c hi hj hbi hbj
    rcases hDn i hi with ⟨h1, h2, h3⟩ | h1 <;> rcases hDn j hj with ⟨h4, h5, h6⟩ | h4
    · rw [hβ i h3] at hbi; rw [hβ j h6] at hbj; exact h.inj i j c h1 h4 hbi hbj
    · subst h4; rw [hβ i h3] at hbi; rw [hnewβ] at hbj; cases hbj
      exact absurd (h.inj i id _ h1 hD hbi hb) h2
    · subst h1; rw [hβ j h6] at hbj; rw [hnewβ] at hbi; cases hbi
      exact absurd (h.inj j id _ h4 hD hbj hb) h5
    · omega
  · intro i hi
    rcases hDn i hi with ⟨h1, h2, h3⟩ | h1
    · obtain ⟨b0, cs0, hb0, hH, hok⟩ := h.blk i h1
      refine ⟨b0, cs0, by rw [hβ i h3]; exact hb0, ?_, hok.pres hpres (hw.other b0 fun hbb => ?_)⟩
      · rw [List.getElem?_append_left (by simpa using hDlt i h1), List.getElem?_set_ne (Ne.symm h2)]; exact hH
      · subst hbb; exact h2 (h.inj i id b0 h1 hD hb0 hb)
    · subst h1
      refine ⟨b, cells, hnewβ, by rw [List.getElem?_append_right (by simp)]; simp, C', e, lo, up, hw.here, hlen, hfz, h1, fun i v hv => ?_⟩
      obtain ⟨c, hcc, hr⟩ := hc i v hv
      exact ⟨c, hcc, Rep.pres hpres v c hr⟩
  · intro i c hi hbi
    rcases hDn i hi with ⟨h1, h2, h3⟩ | h1
    · rw [hβ i h3] at hbi; exact h.own i c h1 hbi
    · subst h1; rw [hnewβ] at hbi; cases hbi; exact h.own id b hD hb
  · show K.B ≤ w'.heap.size
    rw [hw.size]; exact h.low
theorem zeros_size (z : Array Value) (n : Nat) : (Builtin.zeroCells z n).size = n * z.size := by simp [Builtin.zeroCells]
theorem zeros_one {z : Array Value} (hone : z.toList.all (·.oneCell') = true) (hpos : 0 < z.size) (n : Nat) (c : Value) (hc : c ∈ Builtin.zeroCells z n) : c.oneCell' = true := by
  unfold Builtin.zeroCells at hc
  obtain ⟨i, _, rfl⟩ := Array.mem_map.1 hc
  have hm : i % z.size < z.size := Nat.mod_lt _ hpos
  rw [getElem!_pos z _ hm]
  exact List.all_eq_true.1 hone _ (by simp)
theorem take_full {l : List Value} {n : Nat} (h : l.length = n) : l.take n = l := by rw [← h, List.take_length]
theorem run_append_grow_va {P : Program} {t t' ty e : TypeId} {i : TypeInfo} {z : Value} (h1 : P.underlying t = some (.slice e)) (hu' : (∃ e', P.underlying t' = some (.slice e')) ∨ P.underlying t' = some .string) (hi : P.info? e = some i) (hz : i.zero = some z)
    {ao : Option Addr} {n cap m : Nat} {xv yv : Value} (hx : xv = .slice ao n cap) {w : World} (olds news : List Value) (hln : (Builtin.lenOf yv).run P w = .ok m w)
    (hlt : cap < n + m) (hb : (n + m) * i.bytes ≤ 140737488355328) (hm : n + m ≤ 140737488355328)
    (hold : ∀ w', w'.heap = w.heap → (Builtin.firstCells i.size n xv).run P w' = .ok olds.toArray w') (hnew : ∀ w', w'.heap = w.heap → (Builtin.firstCells i.size m yv).run P w' = .ok news.toArray w') :
    ∃ newCap, n + m ≤ newCap ∧ (Builtin.append_ #[t, t'] ty #[xv, yv]).run P w =
      .ok (.slice (some ⟨w.heap.size, 0, none⟩) (n + m) newCap) (w.drew.alloc (.cells (olds.toArray ++ (news.toArray ++ Builtin.zeroCells z.cells (newCap - (n + m)))) e)) := by
  have hfit := growslice_fits (need := n + m) (old := cap) (bytes := i.bytes) hlt hb
  have h48 : ¬ (281474976710656 < Builtin.nextslicecap (n + m) cap * i.bytes) := by omega
  have h63 : ¬ (9223372036854775807 < ((n : Int) + (m : Int))) := by omega
  have hr : ¬ (n + m ≤ cap) := by omega
  refine ⟨(Question.appendCap (n + m) cap e).cut (w.tape w.drawn (.appendCap (n + m) cap e)), by simp [Question.cut], ?_⟩
  have hold' := hold w.drew rfl
  have hnew' := hnew w.drew rfl
  subst hx
  rcases hu' with ⟨e', hd'⟩ | hd'
  all_goals simp [Builtin.append_, run_underlying h1, run_underlying hd', sizeOf, typeInfo, hi, zeroValue, hz, hln, hr, h63, h48, Question.forced, hold', hnew', newRow]
theorem run_append_room_va {P : Program} {t t' ty e : TypeId} {i : TypeInfo} (h1 : P.underlying t = some (.slice e)) (hu' : (∃ e', P.underlying t' = some (.slice e')) ∨ P.underlying t' = some .string) (hi : P.info? e = some i)
    {ad : Addr} {n cap m : Nat} {xv yv : Value} (hx : xv = .slice (some ad) n cap) {w w' : World} (news : List Value) (hln : (Builtin.lenOf yv).run P w = .ok m w)
    (hle : n + m ≤ cap) (hnew : (Builtin.firstCells i.size m yv).run P w = .ok news.toArray w) (hst : (storeCells (ad.add (n * i.size)) news).run P w = .ok () w') :
    (Builtin.append_ #[t, t'] ty #[xv, yv]).run P w = .ok (.slice (some ad) (n + m) cap) w' := by
  subst hx
  rcases hu' with ⟨e', hd'⟩ | hd'
  all_goals simp [Builtin.append_, run_underlying h1, run_underlying hd', sizeOf, typeInfo, hi, hln, hle, hnew, hst]
theorem run_append_none_va {P : Program} {t t' ty e : TypeId} {i : TypeInfo} (h1 : P.underlying t = some (.slice e)) (hu' : (∃ e', P.underlying t' = some (.slice e')) ∨ P.underlying t' = some .string) (hi : P.info? e = some i)
    {xv yv : Value} (hx : xv = .slice none 0 0) {w : World} (news : List Value) (hln : (Builtin.lenOf yv).run P w = .ok 0 w)
    (hnew : (Builtin.firstCells i.size 0 yv).run P w = .ok news.toArray w) :
    (Builtin.append_ #[t, t'] ty #[xv, yv]).run P w = .ok (.slice none 0 0) w := by
  subst hx
  rcases hu' with ⟨e', hd'⟩ | hd'
  all_goals simp [Builtin.append_, run_underlying h1, run_underlying hd', sizeOf, typeInfo, hi, hln, hnew]
theorem repO_append {K : Cx} {xs ys : List V} {a b : List Value} (h1 : RepO K xs a) (h2 : RepO K ys b) : RepO K (xs ++ ys) (a ++ b) := by
  induction xs generalizing a with
  | nil => simp only [RepO] at h1; subst h1; simpa using h2
  | cons x xs ih =>
    simp only [RepO] at h1; obtain ⟨c, l', rfl, h3, h4, h5⟩ := h1
    simp only [List.cons_append, RepO]
    exact ⟨c, _, rfl, h3, h4, ih h5⟩
theorem repO_take {K : Cx} {xs : List V} {a : List Value} (h : RepO K xs a) (n : Nat) : RepO K (xs.take n) (a.take n) := by
  induction xs generalizing a n with
  | nil => simp only [RepO] at h; subst h; simp [RepO]
  | cons x xs ih =>
    simp only [RepO] at h; obtain ⟨c, l', rfl, h3, h4, h5⟩ := h
    cases n with
    | zero => simp [RepO]
    | succ n => simp only [List.take_succ_cons, RepO]; exact ⟨c, _, rfl, h3, h4, ih h5 n⟩
theorem exec_append {P : Program} {a : Act} {o : Oper} {args : Array Operand} {tys : Array TypeId} {x y : Operand} {t t' : TypeId} (ho : o.op = .call { callee := .builtin .append, args, argTypes := tys })
    (ha : args = #[x, y]) (ht0 : tys[0]? = some t) (ht1 : tys[1]? = some t') {c : Value} {w w' : World}
    (h : (Builtin.append_ #[t, t'] o.type #[a.eval x, a.eval y]).run P w = .ok c w') : (execOp a.eval o).run P w = .ok (.value c) w' := by
  have e : ∀ tys : Array TypeId, tys[0]? = some t → tys[1]? = some t' → Builtin.append_ tys o.type #[a.eval x, a.eval y] = Builtin.append_ #[t, t'] o.type #[a.eval x, a.eval y] := by
    intro tys h0 h1
    simp only [Builtin.append_, h0, h1]
    rfl
  unfold execOp; rw [ho]
  subst ha
  simp only [Sem.run_bind, resolve_builtin, Sem.run_pure, Result.andThen_ok, invoke, builtin, Array.map]
  simp [e tys ht0 ht1, h]
theorem snd_append {P : Program} {K : Cx} {H : Heap} {D : Nat → Prop} {S : List V} {a : Act} {o : Oper} {args : Array Operand} {tys : Array TypeId} {t t' e : TypeId} {x y : Operand} {dx dy : Od} {i : TypeInfo} {zs : List Value}
    (ho : o.op = .call { callee := .builtin .append, args, argTypes := tys }) (ha : args = #[x, y]) (ht0 : tys[0]? = some t) (ht1 : tys[1]? = some t') (hdx : cOd x = some dx) (hdy : cOd y = some dy)
    (h1 : P.underlying t = some (.slice e)) (hu' : (∃ e', P.underlying t' = some (.slice e')) ∨ P.underlying t' = some .string) (hi : P.info? e = some i) (hz : zeroC P e = some zs) (hsz : i.size ≠ 0)
    (hK : HeapOK K H D) (hx : OnOd K S a x) (hy : OnOd K S a y) (hfoot : ∀ j ∈ footOp S (.append i.size i.bytes dx dy), D j)
    {v : V} {H' : Heap} (hfresh : H.length < H'.length → K.β H.length = none) (he : evOp S H (.append i.size i.bytes dx dy) = some (v, H')) : OpDone P K H D (execOp a.eval o) v H' := by
  have hrx := od_rep hdx hx
  have hry := od_rep hdy hy
  obtain ⟨i', z, hi', hzz, rfl, hs, hone⟩ := zeroC_spec hz
  rw [hi] at hi'; cases hi'
  simp only [footOp, List.mem_append] at hfoot
  simp only [evOp] at he
  split at he
  · rename_i m ys hsrc
    obtain ⟨hylen, news, hnews, hln, hfc⟩ := src_run (P := P) hK hsrc (fun j hj => hfoot j (.inr hj)) hry hsz
    have hnl := RepL.length (RepO.iff.1 hnews).1
    have hnewrun : ∀ w', w'.heap = K.w.heap → (Builtin.firstCells i.size m (a.eval y)).run P w' = .ok news.toArray w' := fun w' hw' => by
      rw [hfc m w' (Nat.le_refl _) hw', take_full (by omega)]
    split at he
    · rename_i hv
      rw [hv] at hrx
      have hxv := rep_sc hrx
      split at he
      · rename_i hm0
        subst hm0
        cases he
        refine OpDone.same (c := .slice none 0 0) hK (exec_append ho ha ht0 ht1 (run_append_none_va h1 hu' hi hxv news (hln _) (hnewrun _ rfl))) (by simp [Rep])
      · rename_i hm0
        split at he
        · rename_i hb
          cases he
          have hfresh := hfresh (by simp)
          obtain ⟨newCap, hcap, hrun⟩ := run_append_grow_va (P := P) (ty := o.type) h1 hu' hi hzz (n := 0) (cap := 0) (m := m) hxv [] news (hln K.w) (by omega) (by rw [Nat.zero_add]; exact hb.1) (by omega)
            (fun w' _ => by rw [hxv]; rfl) hnewrun
          simp only [Nat.zero_add] at hrun hcap
          have hcells : RepO K ys news := hnews
          refine OpDone.alloc (cells := ys) hK hfresh (exec_append ho ha ht0 ht1 hrun) rfl rfl rfl rfl ?_ (.inl rfl) ?_ ?_ ?_
          · simp; omega
          · intro j c hc
            rcases Array.mem_append.1 (Array.mem_of_getElem? hc) with hm | hm
            · simp at hm
            · rcases Array.mem_append.1 hm with hm | hm
              · simp at hm; exact (RepO.iff.1 hnews).2 c hm
              · exact zeros_one hone (by omega) _ c hm
          · intro j u hu
            obtain ⟨c, hc, hr⟩ := (RepO.iff.1 hnews).1.get j u hu
            refine ⟨c, ?_, hr⟩
            have hlt := (List.getElem?_eq_some_iff.1 hc).1
            rw [← Array.append_assoc, Array.getElem?_append_left (by simpa using hlt)]
            simpa using hc
          · intro K' _ hb' hh
            simp only [Rep]
            refine ⟨_, _, _, hb', rfl, hcap, .inr rfl, _, _, _, hh, ?_⟩
            simp only [Array.size_append, List.size_toArray, List.length_nil, zeros_size, hs, Nat.zero_add]
            rw [hnl, hylen, ← Nat.add_mul]
            exact Nat.mul_le_mul_right _ (by omega)
        · cases he
    · rename_i id off n sz' hv
      rw [hv] at hrx
      split at he
      · rename_i cells hblk
        split at he
        · rename_i hcond
          obtain ⟨rfl, rfl, hnc, hb, hm⟩ := hcond
          cases he
          have hfresh := hfresh (by simp)
          simp only [Rep] at hrx
          obtain ⟨b, oo, cap, hbβ, hxv, hncap, hoo, C0, e0, fz0, hC0, hcapsz⟩ := hrx
          have hD := hfoot id (.inl (by rw [hv]; simp [idV]))
          obtain ⟨b2, cells2, hb2, hH, C, e1, lo, up, hC, hcl, hfz, h1c, hcc⟩ := hK.blk id hD
          rw [hbβ] at hb2; cases hb2
          rw [blkAt_iff, hH] at hblk; cases hblk
          have hblkok : BlkOK K b cells := ⟨C, e1, lo, up, hC, hcl, hfz, h1c, hcc⟩
          have hcapsz : cap * i.size ≤ C.size := by
            rw [hC] at hC0; cases hC0
            simpa using hcapsz
          by_cases hroom : n + m ≤ cap
          · -- in place
            have hmulle : (n + m) * i.size ≤ cap * i.size := Nat.mul_le_mul_right _ hroom
            rw [Nat.add_mul] at hmulle
            have hoff : (n = 0 ∧ m = 0) ∨ oo = 0 := by
              rcases hoo with hoo | hoo
              · left; omega
              · exact .inr hoo
            have hst : ∃ w' C', (storeCells ((⟨b, oo, none⟩ : Addr).add (n * i.size)) news).run P K.w = .ok () w' ∧ Wrote K.w w' b C' e1 (lo, up) ∧ C'.size = C.size ∧
                (∀ k, k < n * i.size → C'[k]? = C[k]?) ∧ (∀ (j : Nat) (u : Value), news[j]? = some u → C'[n * i.size + j]? = some u) ∧ (∀ (j : Nat) (c : Value), C'[j]? = some c → c.oneCell' = true) := by
              rcases hoff with ⟨rfl, rfl⟩ | rfl
              · have : news = [] := List.eq_nil_of_length_eq_zero (by omega)
                subst this
                exact ⟨K.w, C, rfl, ⟨rfl, rfl, rfl, rfl, fun _ _ => rfl, hC⟩, rfl, fun _ _ => rfl, fun j u hu => by simp at hu, h1c⟩
              · have hadd : (⟨b, 0, none⟩ : Addr).add (n * i.size) = ⟨b, n * i.size, none⟩ := by unfold Addr.add; split <;> simp_all
                rw [hadd]
                obtain ⟨w', C', hr, hwr, hsz', hout, hin⟩ := run_storeCells_va P b (n * i.size) e1 lo up news 0 C K.w hC hfz (by omega) (RepO.iff.1 hnews).2
                refine ⟨w', C', hr, hwr, hsz', fun k hk => hout k (.inl (by omega)), fun j u hu => by have := hin j u hu; rwa [Nat.add_zero] at this, fun j c hc => ?_⟩
                by_cases hj : j < n * i.size + 0 ∨ n * i.size + 0 + news.length ≤ j
                · rw [hout j hj] at hc; exact h1c j c hc
                · have hjl : j - n * i.size < news.length := by omega
                  have := hin (j - n * i.size) _ (List.getElem?_eq_getElem hjl)
                  rw [show n * i.size + 0 + (j - n * i.size) = j by omega, hc] at this
                  cases this
                  exact (RepO.iff.1 hnews).2 _ (List.getElem_mem hjl)
            obtain ⟨w', C', hr, hwr, hsz', hout, hin, h1c'⟩ := hst
            have hlen : (cells.take (n * i.size) ++ ys).length ≤ C'.size := by
              rw [List.length_append, List.length_take, hylen]; omega
            have hcont : ∀ (j : Nat) (u : V), (cells.take (n * i.size) ++ ys)[j]? = some u → ∃ c : Value, C'[j]? = some c ∧ Rep K u c := by
              intro j u hu
              have hmin : min (n * i.size) cells.length = n * i.size := by omega
              by_cases hj : j < n * i.size
              · rw [List.getElem?_append_left (by simp; omega), List.getElem?_take_of_lt hj] at hu
                obtain ⟨c, hc1, hc2⟩ := hcc j u hu
                exact ⟨c, by rw [hout j hj]; exact hc1, hc2⟩
              · rw [List.getElem?_append_right (by simp; omega), List.length_take, hmin] at hu
                obtain ⟨c, hc1, hc2⟩ := (RepO.iff.1 hnews).1.get _ u hu
                have := hin _ c hc1
                rw [show n * i.size + (j - n * i.size) = j by omega] at this
                exact ⟨c, this, hc2⟩
            obtain ⟨K', hK'w, hOK, hst', hβ'⟩ := inplace_sound hK hfresh hD hbβ hC hwr hsz' hlen (by rw [hsz']; exact hfz) h1c' hcont
            refine ⟨_, .slice (some ⟨b, oo, none⟩) (n + m) cap, K', ?_, .inl rfl, hOK, hst', ?_⟩
            · rw [hK'w]
              exact exec_append ho ha ht0 ht1 (run_append_room_va h1 hu' hi hxv news (hln _) hroom (hnewrun _ rfl) hr)
            · simp only [Rep]
              exact ⟨b, oo, cap, hβ', rfl, hroom, hoo, C', e1, _, by rw [hK'w]; exact hwr.here, by rw [hsz']; omega⟩
          · -- a new row
            have hcellsrc : slCells H i.size (.sref id 0 n i.size) = some (n, (cells.drop 0).take (n * i.size)) := by
              simp only [slCells]
              rw [blkAt_iff.2 hH]
              simp [hnc]
            obtain ⟨_, olds, holds, _, hofc⟩ := src_run (P := P) (v := .sref id 0 n i.size) (m := n) (ys := (cells.drop 0).take (n * i.size)) (c := a.eval x) hK (by simp only [srcCells]; exact hcellsrc)
              (fun j hj => by simp only [idV, List.mem_singleton] at hj; subst hj; exact hD) (by simp only [Rep]; exact ⟨b, oo, cap, hbβ, hxv, hncap, hoo, C, e1, _, hC, by omega⟩) hsz
            have holen := RepL.length (RepO.iff.1 holds).1
            have holen' : olds.length = n * i.size := by rw [holen]; simp; omega
            obtain ⟨newCap, hcap, hrun⟩ := run_append_grow_va (P := P) (ty := o.type) h1 hu' hi hzz hxv olds news (hln K.w) (by omega) hb (by omega)
              (fun w' hw' => by rw [hofc n w' (Nat.le_refl _) hw', take_full holen']) hnewrun
            have hboth : RepO K (cells.take (n * i.size) ++ ys) (olds ++ news) := repO_append (by simpa using holds) hnews
            have hC' : ∀ (j : Nat) (c : Value), (olds.toArray ++ (news.toArray ++ Builtin.zeroCells z.cells (newCap - (n + m))))[j]? = some c → c.oneCell' = true := by
              intro j c hc
              rcases Array.mem_append.1 (Array.mem_of_getElem? hc) with hm' | hm'
              · exact (RepO.iff.1 holds).2 c (by simpa using hm')
              · rcases Array.mem_append.1 hm' with hm' | hm'
                · exact (RepO.iff.1 hnews).2 c (by simpa using hm')
                · exact zeros_one hone (by omega) _ c hm'
            have hcont : ∀ (j : Nat) (u : V), (cells.take (n * i.size) ++ ys)[j]? = some u → ∃ c : Value, (olds.toArray ++ (news.toArray ++ Builtin.zeroCells z.cells (newCap - (n + m))))[j]? = some c ∧ Rep K u c := by
              intro j u hu
              obtain ⟨c, hc, hr⟩ := (RepO.iff.1 hboth).1.get j u hu
              refine ⟨c, ?_, hr⟩
              have hlt := (List.getElem?_eq_some_iff.1 hc).1
              rw [← Array.append_assoc, Array.getElem?_append_left (by simpa using hlt)]
              simpa using hc
            have hszn : (olds.toArray ++ (news.toArray ++ Builtin.zeroCells z.cells (newCap - (n + m)))).size = newCap * i.size := by
              simp only [Array.size_append, List.size_toArray, zeros_size, hs]
              rw [holen', hnl, hylen, ← Nat.add_mul, ← Nat.add_mul]
              congr 1; omega
            have hmulle : (n + m) * i.size ≤ newCap * i.size := Nat.mul_le_mul_right _ hcap
            rw [Nat.add_mul] at hmulle
            obtain ⟨K', hK'w, hOK, hst', hβ', hh⟩ := alloc_sound (w' := K.w.drew.alloc (.cells (olds.toArray ++ (news.toArray ++ Builtin.zeroCells z.cells (newCap - (n + m)))) e))
              (lo := 0) (up := 0) (e := e) (cells := cells.take (n * i.size) ++ ys) hK hfresh rfl rfl rfl rfl (by rw [hszn, List.length_append, List.length_take, hylen]; omega) (.inl rfl) hC' hcont
            have hset : (H ++ [some (cells.take (n * i.size) ++ ys)]).set id none = H.set id none ++ [some (cells.take (n * i.size) ++ ys)] := by
              rw [List.set_append_left _ _ (hK.live hD).lt]
            have hsub : ∀ j, Dn D H (H.set id none ++ [some (cells.take (n * i.size) ++ ys)]) j → Dn D H (H ++ [some (cells.take (n * i.size) ++ ys)]) j ∧ j ≠ id := by
              intro j hj
              rcases Dn_kill hj with ⟨h1, h2, h3⟩ | h1 | h1
              · exact ⟨⟨.inl h1, by obtain ⟨c, hc⟩ := hK.live h1; exact ⟨c, by rw [List.getElem?_append_left h3]; exact hc⟩⟩, h2⟩
              · subst h1
                exact ⟨⟨.inr (Nat.le_refl _), _, by rw [List.getElem?_append_right (Nat.le_refl _)]; simp; rfl⟩, by have := (hK.live hD).lt; omega⟩
              · have := (hK.live h1.2).lt; omega
            have hOK' := hOK.kill hsub
            rw [hset] at hOK'
            have hst2 : Step K H D K' (H.set id none ++ [some (cells.take (n * i.size) ++ ys)]) (Dn D H (H.set id none ++ [some (cells.take (n * i.size) ++ ys)])) :=
              ⟨hst'.B, hst'.R, hst'.os, hst'.tape, hst'.output, hst'.size, by simp, hst'.ext, by simpa using hst'.new, hst'.nn, hst'.nk, fun j hj => by simpa using hst'.dd j (hsub j hj).1, hst'.frame, hst'.shape⟩
            refine ⟨_, .slice (some ⟨K.w.heap.size, 0, none⟩) (n + m) newCap, K', ?_, .inl rfl, hOK', hst2, ?_⟩
            · rw [hK'w]
              exact exec_append ho ha ht0 ht1 hrun
            · simp only [Rep]
              exact ⟨_, _, _, hβ', rfl, hcap, .inr rfl, _, _, _, hh, by rw [hszn]; omega⟩
        · cases he
      · cases he
    · cases he
  · cases he
theorem run_append_zero_va {P : Program} {t t' ty e : TypeId} {i : TypeInfo} {z : Value} {kd : IntKind} (h1 : P.underlying t = some (.slice e)) (hu' : P.underlying t' = some (.int kd)) (hi : P.info? e = some i) (hz : i.zero = some z)
    {k' : IntKind} {m : Int} {xv yv : Value} (hx : xv = .slice none 0 0) (hy : yv = .int k' m) {w : World} (hm1 : 1 ≤ m) (hb : m * i.bytes ≤ 140737488355328) (hm : m ≤ 140737488355328) (hsz : i.size ≠ 0) :
    ∃ newCap, m.toNat ≤ newCap ∧ (Builtin.append_ #[t, t'] ty #[xv, yv]).run P w =
      .ok (.slice (some ⟨w.heap.size, 0, none⟩) m.toNat newCap) (w.drew.alloc (.cells (#[] ++ (Builtin.zeroCells z.cells m.toNat ++ Builtin.zeroCells z.cells (newCap - m.toNat))) e)) := by
  obtain ⟨m, rfl⟩ : ∃ k : Nat, m = k := ⟨m.toNat, by omega⟩
  simp only [Int.toNat_natCast]
  have hb' : m * i.bytes ≤ 140737488355328 := by
    have h : ((m * i.bytes : Nat) : Int) ≤ 140737488355328 := by rw [Int.natCast_mul]; exact hb
    omega
  have hfit := growslice_fits (need := m) (old := 0) (bytes := i.bytes) (by omega) hb'
  have h48 : ¬ (281474976710656 < Builtin.nextslicecap m 0 * i.bytes) := by omega
  have h63 : ¬ (9223372036854775807 < (m : Int)) := by omega
  have hw : IntKind.i64.wrap (m : Int) = m := IntWalk.i64_in _ ⟨by omega, by omega⟩
  have hneg : ¬ ((m : Int) < 0) := by omega
  have hbig : ¬ (281474976710656 < (m : Int) * (i.bytes : Int)) := by omega
  have hr : ¬ (m ≤ 0) := by omega
  have hms : ¬ (m * i.size = 0) := by
    intro h
    rcases Nat.mul_eq_zero.1 h with h | h
    · omega
    · exact hsz h
  refine ⟨(Question.appendCap m 0 e).cut (w.tape w.drawn (.appendCap m 0 e)), by simp [Question.cut], ?_⟩
  subst hx; subst hy
  simp [Builtin.append_, run_underlying h1, run_underlying hu', sizeOf, typeInfo, hi, zeroValue, hz, hr, h63, h48, Question.forced, newRow, hw, hneg, hbig, hms, asInt, asIntOf, Builtin.firstCells]
  omega
theorem snd_growN {P : Program} {K : Cx} {H : Heap} {D : Nat → Prop} {S : List V} {a : Act} {o : Oper} {args : Array Operand} {tys : Array TypeId} {t t' e : TypeId} {x y : Operand} {dx dy : Od} {i : TypeInfo} {zs : List Value} {kd : IntKind}
    (ho : o.op = .call { callee := .builtin .append, args, argTypes := tys }) (ha : args = #[x, y]) (ht0 : tys[0]? = some t) (ht1 : tys[1]? = some t') (hdx : cOd x = some dx) (hdy : cOd y = some dy)
    (h1 : P.underlying t = some (.slice e)) (hu' : P.underlying t' = some (.int kd)) (hi : P.info? e = some i) (hz : zeroC P e = some zs) (hsz : i.size ≠ 0)
    (hK : HeapOK K H D) (hx : OnOd K S a x) (hy : OnOd K S a y)
    {v : V} {H' : Heap} (hfresh : H.length < H'.length → K.β H.length = none) (he : evOp S H (.growN i.size i.bytes zs dx dy) = some (v, H')) : OpDone P K H D (execOp a.eval o) v H' := by
  have hrx := od_rep hdx hx
  have hry := od_rep hdy hy
  obtain ⟨i', z, hi', hzz, rfl, hs, hone⟩ := zeroC_spec hz
  rw [hi] at hi'; cases hi'
  simp only [evOp] at he
  split at he
  · rename_i n hv hn
    rw [hv] at hrx
    have hxv := rep_sc hrx
    obtain ⟨k', hk'⟩ := int_rep hn hry
    split at he
    · rename_i hb
      cases he
      have hfresh := hfresh (by simp)
      obtain ⟨newCap, hcap, hrun⟩ := run_append_zero_va (P := P) (ty := o.type) (w := K.w) h1 hu' hi hzz hxv hk' hb.1 hb.2.1 hb.2.2 hsz
      have hcells := madeCells_rep (K := K) hone n.toNat n.toNat (Nat.le_refl _) (by omega)
      have hmade : madeCells z.cells (n.toNat * z.cells.size) = Builtin.zeroCells z.cells n.toNat := rfl
      rw [hmade] at hcells
      refine OpDone.alloc (cells := zeroCells z.cells.toList n.toNat) hK hfresh (exec_append ho ha ht0 ht1 hrun) rfl rfl rfl rfl ?_ (.inl rfl) ?_ ?_ ?_
      · have := hcells.1
        simp only [Array.size_append]
        simp at this ⊢; omega
      · intro j c hc
        rcases Array.mem_append.1 (Array.mem_of_getElem? hc) with hm | hm
        · simp at hm
        · rcases Array.mem_append.1 hm with hm | hm
          · exact zeros_one hone (by omega) _ c hm
          · exact zeros_one hone (by omega) _ c hm
      · intro j u hu
        obtain ⟨c, hc, hr⟩ := hcells.2.2 j u hu
        refine ⟨c, ?_, hr⟩
        have hlt := (Array.getElem?_eq_some_iff.1 hc).1
        rw [Array.empty_append, Array.getElem?_append_left hlt]
        exact hc
      · intro K' _ hb' hh
        simp only [Rep]
        refine ⟨_, _, _, hb', rfl, hcap, .inr rfl, _, _, _, hh, ?_⟩
        simp only [Array.size_append, zeros_size, hs]
        have : newCap = n.toNat + (newCap - n.toNat) := by omega
        rw [show 0 + newCap * i.size = (n.toNat + (newCap - n.toNat)) * i.size from by rw [← this, Nat.zero_add], Nat.add_mul]
        simp
    · cases he
  · cases he
end Go.Proofs.YtfpoebmihjbknaaGreat.VA

/- The soundness of single operations of 'VA', all together. -/
set_option linter.unusedVariables false
set_option linter.unusedSimpArgs false
namespace Go.Proofs.YtfpoebmihjbknaaGreat.VA
open Go
theorem exec_copy {P : Program} {a : Act} {o : Oper} {args : Array Operand} {tys : Array TypeId} {x y : Operand} {t e : TypeId} {i : TypeInfo} (ho : o.op = .call { callee := .builtin .copy, args, argTypes := tys })
    (ha0 : args[0]? = some x) (ha1 : args[1]? = some y) (ht0 : tys[0]? = some t) (h1 : P.underlying t = some (.slice e)) (hi : P.info? e = some i)
    {ad : Addr} {n cap m : Nat} (hx : a.eval x = .slice (some ad) n cap) {w w' : World} {cells : List Value} (hln : (Builtin.lenOf (a.eval y)).run P w = .ok m w)
    (hfc : (Builtin.firstCells i.size (min m n) (a.eval y)).run P w = .ok cells.toArray w) (hst : (storeCells ad cells).run P w = .ok () w') :
    (execOp a.eval o).run P w = .ok (.value (.int .i64 (min m n : Nat))) w' := by
  unfold execOp; rw [ho]
  have hm : Nat.min m n = min m n := rfl
  simp [resolve_builtin, invoke, builtin, Builtin.copy_, ha0, ha1, ht0, hx, run_underlying h1, hln, hm, sizeOf, typeInfo, hi, hfc, hst, goInt]
theorem snd_copy {P : Program} {K : Cx} {H : Heap} {D : Nat → Prop} {S : List V} {a : Act} {o : Oper} {args : Array Operand} {tys : Array TypeId} {t e : TypeId} {x y : Operand} {dx dy : Od} {i : TypeInfo}
    (ho : o.op = .call { callee := .builtin .copy, args, argTypes := tys }) (ha0 : args[0]? = some x) (ha1 : args[1]? = some y) (ht0 : tys[0]? = some t) (hdx : cOd x = some dx) (hdy : cOd y = some dy)
    (h1 : P.underlying t = some (.slice e)) (hi : P.info? e = some i) (hsz : i.size ≠ 0)
    (hK : HeapOK K H D) (hx : OnOd K S a x) (hy : OnOd K S a y) (hfoot : ∀ j ∈ footOp S (.copy i.size dx dy), D j)
    {v : V} {H' : Heap} (he : evOp S H (.copy i.size dx dy) = some (v, H')) : OpDone P K H D (execOp a.eval o) v H' := by
  have hrx := od_rep hdx hx
  have hry := od_rep hdy hy
  simp only [footOp, List.mem_append] at hfoot
  simp only [evOp] at he
  split at he
  · rename_i m ys id off n sz' hsrc hv
    obtain ⟨hylen, news, hnews, hln, hfc⟩ := src_run (P := P) hK hsrc (fun j hj => hfoot j (.inr hj)) hry hsz
    have hnl := RepL.length (RepO.iff.1 hnews).1
    rw [hv] at hrx
    split at he
    · rename_i cells hblk
      split at he
      · rename_i hcond
        obtain ⟨rfl, hle⟩ := hcond
        cases he
        simp only [Rep] at hrx
        obtain ⟨b, oo, cap, hbβ, hxv, hncap, hoo, _⟩ := hrx
        have hD := hfoot id (.inl (by rw [hv]; simp [idV]))
        obtain ⟨b2, cells2, hb2, hH, C, e1, lo, up, hC, hcs, hfz, h1c, hcc⟩ := hK.blk id hD
        rw [hbβ] at hb2; cases hb2
        rw [blkAt_iff, hH] at hblk; cases hblk
        have hk : min m n ≤ m := Nat.min_le_left _ _
        have hmul1 : min m n * i.size ≤ m * i.size := Nat.mul_le_mul_right _ hk
        have hmul2 : min m n * i.size ≤ n * i.size := Nat.mul_le_mul_right _ (Nat.min_le_right _ _)
        have hcl := repO_take hnews (min m n * i.size)
        have hcl' := RepO.iff.1 hcl
        have hlen := RepL.length hcl'.1
        have hlen2 : (ys.take (min m n * i.size)).length = min m n * i.size := by rw [List.length_take]; omega
        have hst : ∃ w' C', (storeCells ⟨b, oo, none⟩ (news.take (min m n * i.size))).run P K.w = .ok () w' ∧ Wrote K.w w' b C' e1 (lo, up) ∧ C'.size = C.size ∧
            (∀ k, k < off ∨ off + min m n * i.size ≤ k → C'[k]? = C[k]?) ∧ (∀ (j : Nat) (u : Value), (news.take (min m n * i.size))[j]? = some u → C'[off + j]? = some u) := by
          rcases hoo with hoo | hoo
          · have hn0 : n = 0 := by omega
            subst hn0
            have : news.take (min m 0 * i.size) = [] := by simp
            rw [this]
            exact ⟨K.w, C, rfl, ⟨rfl, rfl, rfl, rfl, fun _ _ => rfl, hC⟩, rfl, fun _ _ => rfl, fun j u hu => by simp at hu⟩
          · subst hoo
            obtain ⟨w', C', hr, hwr, hsz', hout, hin⟩ := run_storeCells_va P b oo e1 lo up (news.take (min m n * i.size)) 0 C K.w hC hfz (by omega) hcl'.2
            exact ⟨w', C', hr, hwr, hsz', fun k hk => hout k (by omega), fun j u hu => by have := hin j u hu; rwa [Nat.add_zero] at this⟩
        obtain ⟨w', C', hr, hwr, hsz', hout, hin⟩ := hst
        have hspl : ∀ (j : Nat) (u : V), (splice cells off (ys.take (min m n * i.size)))[j]? = some u → ∃ c : Value, C'[j]? = some c ∧ Rep K u c := by
          intro j u hu
          unfold splice at hu
          by_cases h1 : j < off
          · rw [List.getElem?_append_left (by simp; omega), List.getElem?_take_of_lt h1] at hu
            obtain ⟨c, hc1, hc2⟩ := hcc j u hu
            exact ⟨c, by rw [hout j (.inl (by omega))]; exact hc1, hc2⟩
          · rw [List.getElem?_append_right (by simp; omega)] at hu
            have hmin : min off cells.length = off := by omega
            simp only [List.length_take (l := cells), hmin] at hu
            by_cases h2 : j - off < (ys.take (min m n * i.size)).length
            · rw [List.getElem?_append_left h2] at hu
              obtain ⟨c, hc1, hc2⟩ := hcl'.1.get (j - off) u hu
              have := hin (j - off) c hc1
              rw [show off + (j - off) = j by omega] at this
              exact ⟨c, this, hc2⟩
            · rw [List.getElem?_append_right (by omega), List.getElem?_drop] at hu
              rw [show off + (ys.take (min m n * i.size)).length + (j - off - (ys.take (min m n * i.size)).length) = j by omega] at hu
              obtain ⟨c, hc1, hc2⟩ := hcc j u hu
              exact ⟨c, by rw [hout j (.inr (by omega))]; exact hc1, hc2⟩
        have h1c' : ∀ (j : Nat) (c : Value), C'[j]? = some c → c.oneCell' = true := by
          intro j c hc
          by_cases hj : j < off ∨ off + min m n * i.size ≤ j
          · rw [hout j hj] at hc; exact h1c j c hc
          · have hjl : j - off < (news.take (min m n * i.size)).length := by omega
            have := hin (j - off) _ (List.getElem?_eq_getElem hjl)
            rw [show off + (j - off) = j by omega, hc] at this
            cases this
            exact hcl'.2 _ (List.getElem_mem hjl)
        have hsplen : (splice cells off (ys.take (min m n * i.size))).length ≤ C'.size := by
          rw [splice_len (by omega)]; omega
        obtain ⟨hK', hst'⟩ := wrote_sound hK hD hbβ hC hwr hsz' hsplen (by rw [hsz']; exact hfz) h1c' hspl
        refine ⟨_, .int .i64 (min m n : Nat), _, exec_copy ho ha0 ha1 ht0 h1 hi hxv (hln _) (hfc _ _ hk rfl) hr, .inl rfl, hK', hst', by simp [Rep]⟩
      · cases he
    · cases he
  · cases he
theorem exec_zap0 {P : Program} {a : Act} {o : Oper} {args : Array Operand} {tys : Array TypeId} {x : Operand} {t e : TypeId} (ho : o.op = .call { callee := .builtin .clear, args, argTypes := tys })
    (ha0 : args[0]? = some x) (ht0 : tys[0]? = some t) (h1 : P.underlying t = some (.slice e)) (hx : a.eval x = .slice none 0 0) {w : World} :
    (execOp a.eval o).run P w = .ok (.value (.tuple #[])) w := by
  unfold execOp; rw [ho]
  simp [resolve_builtin, invoke, builtin, Builtin.clear_, ha0, ht0, hx, run_underlying h1]
theorem exec_zapN {P : Program} {a : Act} {o : Oper} {args : Array Operand} {tys : Array TypeId} {x : Operand} {t e : TypeId} (ho : o.op = .call { callee := .builtin .clear, args, argTypes := tys })
    (ha0 : args[0]? = some x) (ht0 : tys[0]? = some t) (h1 : P.underlying t = some (.slice e)) {ad : Addr} {cap : Nat} (hx : a.eval x = .slice (some ad) 0 cap) {w : World} :
    (execOp a.eval o).run P w = .ok (.value (.tuple #[])) w := by
  unfold execOp; rw [ho]
  simp [resolve_builtin, invoke, builtin, Builtin.clear_, ha0, ht0, hx, run_underlying h1]
theorem exec_zap {P : Program} {a : Act} {o : Oper} {args : Array Operand} {tys : Array TypeId} {x : Operand} {t e : TypeId} {i : TypeInfo} {z : Value} (ho : o.op = .call { callee := .builtin .clear, args, argTypes := tys })
    (ha0 : args[0]? = some x) (ht0 : tys[0]? = some t) (h1 : P.underlying t = some (.slice e)) (hi : P.info? e = some i) (hz : i.zero = some z)
    {ad : Addr} {n cap : Nat} (hx : a.eval x = .slice (some ad) (n + 1) cap) {w w' : World} (hst : (storeCells ad (Builtin.zeroCells z.cells (n + 1)).toList).run P w = .ok () w') :
    (execOp a.eval o).run P w = .ok (.value (.tuple #[])) w' := by
  unfold execOp; rw [ho]
  simp [resolve_builtin, invoke, builtin, Builtin.clear_, ha0, ht0, hx, run_underlying h1, zeroValue, typeInfo, hi, hz, hst]
theorem zc_get {z : Array Value} {n j : Nat} {u : V} (hz : 0 < z.size) (hu : (zeroCells z.toList n)[j]? = some u) : ∃ c : Value, (Builtin.zeroCells z n).toList[j]? = some c ∧ u = .sc c := by
  have hl : j < n * z.size := by
    have := (List.getElem?_eq_some_iff.1 hu).1
    simpa [zeroCells] using this
  have h2 : (Builtin.zeroCells z n).toList[j]? = some (z[j % z.size]!) := by
    unfold Builtin.zeroCells
    simp [hl]
  refine ⟨_, h2, ?_⟩
  have hm : j % z.size < z.size := Nat.mod_lt _ hz
  rw [zeroCells_get _ n j (by simpa using hl)] at hu
  simp only [Array.length_toList, Option.map_eq_some_iff] at hu
  obtain ⟨c, hc, rfl⟩ := hu
  rw [List.getElem?_eq_getElem (by simpa using hm)] at hc
  cases hc
  rw [getElem!_pos z _ hm]
  simp
theorem snd_zap {P : Program} {K : Cx} {H : Heap} {D : Nat → Prop} {S : List V} {a : Act} {o : Oper} {args : Array Operand} {tys : Array TypeId} {t e : TypeId} {x : Operand} {dx : Od} {i : TypeInfo} {zs : List Value}
    (ho : o.op = .call { callee := .builtin .clear, args, argTypes := tys }) (ha0 : args[0]? = some x) (ht0 : tys[0]? = some t) (hdx : cOd x = some dx)
    (h1 : P.underlying t = some (.slice e)) (hi : P.info? e = some i) (hz : zeroC P e = some zs) (hsz : i.size ≠ 0)
    (hK : HeapOK K H D) (hx : OnOd K S a x) (hfoot : ∀ j ∈ footOp S (.zap i.size zs dx), D j)
    {v : V} {H' : Heap} (he : evOp S H (.zap i.size zs dx) = some (v, H')) : OpDone P K H D (execOp a.eval o) v H' := by
  have hrx := od_rep hdx hx
  obtain ⟨i', z, hi', hzz, rfl, hs, hone⟩ := zeroC_spec hz
  rw [hi] at hi'; cases hi'
  simp only [footOp] at hfoot
  simp only [evOp] at he
  split at he
  · rename_i hv
    rw [hv] at hrx
    cases he
    exact OpDone.same (c := .tuple #[]) hK (exec_zap0 ho ha0 ht0 h1 (rep_sc hrx)) (by simp [Rep])
  · rename_i id off n sz' hv
    rw [hv] at hrx
    split at he
    · rename_i cells hblk
      split at he
      · rename_i hcond
        obtain ⟨rfl, hle⟩ := hcond
        cases he
        simp only [Rep] at hrx
        obtain ⟨b, oo, cap, hbβ, hxv, hncap, hoo, _⟩ := hrx
        have hD := hfoot id (by rw [hv]; simp [idV])
        obtain ⟨b2, cells2, hb2, hH, C, e1, lo, up, hC, hcs, hfz, h1c, hcc⟩ := hK.blk id hD
        rw [hbβ] at hb2; cases hb2
        rw [blkAt_iff, hH] at hblk; cases hblk
        have hnl : (Builtin.zeroCells z.cells n).toList.length = n * i.size := by rw [Array.length_toList, zeros_size, hs]
        have hyl : (zeroCells z.cells.toList n).length = n * i.size := by rw [zeroCells_len]; simp [hs]
        have hone' : ∀ c ∈ (Builtin.zeroCells z.cells n).toList, c.oneCell' = true := fun c hc => zeros_one hone (by omega) n c (by simpa using hc)
        have hst : ∃ w' C', (execOp a.eval o).run P K.w = .ok (.value (.tuple #[])) w' ∧ Wrote K.w w' b C' e1 (lo, up) ∧ C'.size = C.size ∧
            (∀ k, k < off ∨ off + n * i.size ≤ k → C'[k]? = C[k]?) ∧ (∀ (j : Nat) (u : Value), (Builtin.zeroCells z.cells n).toList[j]? = some u → C'[off + j]? = some u) := by
          cases n with
          | zero =>
            refine ⟨K.w, C, exec_zapN ho ha0 ht0 h1 hxv, ⟨rfl, rfl, rfl, rfl, fun _ _ => rfl, hC⟩, rfl, fun _ _ => rfl, fun j u hu => ?_⟩
            have := (List.getElem?_eq_some_iff.1 hu).1
            omega
          | succ n =>
            rcases hoo with hoo | hoo
            · omega
            · subst hoo
              obtain ⟨w', C', hr, hwr, hsz', hout, hin⟩ := run_storeCells_va P b oo e1 lo up (Builtin.zeroCells z.cells (n + 1)).toList 0 C K.w hC hfz (by omega) hone'
              exact ⟨w', C', exec_zap ho ha0 ht0 h1 hi hzz hxv hr, hwr, hsz', fun k hk => hout k (by omega), fun j u hu => by have := hin j u hu; rwa [Nat.add_zero] at this⟩
        obtain ⟨w', C', hr, hwr, hsz', hout, hin⟩ := hst
        have hspl : ∀ (j : Nat) (u : V), (splice cells off (zeroCells z.cells.toList n))[j]? = some u → ∃ c : Value, C'[j]? = some c ∧ Rep K u c := by
          intro j u hu
          unfold splice at hu
          by_cases h1 : j < off
          · rw [List.getElem?_append_left (by simp; omega), List.getElem?_take_of_lt h1] at hu
            obtain ⟨c, hc1, hc2⟩ := hcc j u hu
            exact ⟨c, by rw [hout j (.inl (by omega))]; exact hc1, hc2⟩
          · rw [List.getElem?_append_right (by simp; omega)] at hu
            have hmin : min off cells.length = off := by omega
            simp only [List.length_take (l := cells), hmin] at hu
            by_cases h2 : j - off < (zeroCells z.cells.toList n).length
            · rw [List.getElem?_append_left h2] at hu
              obtain ⟨c, hc1, rfl⟩ := zc_get (by omega) hu
              have := hin (j - off) c hc1
              rw [show off + (j - off) = j by omega] at this
              exact ⟨c, this, by simp [Rep]⟩
            · rw [List.getElem?_append_right (by omega), List.getElem?_drop] at hu
              rw [show off + (zeroCells z.cells.toList n).length + (j - off - (zeroCells z.cells.toList n).length) = j by omega] at hu
              obtain ⟨c, hc1, hc2⟩ := hcc j u hu
              exact ⟨c, by rw [hout j (.inr (by omega))]; exact hc1, hc2⟩
        have h1c' : ∀ (j : Nat) (c : Value), C'[j]? = some c → c.oneCell' = true := by
          intro j c hc
          by_cases hj : j < off ∨ off + n * i.size ≤ j
          · rw [hout j hj] at hc; exact h1c j c hc
          · have hjl : j - off < (Builtin.zeroCells z.cells n).toList.length := by omega
            have := hin (j - off) _ (List.getElem?_eq_getElem hjl)
            rw [show off + (j - off) = j by omega, hc] at this
            cases this
            exact hone' _ (List.getElem_mem hjl)
        have hsplen : (splice cells off (zeroCells z.cells.toList n)).length ≤ C'.size := by
          rw [splice_len (by omega)]; omega
        obtain ⟨hK', hst'⟩ := wrote_sound hK hD hbβ hC hwr hsz' hsplen (by rw [hsz']; exact hfz) h1c' hspl
        exact ⟨_, .tuple #[], _, hr, .inl rfl, hK', hst', by simp [Rep]⟩
      · cases he
    · cases he
  · cases he
theorem op_sound {P : Program} {op : Op} {ao : AOp} (hc : cOp P op = some ao) {S : List V} {H : Heap} {v : V} {H' : Heap} (he : evOp S H ao = some (v, H')) {K : Cx} {D : Nat → Prop} {a : Act} {o : Oper} (ho : o.op = op)
    (hK : HeapOK K H D) (hfresh : ∀ i, H.length ≤ i → i < H'.length → K.β i = none) (hfoot : ∀ i ∈ footOp S ao, D i) (hS : ∀ x ∈ op.operands.toList, OnOd K S a x) :
    OpDone P K H D (execOp a.eval o) v H' := by
  unfold cOp at hc
  split at hc
  · -- move
    rename_i x
    simp only [Option.map_eq_some_iff] at hc; obtain ⟨d, hd, rfl⟩ := hc
    simp only [evOp] at he; cases he
    exact snd_move (.inl ho) hd hK (hS x (by simp [Op.operands]))
  · -- assign
    rename_i x
    simp only [Option.map_eq_some_iff] at hc; obtain ⟨d, hd, rfl⟩ := hc
    simp only [evOp] at he; cases he
    exact snd_move (.inr ho) hd hK (hS x (by simp [Op.operands]))
  · -- pick
    rename_i c x y
    simp only [Option.bind_eq_bind, Option.bind_eq_some_iff, Option.pure_def, Option.some.injEq] at hc
    obtain ⟨dc, hdc, dx, hdx, dy, hdy, rfl⟩ := hc
    simp only [evOp] at he
    split at he
    · rename_i t ht
      cases he
      exact snd_pick ho hdc hdx hdy hK (hS c (by simp [Op.operands])) (hS x (by simp [Op.operands])) (hS y (by simp [Op.operands])) ht
    · cases he
  · -- alloc
    rename_i t
    simp only [Option.map_eq_some_iff] at hc; obtain ⟨zs, hz, rfl⟩ := hc
    simp only [evOp] at he; cases he
    exact snd_alloc (S := S) ho hz hK (hfresh _ (Nat.le_refl _) (by simp))
  · -- box
    rename_i t x
    simp only [Option.map_eq_some_iff] at hc; obtain ⟨d, hd, rfl⟩ := hc
    simp only [evOp] at he
    split at he
    · rename_i l hl
      cases he
      exact snd_box ho hd hK (hfresh _ (Nat.le_refl _) (by simp)) (hS x (by simp [Op.operands])) hl
    · cases he
  · -- build
    rename_i t parts
    have hx : ∀ p ∈ parts.toList, OnOd K S a p.2 := fun p hp => hS p.2 (by simp only [Op.operands]; exact List.mem_map.2 ⟨p, hp, rfl⟩)
    simp only [Option.bind_eq_bind, Option.bind_eq_some_iff] at hc
    obtain ⟨zs, hz, hc⟩ := hc
    split at hc
    · rename_i fs hu
      simp only [Option.bind_eq_bind, Option.bind_eq_some_iff, Option.pure_def, Option.some.injEq] at hc
      obtain ⟨places, hpl, qs, hq, rfl⟩ := hc
      simp only [evOp] at he
      split at he
      · rename_i cs hcs
        cases he
        exact snd_build ho hz (.inl ⟨fs, places, hu, hpl, hq⟩) hK hx hcs
      · cases he
    · rename_i n e hu
      simp only [Option.bind_eq_bind, Option.bind_eq_some_iff, Option.pure_def, Option.some.injEq] at hc
      obtain ⟨sz, hsz, qs, hq, rfl⟩ := hc
      simp only [evOp] at he
      split at he
      · rename_i cs hcs
        cases he
        exact snd_build ho hz (.inr ⟨n, e, sz, hu, hsz, hq⟩) hK hx hcs
      · cases he
    · cases hc
  · -- buildSlice
    rename_i t n parts
    have hx : ∀ p ∈ parts.toList, OnOd K S a p.2 := fun p hp => hS p.2 (by simp only [Op.operands]; exact List.mem_map.2 ⟨p, hp, rfl⟩)
    split at hc
    · rename_i e hu
      simp only [Option.bind_eq_bind, Option.bind_eq_some_iff] at hc
      obtain ⟨sz, hsz, zs, hz, hc⟩ := hc
      split at hc
      · cases hc
      · rename_i hcond
        simp only [Bool.or_eq_true, decide_eq_true_eq, not_or, Nat.not_lt] at hcond
        simp only [Option.bind_eq_some_iff, Option.pure_def, Option.some.injEq] at hc
        obtain ⟨qs, hq, rfl⟩ := hc
        have hfr : K.β H.length = none := by
          have he' := he
          simp only [evOp] at he'
          split at he'
          · cases he'; exact hfresh _ (Nat.le_refl _) (by simp)
          · cases he'
        exact snd_buildSl ho hu hsz hz hcond.1 hcond.2 hq hK hfr hx he
    · cases hc
  · -- load
    rename_i t x
    simp only [Option.bind_eq_bind, Option.bind_eq_some_iff, Option.pure_def, Option.some.injEq] at hc
    obtain ⟨k, hk, d, hd, rfl⟩ := hc
    exact snd_load ho hd hk hK (hS x (by simp [Op.operands])) hfoot he
  · -- store
    rename_i t x y
    simp only [Option.bind_eq_bind, Option.bind_eq_some_iff, Option.pure_def, Option.some.injEq] at hc
    obtain ⟨n, hn, dx, hdx, dy, hdy, rfl⟩ := hc
    exact snd_store ho hdx hdy hn hK (hS x (by simp [Op.operands])) (hS y (by simp [Op.operands])) hfoot he
  · -- nilCheck
    rename_i x
    simp only [Option.map_eq_some_iff] at hc; obtain ⟨d, hd, rfl⟩ := hc
    exact snd_nilChk ho hd hK (hS x (by simp [Op.operands])) he
  · -- binOp
    rename_i op t x y ty
    have hx := hS x (by simp [Op.operands])
    have hy := hS y (by simp [Op.operands])
    have hbin : ∀ {dx dy : Od}, cOd x = some dx → cOd y = some dy → ao = .bin op dx dy → OpDone P K H D (execOp a.eval o) v H' := by
      intro dx dy hdx hdy hao
      subst hao
      exact snd_bin ho hdx hdy hK hx hy he
    have heqA : ∀ {neg : Bool}, op = (if neg then .neq else .eql) → ((∃ fs, P.underlying t = some (.struct fs)) ∨ ∃ n e, P.underlying t = some (.array n e)) → cEqA P neg t x y = some ao → OpDone P K H D (execOp a.eval o) v H' := by
      intro neg hop hagg hc
      simp only [cEqA, Option.bind_eq_bind, Option.bind_eq_some_iff] at hc
      obtain ⟨sh, hsh, hc⟩ := hc
      split at hc
      · cases hc
      · rename_i hg
        simp only [Option.bind_eq_some_iff, Option.pure_def, Option.some.injEq] at hc
        obtain ⟨dx, hdx, dy, hdy, rfl⟩ := hc
        subst hop
        exact snd_eqA ho hdx hdy hsh (by simpa using hg) hagg hK hx hy he
    split at hc
    all_goals try (simp only [Option.bind_eq_bind, Option.bind_eq_some_iff, Option.pure_def, Option.some.injEq] at hc)
    · obtain ⟨dx, hdx, dy, hdy, rfl⟩ := hc; exact hbin hdx hdy rfl
    · obtain ⟨dx, hdx, dy, hdy, rfl⟩ := hc; exact hbin hdx hdy rfl
    · obtain ⟨dx, hdx, dy, hdy, rfl⟩ := hc; exact hbin hdx hdy rfl
    · obtain ⟨dx, hdx, dy, hdy, rfl⟩ := hc; exact hbin hdx hdy rfl
    · rename_i hu; obtain ⟨dx, hdx, dy, hdy, rfl⟩ := hc; exact snd_eqB (neg := false) ho hdx hdy hu hK hx hy he
    · rename_i hu; obtain ⟨dx, hdx, dy, hdy, rfl⟩ := hc; exact snd_eqB (neg := true) ho hdx hdy hu hK hx hy he
    · rename_i e hu; obtain ⟨dx, hdx, dy, hdy, rfl⟩ := hc; exact snd_eqNil (neg := false) ho hdx hdy hu hK hx hy he
    · rename_i e hu; obtain ⟨dx, hdx, dy, hdy, rfl⟩ := hc; exact snd_eqNil (neg := true) ho hdx hdy hu hK hx hy he
    · rename_i e hu; obtain ⟨dx, hdx, dy, hdy, rfl⟩ := hc; exact snd_eqPn (neg := false) ho hdx hdy hu hK hx hy he
    · rename_i e hu; obtain ⟨dx, hdx, dy, hdy, rfl⟩ := hc; exact snd_eqPn (neg := true) ho hdx hdy hu hK hx hy he
    · rename_i fs hu; exact heqA (neg := false) rfl (.inl ⟨fs, hu⟩) hc
    · rename_i n e hu; exact heqA (neg := false) rfl (.inr ⟨n, e, hu⟩) hc
    · rename_i fs hu; exact heqA (neg := true) rfl (.inl ⟨fs, hu⟩) hc
    · rename_i n e hu; exact heqA (neg := true) rfl (.inr ⟨n, e, hu⟩) hc
    · cases hc
    · cases hc
    · obtain ⟨dx, hdx, dy, hdy, rfl⟩ := hc; exact hbin hdx hdy rfl
  · -- unOp
    rename_i op t x
    simp only [Option.map_eq_some_iff] at hc; obtain ⟨d, hd, rfl⟩ := hc
    exact snd_un ho hd hK (hS x (by simp [Op.operands])) he
  · -- convert
    rename_i src dst x
    have hx := hS x (by simp [Op.operands])
    split at hc
    · rename_i k0 k h1 h2
      simp only [Option.map_eq_some_iff] at hc; obtain ⟨d, hd, rfl⟩ := hc
      exact snd_conv ho hd h1 h2 hK hx he
    · rename_i k0 h1 h2
      simp only [Option.map_eq_some_iff] at hc; obtain ⟨d, hd, rfl⟩ := hc
      exact snd_runeStr ho hd h1 h2 hK hx he
    · rename_i h1 h2
      simp only [Option.map_eq_some_iff] at hc; obtain ⟨d, hd, rfl⟩ := hc
      exact snd_same ho hd h1 h2 hK hx he
    · rename_i e0 e h1 h2
      split at hc
      · rename_i hsd
        split at hc
        · rename_i h3
          simp only [Option.map_eq_some_iff] at hc; obtain ⟨d, hd, rfl⟩ := hc
          exact snd_mark ho hsd hd h1 h2 h3 hK hx hfoot he
        · cases hc
      · cases hc
    · rename_i e h1 h2
      split at hc
      · rename_i h3
        split at hc
        · simp only [Option.map_eq_some_iff] at hc; obtain ⟨d, hd, rfl⟩ := hc
          exact snd_toStr ho hd h1 h2 h3 hK hx hfoot he
        · cases hc
      · cases hc
    · rename_i e h1 h2
      split at hc
      · rename_i h3
        split at hc
        · simp only [Option.map_eq_some_iff] at hc; obtain ⟨d, hd, rfl⟩ := hc
          have hfr : K.β H.length = none := by
            have he' := he
            simp only [evOp] at he'
            split at he'
            · split at he'
              · cases he'; exact hfresh _ (Nat.le_refl _) (by simp)
              · cases he'
            · cases he'
          exact snd_toBytes ho hd h1 h2 h3 hK hfr hx he
        · cases hc
      · cases hc
    · cases hc
  · -- makeSlice
    rename_i t x y
    split at hc
    · rename_i e hu
      simp only [Option.bind_eq_bind, Option.bind_eq_some_iff] at hc
      obtain ⟨i, hi, zs, hz, hc⟩ := hc
      split at hc
      · cases hc
      · rename_i hsz
        simp only [Option.bind_eq_some_iff, Option.pure_def, Option.some.injEq] at hc
        obtain ⟨dx, hdx, dy, hdy, rfl⟩ := hc
        have hfr : K.β H.length = none := by
          have he' := he
          simp only [evOp] at he'
          split at he'
          · split at he'
            · cases he'; exact hfresh _ (Nat.le_refl _) (by simp)
            · cases he'
          · cases he'
        exact snd_mkSl ho hdx hdy hu hi hz hsz hK hfr (hS x (by simp [Op.operands])) (hS y (by simp [Op.operands])) he
    · cases hc
  · -- slice
    rename_i t x lo hi
    have hx := hS x (by simp [Op.operands])
    have hxl : ∀ y, lo = some y → OnOd K S a y := fun y hy => hS y (by subst hy; simp [Op.operands])
    have hxh : ∀ y, hi = some y → OnOd K S a y := fun y hy => hS y (by subst hy; cases lo <;> simp [Op.operands])
    split at hc
    · rename_i n e hu
      simp only [Option.bind_eq_bind, Option.bind_eq_some_iff] at hc
      obtain ⟨sz, hsz, hc⟩ := hc
      split at hc
      · cases hc
      · simp only [Option.bind_eq_some_iff, Option.pure_def, Option.some.injEq] at hc
        obtain ⟨d, hd, dl, hdl, dh, hdh, rfl⟩ := hc
        exact snd_sliceArr ho hd hdl hdh hu hsz hK hx hxl hxh hfoot he
    · rename_i e hu
      simp only [Option.bind_eq_bind, Option.bind_eq_some_iff] at hc
      obtain ⟨sz, hsz, hc⟩ := hc
      split at hc
      · cases hc
      · simp only [Option.bind_eq_some_iff, Option.pure_def, Option.some.injEq] at hc
        obtain ⟨d, hd, dl, hdl, dh, hdh, rfl⟩ := hc
        exact snd_sliceSl ho hd hdl hdh hu hsz hK hx hxl hxh he
    · rename_i hu
      simp only [Option.bind_eq_bind, Option.bind_eq_some_iff, Option.pure_def, Option.some.injEq] at hc
      obtain ⟨d, hd, dl, hdl, dh, hdh, rfl⟩ := hc
      exact snd_sliceStr ho hd hdl hdh hu hK hx hxl hxh he
    · cases hc
  · -- fieldAddr
    rename_i t x i
    split at hc
    · rename_i fs hu
      simp only [Option.bind_eq_bind, Option.bind_eq_some_iff] at hc
      obtain ⟨f, hf, n, hn, hc⟩ := hc
      split at hc
      · cases hc
      · rename_i hn0
        simp only [Option.bind_eq_some_iff, Option.pure_def, Option.some.injEq] at hc
        obtain ⟨d, hd, rfl⟩ := hc
        exact snd_fieldAddr ho hd hu hf hn hn0 hK (hS x (by simp [Op.operands])) he
    · cases hc
  · -- field
    rename_i t x i
    split at hc
    · rename_i fs hu
      simp only [Option.bind_eq_bind, Option.bind_eq_some_iff, Option.pure_def, Option.some.injEq] at hc
      obtain ⟨f, hf, k, hk, d, hd, rfl⟩ := hc
      exact snd_field ho hd hu hf hk hK (hS x (by simp [Op.operands])) he
    · cases hc
  · -- indexAddr
    rename_i t x y
    split at hc
    · rename_i n e hu
      simp only [Option.bind_eq_bind, Option.bind_eq_some_iff] at hc
      obtain ⟨sz, hsz, hc⟩ := hc
      split at hc
      · cases hc
      · simp only [Option.bind_eq_some_iff, Option.pure_def, Option.some.injEq] at hc
        obtain ⟨dx, hdx, dy, hdy, rfl⟩ := hc
        exact snd_idxArr ho hdx hdy hu hsz hK (hS x (by simp [Op.operands])) (hS y (by simp [Op.operands])) he
    · rename_i e hu
      simp only [Option.bind_eq_bind, Option.bind_eq_some_iff] at hc
      obtain ⟨sz, hsz, hc⟩ := hc
      split at hc
      · cases hc
      · simp only [Option.bind_eq_some_iff, Option.pure_def, Option.some.injEq] at hc
        obtain ⟨dx, hdx, dy, hdy, rfl⟩ := hc
        exact snd_idxSl ho hdx hdy hu hsz hK (hS x (by simp [Op.operands])) (hS y (by simp [Op.operands])) he
    · cases hc
  · -- index
    rename_i t x y
    split at hc
    · rename_i n e hu
      simp only [Option.bind_eq_bind, Option.bind_eq_some_iff] at hc
      obtain ⟨sz, hsz, hc⟩ := hc
      split at hc
      · cases hc
      · simp only [Option.bind_eq_some_iff, Option.pure_def, Option.some.injEq] at hc
        obtain ⟨k, hk, dx, hdx, dy, hdy, rfl⟩ := hc
        exact snd_indexArr ho hdx hdy hu hsz hk hK (hS x (by simp [Op.operands])) (hS y (by simp [Op.operands])) he
    · rename_i hu
      simp only [Option.bind_eq_bind, Option.bind_eq_some_iff, Option.pure_def, Option.some.injEq] at hc
      obtain ⟨dx, hdx, dy, hdy, rfl⟩ := hc
      exact snd_indexStr ho hdx hdy hu hK (hS x (by simp [Op.operands])) (hS y (by simp [Op.operands])) he
    · cases hc
  · -- extract
    rename_i x i
    simp only [Option.bind_eq_bind, Option.bind_eq_some_iff, Option.pure_def, Option.some.injEq] at hc
    obtain ⟨d, hd, rfl⟩ := hc
    exact snd_extract ho hd hK (hS x (by simp [Op.operands])) he
  · -- makeFunc
    rename_i f first caps
    split at hc
    · rename_i hemp
      have hfirst : first = #[] := by simpa using hemp
      subst hfirst
      simp only [Option.bind_eq_bind, Option.bind_eq_some_iff, Option.pure_def, Option.some.injEq] at hc
      obtain ⟨ds, hds, rfl⟩ := hc
      simp only [evOp] at he; cases he
      exact snd_mkFunc ho hds hK (fun x hx => hS x (by simpa [Op.operands] using hx))
    · cases hc
  · -- makeInterface
    cases hc
    simp only [evOp] at he; cases he
  · -- panic
    cases hc
    simp only [evOp] at he; cases he
  · -- sliceToArrayPointer
    rename_i t x
    split at hc
    · rename_i n e hu
      simp only [Option.bind_eq_bind, Option.bind_eq_some_iff] at hc
      obtain ⟨sz, hsz, hc⟩ := hc
      split at hc
      · cases hc
      · simp only [Option.bind_eq_some_iff, Option.pure_def, Option.some.injEq] at hc
        obtain ⟨d, hd, rfl⟩ := hc
        exact snd_toArr ho hd hu hK (hS x (by simp [Op.operands])) he
    · cases hc
  · -- call
    rename_i c
    obtain ⟨callee, args, tys⟩ := c
    have harg : ∀ x ∈ args.toList, OnOd K S a x := fun x hx => hS x (by
      simp only [Op.operands, Call.operands, Array.toList_append, List.mem_append]
      exact .inr hx)
    have hget : ∀ (i : Nat) (x : Operand), args[i]? = some x → OnOd K S a x := fun i x hx => harg x (Array.mem_toList_iff.2 (Array.mem_of_getElem? hx))
    simp only [] at hc
    unfold cCall at hc
    split at hc
    · rename_i b
      unfold cBuiltin at hc
      split at hc
      · simp only [Option.bind_eq_bind, Option.bind_eq_some_iff] at hc
        obtain ⟨x, hx, t, ht, hc⟩ := hc
        split at hc
        · rename_i n e hu
          cases hc
          simp only [evOp] at he; cases he
          exact snd_lenC (S := S) ho hx ht hu hK
        · rename_i hu
          simp only [Option.map_eq_some_iff] at hc; obtain ⟨d, hd, rfl⟩ := hc
          exact snd_lenStr ho hx ht hd hu hK (hget _ _ hx) he
        · rename_i e hu
          simp only [Option.map_eq_some_iff] at hc; obtain ⟨d, hd, rfl⟩ := hc
          exact snd_lenSl ho hx ht hd hu hK (hget _ _ hx) he
        · cases hc
      · simp only [Option.bind_eq_bind, Option.bind_eq_some_iff, Option.pure_def, Option.some.injEq] at hc
        obtain ⟨ds, hds, rfl⟩ := hc
        exact snd_minmax (mx := false) ho hds hK harg he
      · simp only [Option.bind_eq_bind, Option.bind_eq_some_iff, Option.pure_def, Option.some.injEq] at hc
        obtain ⟨ds, hds, rfl⟩ := hc
        exact snd_minmax (mx := true) ho hds hK harg he
      · simp only [Option.bind_eq_bind, Option.bind_eq_some_iff] at hc
        obtain ⟨x, hx, y, hy, t, ht, u, hu, hc⟩ := hc
        split at hc
        · rename_i e h1
          simp only [Option.bind_eq_some_iff] at hc
          obtain ⟨i, hi, zs, hz, hc⟩ := hc
          have hfin : (∃ e', P.underlying u = some (.slice e')) ∨ P.underlying u = some .string → (if (decide (i.size = 0) || args.size != 2) = true then none else (cOd x).bind fun a => (cOd y).bind fun b => some (AOp.append i.size i.bytes a b)) = some ao → OpDone P K H D (execOp a.eval o) v H' := by
            intro hu' hc
            split at hc
            · cases hc
            · rename_i hcond
              simp only [Bool.or_eq_true, decide_eq_true_eq, bne_iff_ne, ne_eq, not_or, Decidable.not_not] at hcond
              simp only [Option.bind_eq_some_iff, Option.some.injEq] at hc
              obtain ⟨dx, hdx, dy, hdy, rfl⟩ := hc
              have hargs : args = #[x, y] := by
                apply Array.ext_getElem?
                intro j
                match j with
                | 0 => simpa using hx
                | 1 => simpa using hy
                | j + 2 => rw [Array.getElem?_eq_none (by omega)]; simp
              exact snd_append ho hargs ht hu hdx hdy h1 hu' hi hz hcond.1 hK (hget _ _ hx) (hget _ _ hy) hfoot (fun hlt => hfresh _ (Nat.le_refl _) hlt) he
          split at hc
          · rename_i e' hu'; exact hfin (.inl ⟨e', hu'⟩) hc
          · rename_i hu'; exact hfin (.inr hu') hc
          · rename_i kd hu'
            split at hc
            · cases hc
            · rename_i hcond
              simp only [Bool.or_eq_true, decide_eq_true_eq, bne_iff_ne, ne_eq, not_or, Decidable.not_not] at hcond
              simp only [Option.bind_eq_some_iff, Option.pure_def, Option.some.injEq] at hc
              obtain ⟨dx, hdx, dy, hdy, rfl⟩ := hc
              have hargs : args = #[x, y] := by
                apply Array.ext_getElem?
                intro j
                match j with
                | 0 => simpa using hx
                | 1 => simpa using hy
                | j + 2 => rw [Array.getElem?_eq_none (by omega)]; simp
              exact snd_growN ho hargs ht hu hdx hdy h1 hu' hi hz hcond.1 hK (hget _ _ hx) (hget _ _ hy) (fun hlt => hfresh _ (Nat.le_refl _) hlt) he
          · cases hc
        · cases hc
      · simp only [Option.bind_eq_bind, Option.bind_eq_some_iff] at hc
        obtain ⟨x, hx, y, hy, t, ht, hc⟩ := hc
        split at hc
        · rename_i e h1
          simp only [Option.bind_eq_some_iff] at hc
          obtain ⟨i, hi, hc⟩ := hc
          split at hc
          · cases hc
          · rename_i hsz
            simp only [Option.bind_eq_some_iff, Option.pure_def, Option.some.injEq] at hc
            obtain ⟨dx, hdx, dy, hdy, rfl⟩ := hc
            exact snd_copy ho hx hy ht hdx hdy h1 hi hsz hK (hget _ _ hx) (hget _ _ hy) hfoot he
        · cases hc
      · simp only [Option.bind_eq_bind, Option.bind_eq_some_iff] at hc
        obtain ⟨x, hx, t, ht, hc⟩ := hc
        split at hc
        · rename_i e hu
          simp only [Option.map_eq_some_iff] at hc; obtain ⟨d, hd, rfl⟩ := hc
          exact snd_capSl ho hx ht hd hu hK (hget _ _ hx) he
        · cases hc
      · simp only [Option.bind_eq_bind, Option.bind_eq_some_iff] at hc
        obtain ⟨x, hx, t, ht, hc⟩ := hc
        split at hc
        · rename_i e h1
          simp only [Option.bind_eq_some_iff] at hc
          obtain ⟨i, hi, zs, hz, hc⟩ := hc
          split at hc
          · cases hc
          · rename_i hsz
            simp only [Option.bind_eq_some_iff, Option.pure_def, Option.some.injEq] at hc
            obtain ⟨dx, hdx, rfl⟩ := hc
            exact snd_zap ho hx ht hdx h1 hi hz hsz hK (hget _ _ hx) hfoot he
        · cases hc
      · cases hc
    · split at hc
      · simp only [Option.bind_eq_bind, Option.bind_eq_some_iff, Option.pure_def, Option.some.injEq] at hc
        obtain ⟨ds, hds, rfl⟩ := hc
        simp [evOp] at he
      · split at hc
        · simp only [Option.bind_eq_bind, Option.bind_eq_some_iff, Option.pure_def, Option.some.injEq] at hc
          obtain ⟨ds, hds, rfl⟩ := hc
          simp [evOp] at he
        · cases hc
    · simp only [Option.bind_eq_bind, Option.bind_eq_some_iff, Option.pure_def, Option.some.injEq] at hc
      obtain ⟨d, hd, ds, hds, rfl⟩ := hc
      simp [evOp] at he
    · cases hc
  · cases hc
end Go.Proofs.YtfpoebmihjbknaaGreat.VA
