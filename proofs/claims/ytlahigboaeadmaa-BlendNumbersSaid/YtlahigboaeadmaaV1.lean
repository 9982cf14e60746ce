/- The values and the memory of the abstract machine 'VA', and how they stand for the model's own values and memory. -/
import Derived.Test.YtlahigboaeadmaaProg
import Derived.WalkKit
set_option linter.unusedVariables false
set_option linter.unusedSimpArgs false
namespace Go.Proofs.Ytlahigboaeadmaa.VA
open Go

/-- A value of the abstract machine. 'sl', 'box': memory that nobody writes; 'ref', 'sref': memory that the call owns. -/
inductive V where
  | sc (v : Value)
  | agg (cs : List V)
  | tup (vs : List V)
  | sl (n : Nat) (cs : List V)
  | box (cs : List V)
  | ref (id off : Nat)
  | sref (id off n sz : Nat)
  | fn (f : Nat) (caps : List V)
  | dead

abbrev Heap := List (Option (List V))

/-- How abstract blocks stand in a world: 'β' says where; 'N': blocks that may be written; 'B': how many blocks there were when the call began; 'R': where the caller's read-only memory may lie. -/
structure Cx where
  w : World
  β : Nat → Option Nat
  N : Nat → Prop
  B : Nat
  R : Nat → Prop

def RoOK (K : Cx) (b : Nat) : Prop := ¬ K.N b ∧ (K.R b ∨ K.B ≤ b)

mutual
def Rep (K : Cx) : V → Value → Prop
  | .sc v, c => c = v
  | .agg cs, c => ∃ l : List Value, c = .agg l.toArray ∧ RepO K cs l
  | .tup vs, c => ∃ l : List Value, c = .tuple l.toArray ∧ RepL K vs l
  | .sl n cs, c => ∃ a cap, c = .slice (some a) n cap ∧ n ≤ cap ∧ (cs = [] ∨ RoOK K a.block) ∧ RepC K cs a 0
  | .box cs, c => ∃ a, c = .pointer (some a) ∧ (cs = [] ∨ RoOK K a.block) ∧ RepC K cs a 0
  | .ref id off, c => ∃ b, K.β id = some b ∧ c = .pointer (some ⟨b, off, none⟩)
  | .sref id off n sz, c => ∃ b o cap, K.β id = some b ∧ c = .slice (some ⟨b, o, none⟩) n cap ∧ n ≤ cap ∧ (cap = 0 ∨ o = off) ∧
      ∃ C e fz, K.w.heap[b]? = some (.cells C e fz) ∧ off + cap * sz ≤ C.size
  | .fn f caps, c => ∃ l : List Value, c = .func (.func f) #[] l.toArray ∧ RepL K caps l
  | .dead, _ => True
def RepL (K : Cx) : List V → List Value → Prop
  | [], l => l = []
  | v :: vs, l => ∃ c l', l = c :: l' ∧ Rep K v c ∧ RepL K vs l'
def RepO (K : Cx) : List V → List Value → Prop
  | [], l => l = []
  | v :: vs, l => ∃ c l', l = c :: l' ∧ c.oneCell' = true ∧ Rep K v c ∧ RepO K vs l'
def RepC (K : Cx) : List V → Addr → Nat → Prop
  | [], _, _ => True
  | v :: vs, a, i => (∃ c, K.w.cell? (a.add i) = some c ∧ c.oneCell' = true ∧ Rep K v c) ∧ RepC K vs a (i + 1)
end

def LiveId (H : Heap) (i : Nat) : Prop := ∃ cells, H[i]? = some (some cells)

def BlkOK (K : Cx) (b : Nat) (cells : List V) : Prop :=
  ∃ C e lo hi, K.w.heap[b]? = some (.cells C e (lo, hi)) ∧ cells.length ≤ C.size ∧ (lo = hi ∨ C.size ≤ lo) ∧
    (∀ (i : Nat) (c : Value), C[i]? = some c → c.oneCell' = true) ∧ ∀ (i : Nat) (v : V), cells[i]? = some v → ∃ c : Value, C[i]? = some c ∧ Rep K v c

structure HeapOK (K : Cx) (H : Heap) (D : Nat → Prop) : Prop where
  inj : ∀ i j b, D i → D j → K.β i = some b → K.β j = some b → i = j
  blk : ∀ i, D i → ∃ b cells, K.β i = some b ∧ H[i]? = some (some cells) ∧ BlkOK K b cells
  own : ∀ i b, D i → K.β i = some b → K.N b ∧ (K.R b ∨ K.B ≤ b)
  low : K.B ≤ K.w.heap.size

def OwnD (K : Cx) (D : Nat → Prop) (b : Nat) : Prop := ∃ i, D i ∧ K.β i = some b

/-- What a piece of a run may do to memory. -/
structure Step (K : Cx) (H : Heap) (D : Nat → Prop) (K' : Cx) (H' : Heap) (D' : Nat → Prop) : Prop where
  B : K'.B = K.B
  R : K'.R = K.R
  os : K'.w.os = K.w.os
  tape : K'.w.tape = K.w.tape
  output : K'.w.output = K.w.output
  size : K.w.heap.size ≤ K'.w.heap.size
  len : H.length ≤ H'.length
  ext : ∀ i b, K.β i = some b → K'.β i = some b
  new : ∀ i b, K'.β i = some b → K.β i = some b ∨ (K.β i = none ∧ H.length ≤ i ∧ i < H'.length ∧ (K.w.heap.size ≤ b ∨ OwnD K D b))
  nn : ∀ b, K'.N b → K.N b ∨ K.w.heap.size ≤ b
  nk : ∀ b, K.N b → b < K.w.heap.size → ¬ OwnD K D b → K'.N b
  dd : ∀ i, D' i → D i ∨ (K.β i = none ∧ H.length ≤ i ∧ i < H'.length)
  frame : ∀ b, b < K.w.heap.size → ¬ OwnD K D b → K'.w.heap[b]? = K.w.heap[b]?
  shape : ∀ (b : Nat) (C : Array Value) (e : TypeId) (fz : Nat × Nat), K.w.heap[b]? = some (.cells C e fz) → ∃ (C' : Array Value) (fz' : Nat × Nat), K'.w.heap[b]? = some (.cells C' e fz') ∧ C'.size = C.size

theorem add_add (a : Addr) (i j : Nat) : (a.add i).add j = a.add (i + j) := by
  unfold Addr.add
  by_cases hi : i = 0
  · subst hi; simp
  · by_cases hj : j = 0
    · subst hj; simp [hi]
    · simp [hi, hj, Nat.add_assoc]

theorem add_block (a : Addr) (i : Nat) : (a.add i).block = a.block := by unfold Addr.add; split <;> rfl

theorem cell_block {w w' : World} {a : Addr} (h : w'.heap[a.block]? = w.heap[a.block]?) : w'.cell? a = w.cell? a := World.cell?_of_block h

theorem lt_of_cell {w : World} {a : Addr} {c : Value} (h : w.cell? a = some c) : a.block < w.heap.size := World.block_lt_of_cell? w a h

/-- What must hold of two contexts for what was represented to be so still. -/
structure Pres (K K' : Cx) : Prop where
  ids : ∀ i b, K.β i = some b → K'.β i = some b
  ro : ∀ b, RoOK K b → b < K.w.heap.size → RoOK K' b ∧ K'.w.heap[b]? = K.w.heap[b]?
  shape : ∀ (b : Nat) (C : Array Value) (e : TypeId) (fz : Nat × Nat), K.w.heap[b]? = some (.cells C e fz) → ∃ (C' : Array Value) (fz' : Nat × Nat), K'.w.heap[b]? = some (.cells C' e fz') ∧ C'.size = C.size

theorem ro_lt {K : Cx} {v : V} {vs : List V} {a : Addr} (hr : RepC K (v :: vs) a 0) : a.block < K.w.heap.size := by
  simp only [RepC] at hr
  obtain ⟨⟨c, hcell, _⟩, _⟩ := hr
  have := lt_of_cell hcell
  rwa [add_block] at this

mutual
theorem Rep.pres {K K' : Cx} (h : Pres K K') : ∀ (v : V) (c : Value), Rep K v c → Rep K' v c
  | .sc v, c, hr => by simpa [Rep] using hr
  | .agg cs, c, hr => by
    simp only [Rep] at hr ⊢; obtain ⟨l, hc, hr⟩ := hr
    exact ⟨l, hc, RepO.pres h cs l hr⟩
  | .tup vs, c, hr => by
    simp only [Rep] at hr ⊢; obtain ⟨l, hc, hr⟩ := hr
    exact ⟨l, hc, RepL.pres h vs l hr⟩
  | .sl n cs, c, hr => by
    simp only [Rep] at hr ⊢; obtain ⟨a, cap, hc, hn, hro, hr⟩ := hr
    cases cs with
    | nil => exact ⟨a, cap, hc, hn, .inl rfl, by simp [RepC]⟩
    | cons v vs =>
      rcases hro with h0 | hro
      · cases h0
      · exact ⟨a, cap, hc, hn, .inr (h.ro _ hro (ro_lt hr)).1, RepC.pres h (v :: vs) a 0 hro hr⟩
  | .box cs, c, hr => by
    simp only [Rep] at hr ⊢; obtain ⟨a, hc, hro, hr⟩ := hr
    cases cs with
    | nil => exact ⟨a, hc, .inl rfl, by simp [RepC]⟩
    | cons v vs =>
      rcases hro with h0 | hro
      · cases h0
      · exact ⟨a, hc, .inr (h.ro _ hro (ro_lt hr)).1, RepC.pres h (v :: vs) a 0 hro hr⟩
  | .ref id off, c, hr => by
    simp only [Rep] at hr ⊢; obtain ⟨b, hb, hc⟩ := hr
    exact ⟨b, h.ids id b hb, hc⟩
  | .sref id off n sz, c, hr => by
    simp only [Rep] at hr ⊢; obtain ⟨b, o, cap, hb, hc, hn, ho, C, e, fz, hC, hsz⟩ := hr
    obtain ⟨C', fz', hC', hs'⟩ := h.shape b C e fz hC
    exact ⟨b, o, cap, h.ids id b hb, hc, hn, ho, C', e, fz', hC', by omega⟩
  | .fn f caps, c, hr => by
    simp only [Rep] at hr ⊢; obtain ⟨l, hc, hr⟩ := hr
    exact ⟨l, hc, RepL.pres h caps l hr⟩
  | .dead, _, _ => by simp [Rep]
theorem RepL.pres {K K' : Cx} (h : Pres K K') : ∀ (vs : List V) (l : List Value), RepL K vs l → RepL K' vs l
  | [], l, hr => by simpa [RepL] using hr
  | v :: vs, l, hr => by
    simp only [RepL] at hr ⊢
    obtain ⟨c, l', hc, h1, h2⟩ := hr
    exact ⟨c, l', hc, Rep.pres h v c h1, RepL.pres h vs l' h2⟩
theorem RepO.pres {K K' : Cx} (h : Pres K K') : ∀ (vs : List V) (l : List Value), RepO K vs l → RepO K' vs l
  | [], l, hr => by simpa [RepO] using hr
  | v :: vs, l, hr => by
    simp only [RepO] at hr ⊢
    obtain ⟨c, l', hc, h0, h1, h2⟩ := hr
    exact ⟨c, l', hc, h0, Rep.pres h v c h1, RepO.pres h vs l' h2⟩
theorem RepC.pres {K K' : Cx} (h : Pres K K') : ∀ (vs : List V) (a : Addr) (i : Nat), RoOK K a.block → RepC K vs a i → RepC K' vs a i
  | [], _, _, _, _ => by simp [RepC]
  | v :: vs, a, i, hro, hr => by
    simp only [RepC] at hr ⊢
    obtain ⟨⟨c, hc, h0, h1⟩, h2⟩ := hr
    have hlt := lt_of_cell hc
    have hb := (h.ro _ hro (by rw [add_block] at hlt; exact hlt)).2
    exact ⟨⟨c, (cell_block (by rw [add_block]; exact hb)).trans hc, h0, Rep.pres h v c h1⟩, RepC.pres h vs a (i + 1) hro h2⟩
end

theorem Step.pres {K K' : Cx} {H H' : Heap} {D D' : Nat → Prop} (h : Step K H D K' H' D') (ho : HeapOK K H D) : Pres K K' where
  ids := h.ext
  ro b hb hlt := by
    refine ⟨⟨fun hn => ?_, ?_⟩, h.frame b hlt fun ⟨i, hi, hb'⟩ => hb.1 (ho.own i b hi hb').1⟩
    · rcases h.nn b hn with hn | hn
      · exact hb.1 hn
      · omega
    · rw [h.R, h.B]; exact hb.2
  shape := h.shape

theorem Step.refl (K : Cx) (H : Heap) (D : Nat → Prop) : Step K H D K H D where
  B := rfl
  R := rfl
  os := rfl
  tape := rfl
  output := rfl
  size := Nat.le_refl _
  len := Nat.le_refl _
  ext _ _ h := h
  new _ _ h := .inl h
  nn _ h := .inl h
  nk _ h _ _ := h
  dd _ h := .inl h
  frame _ _ _ := rfl
  shape b C e fz h := ⟨C, fz, h, rfl⟩

theorem Step.own {K K' : Cx} {H H' : Heap} {D D' : Nat → Prop} (h : Step K H D K' H' D') (hdef : ∀ i, D i → ∃ b, K.β i = some b) (b : Nat) (hb : OwnD K' D' b) :
    OwnD K D b ∨ K.w.heap.size ≤ b := by
  obtain ⟨i, hi, hb⟩ := hb
  rcases h.dd i hi with hd | ⟨hn, _⟩
  · obtain ⟨b0, hb0⟩ := hdef i hd
    have := h.ext i b0 hb0
    rw [hb] at this
    cases this
    exact .inl ⟨i, hd, hb0⟩
  · rcases h.new i b hb with hb' | ⟨_, _, _, h3⟩
    · rw [hn] at hb'; cases hb'
    · rcases h3 with h3 | h3
      · exact .inr h3
      · exact .inl h3

theorem Step.trans {K K' K'' : Cx} {H H' H'' : Heap} {D D' D'' : Nat → Prop} (h : Step K H D K' H' D') (k : Step K' H' D' K'' H'' D'')
    (hdef : ∀ i, D i → ∃ b, K.β i = some b) : Step K H D K'' H'' D'' where
  B := k.B.trans h.B
  R := k.R.trans h.R
  os := k.os.trans h.os
  tape := k.tape.trans h.tape
  output := k.output.trans h.output
  size := Nat.le_trans h.size k.size
  len := Nat.le_trans h.len k.len
  ext i b hb := k.ext i b (h.ext i b hb)
  new i b hb := by
    have hn : K'.β i = none → K.β i = none := fun hn => by
      cases hk : K.β i with
      | none => rfl
      | some b0 => rw [h.ext i b0 hk] at hn; cases hn
    rcases k.new i b hb with hb' | ⟨h0, h1, h2, h3⟩
    · rcases h.new i b hb' with hb'' | ⟨h0, h1, h2, h3⟩
      · exact .inl hb''
      · exact .inr ⟨h0, h1, Nat.lt_of_lt_of_le h2 k.len, h3⟩
    · refine .inr ⟨hn h0, Nat.le_trans h.len h1, h2, ?_⟩
      rcases h3 with h3 | h3
      · exact .inl (Nat.le_trans h.size h3)
      · exact (h.own hdef b h3).symm
  nn b hb := by
    rcases k.nn b hb with hb | hb
    · exact h.nn b hb
    · exact .inr (Nat.le_trans h.size hb)
  nk b hb hlt hno := k.nk b (h.nk b hb hlt hno) (Nat.lt_of_lt_of_le hlt h.size) fun ho => by
    rcases h.own hdef b ho with h1 | h1
    · exact hno h1
    · omega
  dd i hi := by
    rcases k.dd i hi with hd | ⟨h0, h1, h2⟩
    · rcases h.dd i hd with hd | ⟨h0, h1, h2⟩
      · exact .inl hd
      · exact .inr ⟨h0, h1, Nat.lt_of_lt_of_le h2 k.len⟩
    · refine .inr ⟨?_, Nat.le_trans h.len h1, h2⟩
      cases hk : K.β i with
      | none => rfl
      | some b0 => rw [h.ext i b0 hk] at h0; cases h0
  frame b hlt hb := by
    rw [k.frame b (Nat.lt_of_lt_of_le hlt h.size) (fun ho => ?_), h.frame b hlt hb]
    rcases h.own hdef b ho with h1 | h1
    · exact hb h1
    · omega
  shape b C e fz hC := by
    obtain ⟨C', fz', hC', hs⟩ := h.shape b C e fz hC
    obtain ⟨C'', fz'', hC'', hs'⟩ := k.shape b C' e fz' hC'
    exact ⟨C'', fz'', hC'', hs'.trans hs⟩

/-! ## Closed values, and what is at a place of a list -/

mutual
/-- No reference to memory that is owned. -/
def Closed : V → Prop
  | .sc _ => True
  | .agg cs => ClosedL cs
  | .tup vs => ClosedL vs
  | .sl _ cs => ClosedL cs
  | .box cs => ClosedL cs
  | .ref _ _ => False
  | .sref _ _ _ _ => False
  | .fn _ caps => ClosedL caps
  | .dead => True
def ClosedL : List V → Prop
  | [] => True
  | v :: vs => Closed v ∧ ClosedL vs
end

mutual
theorem Rep.closed {K K' : Cx} (hw : K'.w = K.w) (hro : ∀ b, RoOK K b → RoOK K' b) : ∀ (v : V) (c : Value), Closed v → Rep K v c → Rep K' v c
  | .sc v, c, _, hr => by simpa [Rep] using hr
  | .agg cs, c, hl, hr => by
    simp only [Rep] at hr ⊢; obtain ⟨l, hc, hr⟩ := hr
    exact ⟨l, hc, RepO.closed hw hro cs l (by simpa [Closed] using hl) hr⟩
  | .tup vs, c, hl, hr => by
    simp only [Rep] at hr ⊢; obtain ⟨l, hc, hr⟩ := hr
    exact ⟨l, hc, RepL.closed hw hro vs l (by simpa [Closed] using hl) hr⟩
  | .sl n cs, c, hl, hr => by
    simp only [Rep] at hr ⊢; obtain ⟨a, cap, hc, hn, hro', hr⟩ := hr
    exact ⟨a, cap, hc, hn, hro'.imp id (hro _), RepC.closed hw hro cs a 0 (by simpa [Closed] using hl) hr⟩
  | .box cs, c, hl, hr => by
    simp only [Rep] at hr ⊢; obtain ⟨a, hc, hro', hr⟩ := hr
    exact ⟨a, hc, hro'.imp id (hro _), RepC.closed hw hro cs a 0 (by simpa [Closed] using hl) hr⟩
  | .ref id off, c, hl, _ => by simp [Closed] at hl
  | .sref id off n sz, c, hl, _ => by simp [Closed] at hl
  | .fn f caps, c, hl, hr => by
    simp only [Rep] at hr ⊢; obtain ⟨l, hc, hr⟩ := hr
    exact ⟨l, hc, RepL.closed hw hro caps l (by simpa [Closed] using hl) hr⟩
  | .dead, _, _, _ => by simp [Rep]
theorem RepL.closed {K K' : Cx} (hw : K'.w = K.w) (hro : ∀ b, RoOK K b → RoOK K' b) : ∀ (vs : List V) (l : List Value), ClosedL vs → RepL K vs l → RepL K' vs l
  | [], l, _, hr => by simpa [RepL] using hr
  | v :: vs, l, hl, hr => by
    simp only [RepL] at hr ⊢; simp only [ClosedL] at hl
    obtain ⟨c, l', hc, h1, h2⟩ := hr
    exact ⟨c, l', hc, Rep.closed hw hro v c hl.1 h1, RepL.closed hw hro vs l' hl.2 h2⟩
theorem RepO.closed {K K' : Cx} (hw : K'.w = K.w) (hro : ∀ b, RoOK K b → RoOK K' b) : ∀ (vs : List V) (l : List Value), ClosedL vs → RepO K vs l → RepO K' vs l
  | [], l, _, hr => by simpa [RepO] using hr
  | v :: vs, l, hl, hr => by
    simp only [RepO] at hr ⊢; simp only [ClosedL] at hl
    obtain ⟨c, l', hc, h0, h1, h2⟩ := hr
    exact ⟨c, l', hc, h0, Rep.closed hw hro v c hl.1 h1, RepO.closed hw hro vs l' hl.2 h2⟩
theorem RepC.closed {K K' : Cx} (hw : K'.w = K.w) (hro : ∀ b, RoOK K b → RoOK K' b) : ∀ (vs : List V) (a : Addr) (i : Nat), ClosedL vs → RepC K vs a i → RepC K' vs a i
  | [], _, _, _, _ => by simp [RepC]
  | v :: vs, a, i, hl, hr => by
    simp only [RepC] at hr ⊢; simp only [ClosedL] at hl
    obtain ⟨⟨c, hc, h0, h1⟩, h2⟩ := hr
    exact ⟨⟨c, by rw [hw]; exact hc, h0, Rep.closed hw hro v c hl.1 h1⟩, RepC.closed hw hro vs a (i + 1) hl.2 h2⟩
end

theorem RepL.length {K : Cx} : ∀ {vs : List V} {l : List Value}, RepL K vs l → l.length = vs.length
  | [], l, h => by simp only [RepL] at h; simp [h]
  | v :: vs, l, h => by
    simp only [RepL] at h; obtain ⟨c, l', rfl, _, h2⟩ := h
    simp [RepL.length h2]

theorem RepL.get {K : Cx} : ∀ {vs : List V} {l : List Value}, RepL K vs l → ∀ (i : Nat) (v : V), vs[i]? = some v → ∃ c : Value, l[i]? = some c ∧ Rep K v c
  | [], l, h, i, v, hv => by simp at hv
  | v :: vs, l, h, i, u, hu => by
    simp only [RepL] at h; obtain ⟨c, l', rfl, h1, h2⟩ := h
    cases i with
    | zero => simp at hu; subst hu; exact ⟨c, rfl, h1⟩
    | succ i => exact RepL.get h2 i u (by simpa using hu)

theorem RepL.mk {K : Cx} : ∀ {vs : List V} {l : List Value}, l.length = vs.length → (∀ (i : Nat) (v : V) (c : Value), vs[i]? = some v → l[i]? = some c → Rep K v c) → RepL K vs l
  | [], l, hl, _ => by simp only [RepL]; exact List.eq_nil_of_length_eq_zero (by simpa using hl)
  | v :: vs, [], hl, _ => by simp at hl
  | v :: vs, c :: l, hl, h => by
    simp only [RepL]
    exact ⟨c, l, rfl, h 0 v c rfl rfl, RepL.mk (by simpa using hl) fun i u d hu hd => h (i + 1) u d (by simpa using hu) (by simpa using hd)⟩

theorem RepO.iff {K : Cx} : ∀ {vs : List V} {l : List Value}, RepO K vs l ↔ RepL K vs l ∧ ∀ c ∈ l, c.oneCell' = true
  | [], l => by simp only [RepO, RepL]; constructor
                · rintro rfl; simp
                · exact fun h => h.1
  | v :: vs, l => by
    simp only [RepO, RepL]
    constructor
    · rintro ⟨c, l', rfl, h0, h1, h2⟩
      have := RepO.iff.1 h2
      exact ⟨⟨c, l', rfl, h1, this.1⟩, by simpa [h0] using this.2⟩
    · rintro ⟨⟨c, l', rfl, h1, h2⟩, h3⟩
      exact ⟨c, l', rfl, h3 c (by simp), h1, RepO.iff.2 ⟨h2, fun d hd => h3 d (by simp [hd])⟩⟩

theorem RepC.get {K : Cx} : ∀ {vs : List V} {a : Addr} {i : Nat}, RepC K vs a i → ∀ (j : Nat) (v : V), vs[j]? = some v → ∃ c, K.w.cell? (a.add (i + j)) = some c ∧ c.oneCell' = true ∧ Rep K v c
  | [], a, i, h, j, v, hv => by simp at hv
  | v :: vs, a, i, h, j, u, hu => by
    simp only [RepC] at h
    cases j with
    | zero => simp at hu; subst hu; exact h.1
    | succ j =>
      have := RepC.get h.2 j u (by simpa using hu)
      rwa [show i + 1 + j = i + (j + 1) by omega] at this

theorem RepC.mk {K : Cx} : ∀ {vs : List V} {a : Addr} {i : Nat}, (∀ (j : Nat) (v : V), vs[j]? = some v → ∃ c, K.w.cell? (a.add (i + j)) = some c ∧ c.oneCell' = true ∧ Rep K v c) → RepC K vs a i
  | [], a, i, _ => by simp [RepC]
  | v :: vs, a, i, h => by
    simp only [RepC]
    refine ⟨by simpa using h 0 v rfl, RepC.mk fun j u hu => ?_⟩
    have := h (j + 1) u (by simpa using hu)
    rwa [show i + (j + 1) = i + 1 + j by omega] at this

theorem RepC.drop {K : Cx} {vs : List V} {a : Addr} (h : RepC K vs a 0) (k : Nat) : RepC K (vs.drop k) (a.add k) 0 :=
  RepC.mk fun j v hv => by
    rw [List.getElem?_drop] at hv
    have := h.get (k + j) v hv
    simpa [add_add] using this

theorem RepC.take {K : Cx} {vs : List V} {a : Addr} {i : Nat} (h : RepC K vs a i) (k : Nat) : RepC K (vs.take k) a i :=
  RepC.mk fun j v hv => by
    rw [List.getElem?_take] at hv
    split at hv
    · exact h.get j v hv
    · cases hv

theorem ClosedL.get : ∀ {vs : List V}, ClosedL vs → ∀ v ∈ vs, Closed v
  | [], _, v, hv => by cases hv
  | u :: us, h, v, hv => by
    simp only [ClosedL] at h
    rcases List.mem_cons.1 hv with rfl | hv
    · exact h.1
    · exact ClosedL.get h.2 v hv

theorem ClosedL.mk : ∀ {vs : List V}, (∀ v ∈ vs, Closed v) → ClosedL vs
  | [], _ => by simp [ClosedL]
  | u :: us, h => by
    simp only [ClosedL]
    exact ⟨h u (by simp), ClosedL.mk fun v hv => h v (by simp [hv])⟩

end Go.Proofs.Ytlahigboaeadmaa.VA
