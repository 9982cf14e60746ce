/- The soundness of regions of 'VA' whose order is drawn. -/
import Derived.Test.YtlahigboaeadmaaV12
set_option linter.unusedVariables false
set_option linter.unusedSimpArgs false
namespace Go.Proofs.Ytlahigboaeadmaa.VA
open Go

/-- All that is known of a region and of its run in the order of its text. -/
structure Reg (P : Program) (ops : Array Oper) (l : List Oper) (aos : List AOper) (Ss : Nat → List V) (Hs : Nat → Heap) (vs : Nat → V) (Fs Ws : Nat → List Nat) : Prop where
  ol : l = ops.toList
  at_ : ∀ (i : Nat) (o : Oper), l[i]? = some o → ∃ ao g, cOp P o.op = some ao ∧ cGuard ops o.guard = some g ∧ aos[i]? = some { dst := o.dst, op := ao, guard := g }
  len : aos.length = l.length
  step : ∀ i o, aos[i]? = some o → TStep P Ss Hs vs Fs Ws i o
  back : ∀ (i : Nat) (o : Oper), l[i]? = some o → ∀ e ∈ o.after.toList, Region.binds .any e = true → e.on < i
  apart : ∀ i j, i < j → j < l.length → bef (masks l []) i j = false → apartOps ops (opAt l i) (opAt l j) = true
  disj1 : ∀ i j, i < j → j < l.length → bef (masks l []) i j = false → ∀ x ∈ Ws i, x ∉ Fs j
  disj2 : ∀ i j, i < j → j < l.length → bef (masks l []) i j = false → ∀ x ∈ Ws j, x ∉ Fs i

section
variable {P : Program} {ops : Array Oper} {l : List Oper} {aos : List AOper} {Ss : Nat → List V} {Hs : Nat → Heap} {vs : Nat → V} {Fs Ws : Nat → List Nat}

def dstOf (l : List Oper) (j : Nat) : Option Nat := (l[j]?).bind (·.dst)

theorem Reg.facts (R : Reg P ops l aos Ss Hs vs Fs Ws) {i : Nat} (hi : i < l.length) : EvFacts (Hs i) (Hs (i + 1)) (Fs i) (Ws i) := by
  have : i < aos.length := by rw [R.len]; exact hi
  exact (R.step i _ (List.getElem?_eq_getElem this)).facts

theorem Reg.hlen (R : Reg P ops l aos Ss Hs vs Fs Ws) {i j : Nat} (hij : i ≤ j) (hj : j ≤ l.length) : (Hs i).length ≤ (Hs j).length := by
  induction j with
  | zero => have : i = 0 := by omega
            subst this; exact Nat.le_refl _
  | succ j ih =>
    by_cases h : i = j + 1
    · subst h; exact Nat.le_refl _
    · exact Nat.le_trans (ih (by omega) (by omega)) (R.facts (by omega)).len

theorem Reg.sput (R : Reg P ops l aos Ss Hs vs Fs Ws) {i : Nat} (hi : i < l.length) : Ss (i + 1) = putS (Ss i) (dstOf l i) (vs i) := by
  obtain ⟨ao, g, _, _, h⟩ := R.at_ i l[i] (List.getElem?_eq_getElem hi)
  have := (R.step i _ h).1
  simpa [dstOf, List.getElem?_eq_getElem hi] using this

theorem Reg.sconst (R : Reg P ops l aos Ss Hs vs Fs Ws) (t : Nat) {i j : Nat} (hij : i ≤ j) (hj : j ≤ l.length) (h : ∀ k, i ≤ k → k < j → dstOf l k ≠ some t) : (Ss i).getD t .dead = (Ss j).getD t .dead := by
  induction j with
  | zero => have : i = 0 := by omega
            subst this; rfl
  | succ j ih =>
    by_cases he : i = j + 1
    · subst he; rfl
    · rw [ih (by omega) (by omega) (fun k h1 h2 => h k h1 (by omega)), R.sput (by omega)]
      have := h j (by omega) (by omega)
      cases hd : dstOf l j with
      | none => rfl
      | some d =>
        rw [putS_get, if_neg]
        rintro ⟨rfl, _⟩
        exact this hd

theorem Reg.hconst (R : Reg P ops l aos Ss Hs vs Fs Ws) (id : Nat) {i j : Nat} (hij : i ≤ j) (hj : j ≤ l.length) (hid : id < (Hs i).length) (h : ∀ k, i ≤ k → k < j → id ∉ Ws k) : (Hs j)[id]? = (Hs i)[id]? := by
  induction j with
  | zero => have : i = 0 := by omega
            subst this; rfl
  | succ j ih =>
    by_cases he : i = j + 1
    · subst he; rfl
    · rw [← ih (by omega) (by omega) (fun k h1 h2 => h k h1 (by omega))]
      exact (R.facts (by omega)).keep id (Nat.lt_of_lt_of_le hid (R.hlen (by omega) (by omega))) (h j (by omega) (by omega))

theorem Reg.hlive (R : Reg P ops l aos Ss Hs vs Fs Ws) (id : Nat) {i j : Nat} (hij : i ≤ j) (hj : j ≤ l.length) (hid : id < (Hs i).length) (h : LiveId (Hs j) id) : LiveId (Hs i) id := by
  induction j with
  | zero => have : i = 0 := by omega
            subst this; exact h
  | succ j ih =>
    by_cases he : i = j + 1
    · subst he; exact h
    · exact ih (by omega) (by omega) ((R.facts (by omega)).live id (Nat.lt_of_lt_of_le hid (R.hlen (by omega) (by omega))) h)

/-- An operation makes a block. -/
def Mk (Hs : Nat → Heap) (j id : Nat) : Prop := (Hs j).length ≤ id ∧ id < (Hs (j + 1)).length

theorem Reg.mk_one (R : Reg P ops l aos Ss Hs vs Fs Ws) {i j id : Nat} (hi : i < l.length) (hj : j < l.length) (h1 : Mk Hs i id) (h2 : Mk Hs j id) : i = j := by
  rcases Nat.lt_trichotomy i j with h | h | h
  · have := R.hlen (i := i + 1) (j := j) (by omega) (by omega)
    have := h1.2; have := h2.1; omega
  · exact h
  · have := R.hlen (i := j + 1) (j := i) (by omega) (by omega)
    have := h2.2; have := h1.1; omega

def SepS (l : List Oper) (E : Nat → Prop) (t k : Nat) : Prop := k ≤ l.length ∧ ∀ j, j < l.length → dstOf l j = some t → (E j ↔ j < k)
def SepH (l : List Oper) (Hs : Nat → Heap) (Ws : Nat → List Nat) (E : Nat → Prop) (id m : Nat) : Prop := m ≤ l.length ∧ ∀ j, j < l.length → (id ∈ Ws j ∨ Mk Hs j id) → (E j ↔ j < m)

def DE (l : List Oper) (Hs : Nat → Heap) (Ws : Nat → List Nat) (E : Nat → Prop) (id : Nat) : Prop := ∃ m, SepH l Hs Ws E id m ∧ LiveId (Hs m) id

theorem Reg.sepH_same (R : Reg P ops l aos Ss Hs vs Fs Ws) {E : Nat → Prop} {id m m' : Nat} (h : SepH l Hs Ws E id m) (h' : SepH l Hs Ws E id m') (hm : id < (Hs m).length) (hm' : id < (Hs m').length) : (Hs m)[id]? = (Hs m')[id]? := by
  have key : ∀ m m', m ≤ m' → SepH l Hs Ws E id m → SepH l Hs Ws E id m' → id < (Hs m).length → (Hs m)[id]? = (Hs m')[id]? := by
    intro m m' hle h h' hm
    refine (R.hconst id hle h'.1 hm fun k hk hk' hw => ?_).symm
    have h1 := (h.2 k (by have := h'.1; omega) (.inl hw))
    have h2 := (h'.2 k (by have := h'.1; omega) (.inl hw))
    have := h1.1 (h2.2 hk')
    omega
  rcases Nat.le_total m m' with hle | hle
  · exact key m m' hle h h' hm
  · exact (key m' m hle h' h hm').symm

/-- What holds while some operations ('E') are done. -/
structure Inv (P : Program) (B0 : Cx) (H0 : Heap) (l : List Oper) (Ss : Nat → List V) (Hs : Nat → Heap) (Fs Ws : Nat → List Nat) (E : Nat → Prop) (K : Cx) (a : Act) : Prop where
  down : ∀ j, E j → j < l.length ∧ Done l E j
  inj : ∀ i j b, DE l Hs Ws E i → DE l Hs Ws E j → K.β i = some b → K.β j = some b → i = j
  blk : ∀ id, DE l Hs Ws E id → ∃ b m cells, K.β id = some b ∧ SepH l Hs Ws E id m ∧ (Hs m)[id]? = some (some cells) ∧ BlkOK K b cells
  own : ∀ id b, DE l Hs Ws E id → K.β id = some b → K.N b ∧ (K.R b ∨ K.B ≤ b)
  low : K.B ≤ K.w.heap.size
  dom : ∀ id b, K.β id = some b → id < (Hs 0).length ∨ ∃ j, E j ∧ Mk Hs j id
  foot : ∀ j, E j → ∀ id ∈ Fs j, ∃ b, K.β id = some b
  step : Step B0 H0 (kap H0) K (Hs l.length) (DE l Hs Ws E)
  slen : (Ss 0).length = a.tmps.size
  slots : ∀ t, ∃ k, SepS l E t k ∧ Rep K ((Ss k).getD t .dead) (a.tmps.getD t undef)
  defers : a.defers = []

theorem Reg.slen (R : Reg P ops l aos Ss Hs vs Fs Ws) {i : Nat} (hi : i ≤ l.length) : (Ss i).length = (Ss 0).length := by
  induction i with
  | zero => rfl
  | succ i ih => rw [R.sput (by omega), putS_len, ih (by omega)]

theorem opAt_of {i : Nat} {o : Oper} (h : l[i]? = some o) : opAt l i = o := by
  unfold opAt; rw [List.getD_eq_getElem?_getD, h]; rfl

/-- Not bound: then apart. -/
theorem Reg.apart' (R : Reg P ops l aos Ss Hs vs Fs Ws) {i j : Nat} {oi oj : Oper} (hi : l[i]? = some oi) (hj : l[j]? = some oj) (hij : i < j) (hb : bef (masks l []) i j = false) :
    (∀ d, oi.dst = some d → d ∉ looks ops oj ∧ oj.dst ≠ some d) ∧ (∀ d, oj.dst = some d → d ∉ looks ops oi) := by
  have := R.apart i j hij (List.getElem?_eq_some_iff.1 hj).1 hb
  rw [opAt_of hi, opAt_of hj] at this
  unfold apartOps at this
  simp only [Bool.and_eq_true] at this
  refine ⟨fun d hd => ?_, fun d hd => ?_⟩
  · have h1 := this.1
    rw [hd] at h1
    simpa using h1
  · have h2 := this.2
    rw [hd] at h2
    simpa using h2

variable {B0 : Cx} {H0 : Heap} {E : Nat → Prop} {K : Cx} {a : Act}

/-- What an operation that is ready looks at has the value that it had in the order of the text. -/
theorem Inv.look (R : Reg P ops l aos Ss Hs vs Fs Ws) (h : Inv P B0 H0 l Ss Hs Fs Ws E K a) {i : Nat} {o : Oper} (hi : l[i]? = some o) (hni : ¬ E i) (hdone : Done l E i) {t : Nat} (ht : t ∈ looks ops o) :
    Rep K ((Ss i).getD t .dead) (a.tmps.getD t undef) := by
  obtain ⟨k, hk, hrep⟩ := h.slots t
  have hil : i < l.length := (List.getElem?_eq_some_iff.1 hi).1
  have hE : ∀ j, E j → Done l E j := fun j hj => (h.down j hj).2
  have hw : ∀ j, j < l.length → dstOf l j = some t → (i ≤ j → j < k → False) ∧ (k ≤ j → j < i → False) := by
    intro j hj hd
    obtain ⟨oj, hoj⟩ : ∃ oj, l[j]? = some oj := ⟨l[j], List.getElem?_eq_getElem hj⟩
    have hdj : oj.dst = some t := by simpa [dstOf, hoj] using hd
    refine ⟨fun h1 h2 => ?_, fun h1 h2 => ?_⟩
    · have hEj := (hk.2 j hj hd).2 h2
      have hne : i ≠ j := fun he => hni (he ▸ hEj)
      cases hb : bef (masks l []) i j with
      | true => exact hni (bef_ok hE hb (h.down j hEj).2)
      | false => exact (R.apart' hi hoj (by omega) hb).2 t hdj ht
    · have hEj : ¬ E j := fun he => by have := (hk.2 j hj hd).1 he; omega
      cases hb : bef (masks l []) j i with
      | true => exact hEj (bef_ok hE hb hdone)
      | false => exact ((R.apart' hoj hi h2 hb).1 t hdj).1 ht
  have hsame : (Ss i).getD t .dead = (Ss k).getD t .dead := by
    rcases Nat.le_total i k with hle | hle
    · exact R.sconst t hle hk.1 fun j h1 h2 hd => (hw j (by have := hk.1; omega) hd).1 h1 h2
    · exact (R.sconst t hle (by omega) fun j h1 h2 hd => (hw j (by omega) hd).2 h1 h2).symm
  rw [hsame]; exact hrep

/-- What an operation that is ready looks into is as it was in the order of the text. -/
theorem Inv.sepAt (R : Reg P ops l aos Ss Hs vs Fs Ws) (h : Inv P B0 H0 l Ss Hs Fs Ws E K a) {i : Nat} (hil : i < l.length) (hni : ¬ E i) (hdone : Done l E i) {id : Nat} (hF : id ∈ Fs i) (hdef : ∃ b, K.β id = some b) :
    SepH l Hs Ws E id i ∧ LiveId (Hs i) id := by
  have hE : ∀ j, E j → Done l E j := fun j hj => (h.down j hj).2
  have hlive := (R.facts hil).foot id hF
  refine ⟨⟨by omega, fun j hj hw => ⟨fun hEj => ?_, fun hji => ?_⟩⟩, hlive⟩
  · rcases Nat.lt_or_ge j i with hlt | hge
    · exact hlt
    · exfalso
      have hne : i ≠ j := fun he => hni (he ▸ hEj)
      rcases hw with hw | hw
      · cases hb : bef (masks l []) i j with
        | true => exact hni (bef_ok hE hb (h.down j hEj).2)
        | false => exact R.disj2 i j (by omega) hj hb id hw hF
      · have h1 := hlive.lt
        have h2 := R.hlen (i := i) (j := j) hge (by omega)
        have := hw.1; omega
  · rcases hw with hw | hw
    · cases hb : bef (masks l []) j i with
      | true => exact bef_ok hE hb hdone
      | false => exact absurd hF (R.disj1 j i hji hil hb id hw)
    · obtain ⟨b, hb⟩ := hdef
      rcases h.dom id b hb with h1 | ⟨j', hj', hm⟩
      · have := hw.1
        have h2 := R.hlen (i := 0) (j := j) (by omega) (by omega)
        omega
      · have := R.mk_one (h.down j' hj').1 hj hm hw
        subst this; exact hj'

theorem foot_nil {S : List V} {ao : AOp} (h : ftK ao = false) : footOp S ao = [] := by
  cases ao <;> first | rfl | (simp [ftK] at h; done)

/-- The owned blocks that an operation looks into are named by its operands. -/
theorem foot_def {op : Op} {ao : AOp} (hc : cOp P op = some ao) {K : Cx} {S : List V} {a : Act} (hS : ∀ x ∈ op.operands.toList, OnOd K S a x) : ∀ i ∈ footOp S ao, ∃ b, K.β i = some b := by
  have one : ∀ {x : Operand} {d : Od}, x ∈ op.operands.toList → cOd x = some d → ∀ i ∈ idV (d.ev S), ∃ b, K.β i = some b := fun hx hd => idV_def (od_rep hd (hS _ hx))
  by_cases hm : mayTouch op = false
  · rw [foot_nil (cOp_ftK hc hm)]
    intro i hi; cases hi
  · cases op with
    | load t x =>
      simp only [cOp, Option.bind_eq_bind, Option.bind_eq_some_iff, Option.pure_def, Option.some.injEq] at hc
      obtain ⟨k, _, d, hd, rfl⟩ := hc
      exact one (by simp [Op.operands]) hd
    | store t x y =>
      simp only [cOp, Option.bind_eq_bind, Option.bind_eq_some_iff, Option.pure_def, Option.some.injEq] at hc
      obtain ⟨k, _, d, hd, d', hd', rfl⟩ := hc
      exact one (by simp [Op.operands]) hd
    | convert src dst x =>
      simp only [cOp] at hc
      split at hc
      · simp only [Option.map_eq_some_iff] at hc; obtain ⟨d, hd, rfl⟩ := hc; simp [footOp]
      · simp only [Option.map_eq_some_iff] at hc; obtain ⟨d, hd, rfl⟩ := hc; simp [footOp]
      · split at hc
        · split at hc
          · simp only [Option.map_eq_some_iff] at hc; obtain ⟨d, hd, rfl⟩ := hc
            exact one (by simp [Op.operands]) hd
          · cases hc
        · cases hc
      · split at hc
        · split at hc
          · simp only [Option.map_eq_some_iff] at hc; obtain ⟨d, hd, rfl⟩ := hc
            exact one (by simp [Op.operands]) hd
          · cases hc
        · cases hc
      · split at hc
        · split at hc
          · simp only [Option.map_eq_some_iff] at hc; obtain ⟨d, hd, rfl⟩ := hc; simp [footOp]
          · cases hc
        · cases hc
      · cases hc
    | slice t x lo hi mx =>
      cases mx with
      | some m => simp [cOp] at hc
      | none =>
        simp only [cOp] at hc
        split at hc
        · simp only [Option.bind_eq_bind, Option.bind_eq_some_iff] at hc
          obtain ⟨sz, hsz, hc⟩ := hc
          split at hc
          · cases hc
          · simp only [Option.bind_eq_some_iff, Option.pure_def, Option.some.injEq] at hc
            obtain ⟨d, hd, dl, hdl, dh, hdh, rfl⟩ := hc
            exact one (by simp [Op.operands]) hd
        · simp only [Option.bind_eq_bind, Option.bind_eq_some_iff] at hc
          obtain ⟨sz, hsz, hc⟩ := hc
          split at hc
          · cases hc
          · simp only [Option.bind_eq_some_iff, Option.pure_def, Option.some.injEq] at hc
            obtain ⟨d, hd, dl, hdl, dh, hdh, rfl⟩ := hc
            simp [footOp]
        · simp only [Option.bind_eq_bind, Option.bind_eq_some_iff, Option.pure_def, Option.some.injEq] at hc
          obtain ⟨d, hd, dl, hdl, dh, hdh, rfl⟩ := hc
          simp [footOp]
        · cases hc
    | call c =>
      obtain ⟨callee, args, tys⟩ := c
      have hget : ∀ (i : Nat) (x : Operand), args[i]? = some x → x ∈ (Op.call ⟨callee, args, tys⟩).operands.toList := fun i x hx => by
        simp only [Op.operands, Call.operands, Array.toList_append, List.mem_append]
        exact .inr (Array.mem_toList_iff.2 (Array.mem_of_getElem? hx))
      simp only [cOp, cCall] at hc
      split at hc
      · unfold cBuiltin at hc
        split at hc
        · simp [mayTouch] at hm
        · simp [mayTouch] at hm
        · simp [mayTouch] at hm
        · simp only [Option.bind_eq_bind, Option.bind_eq_some_iff] at hc
          obtain ⟨x, hx, y, hy, t, ht, u, hu, hc⟩ := hc
          have fin : ∀ {dx dy : Od} {sz b : Nat}, cOd x = some dx → cOd y = some dy → ao = .append sz b dx dy → ∀ i ∈ footOp S ao, ∃ b, K.β i = some b := by
            rintro dx dy sz b hdx hdy rfl i hi
            simp only [footOp, List.mem_append] at hi
            rcases hi with hi | hi
            · exact one (hget _ _ hx) hdx i hi
            · exact one (hget _ _ hy) hdy i hi
          split at hc
          · simp only [Option.bind_eq_some_iff] at hc
            obtain ⟨i, hi, zs, hz, hc⟩ := hc
            split at hc
            · split at hc
              · cases hc
              · simp only [Option.bind_eq_some_iff, Option.pure_def, Option.some.injEq] at hc
                obtain ⟨dx, hdx, dy, hdy, rfl⟩ := hc
                exact fin hdx hdy rfl
            · split at hc
              · cases hc
              · simp only [Option.bind_eq_some_iff, Option.pure_def, Option.some.injEq] at hc
                obtain ⟨dx, hdx, dy, hdy, rfl⟩ := hc
                exact fin hdx hdy rfl
            · cases hc
          · cases hc
        · simp only [Option.bind_eq_bind, Option.bind_eq_some_iff] at hc
          obtain ⟨x, hx, y, hy, t, ht, hc⟩ := hc
          split at hc
          · simp only [Option.bind_eq_some_iff] at hc
            obtain ⟨i, hi, hc⟩ := hc
            split at hc
            · cases hc
            · simp only [Option.bind_eq_some_iff, Option.pure_def, Option.some.injEq] at hc
              obtain ⟨dx, hdx, dy, hdy, rfl⟩ := hc
              intro i hi
              simp only [footOp, List.mem_append] at hi
              rcases hi with hi | hi
              · exact one (hget _ _ hx) hdx i hi
              · exact one (hget _ _ hy) hdy i hi
          · cases hc
        · cases hc
      · split at hc
        · simp only [Option.bind_eq_bind, Option.bind_eq_some_iff, Option.pure_def, Option.some.injEq] at hc
          obtain ⟨ds, hds, rfl⟩ := hc
          simp [footOp]
        · cases hc
      · simp only [Option.bind_eq_bind, Option.bind_eq_some_iff, Option.pure_def, Option.some.injEq] at hc
        obtain ⟨d, hd, ds, hds, rfl⟩ := hc
        simp [footOp]
      · cases hc
    | _ => simp [mayTouch] at hm

/-- The same for all operations. -/
theorem ev_def {op : Op} {ao : AOp} (hc : cOp P op = some ao) {K : Cx} {S : List V} {H : Heap} {v : V} {H' : Heap} {F W : List Nat} {a : Act} (he : EvOp P S H ao v H' F W) (hS : ∀ x ∈ op.operands.toList, OnOd K S a x)
    (hcells : ∀ i ∈ F, (∃ b, K.β i = some b) → ∃ b cells, K.β i = some b ∧ H[i]? = some (some cells) ∧ BlkOK K b cells) : ∀ i ∈ F, ∃ b, K.β i = some b := by
  by_cases hcall : isCall ao = false
  · obtain ⟨_, rfl, rfl⟩ := EvOp_plain hcall he
    exact foot_def hc hS
  · by_cases hop : ∃ c, op = .call c
    · obtain ⟨c, rfl⟩ := hop
      obtain ⟨callee, args, tys⟩ := c
      have hx : ∀ x ∈ args.toList, OnOd K S a x := fun x hx => hS x (by
        simp only [Op.operands, Call.operands, Array.toList_append, List.mem_append]; exact .inr hx)
      simp only [cOp, cCall] at hc
      split at hc
      · exact absurd (cBuiltin_noCall hc) hcall
      · split at hc
        · simp only [Option.bind_eq_bind, Option.bind_eq_some_iff, Option.pure_def, Option.some.injEq] at hc
          obtain ⟨ds, hds, rfl⟩ := hc
          simp only [EvOp] at he
          exact call_def he (cOds_rep hds hx) hcells
        · cases hc
      · rename_i f _
        simp only [Option.bind_eq_bind, Option.bind_eq_some_iff, Option.pure_def, Option.some.injEq] at hc
        obtain ⟨d, hd, ds, hds, rfl⟩ := hc
        simp only [EvOp] at he
        split at he
        · rename_i g caps hv
          have hrf := od_rep hd (hS f (by simp only [Op.operands, Call.operands, Array.toList_append, List.mem_append]; left; simp))
          rw [hv] at hrf
          simp only [Rep] at hrf
          obtain ⟨lv, hl, hcaps⟩ := hrf
          have happ : RepL K (ds.map (·.ev S) ++ caps) (args.toList.map a.eval ++ lv) := by
            have h1 := cOds_rep hds hx
            refine RepL.mk (by rw [List.length_append, List.length_append, RepL.length h1, RepL.length hcaps]) fun i v c hv hc => ?_
            have hlen := RepL.length h1
            by_cases hi : i < (ds.map (·.ev S)).length
            · skip
              rw [List.getElem?_append_left hi] at hv
              rw [List.getElem?_append_left (by omega)] at hc
              obtain ⟨c', hc', hr⟩ := h1.get i v hv
              rw [hc] at hc'; cases hc'; exact hr
            · skip
              rw [List.getElem?_append_right (by omega)] at hv
              rw [List.getElem?_append_right (by omega), hlen] at hc
              obtain ⟨c', hc', hr⟩ := hcaps.get _ v hv
              rw [hc] at hc'; cases hc'; exact hr
          exact call_def he.2 happ hcells
        · exact he.elim
      · cases hc
    · exact absurd (cOp_noCall hc fun c h => hop ⟨c, h⟩) hcall

variable {B0 : Cx} {H0 : Heap} {E : Nat → Prop} {K : Cx} {a : Act}

/-- What an operation that is ready finds in memory. -/
theorem Inv.heap (R : Reg P ops l aos Ss Hs vs Fs Ws) (h : Inv P B0 H0 l Ss Hs Fs Ws E K a) {i : Nat} (hil : i < l.length) (hni : ¬ E i) (hdone : Done l E i) (hdef : ∀ id ∈ Fs i, ∃ b, K.β id = some b) :
    HeapOK K (Hs i) (fun id => id ∈ Fs i) := by
  have hDE : ∀ id ∈ Fs i, DE l Hs Ws E id := fun id hid => ⟨i, h.sepAt R hil hni hdone hid (hdef id hid)⟩
  refine ⟨fun x y b hx hy => h.inj x y b (hDE x hx) (hDE y hy), fun id hid => ?_, fun id b hid => h.own id b (hDE id hid), h.low⟩
  obtain ⟨b, m, cells, hb, hm, hH, hok⟩ := h.blk id (hDE id hid)
  obtain ⟨hsep, hlive⟩ := h.sepAt R hil hni hdone hid (hdef id hid)
  exact ⟨b, cells, hb, by rw [R.sepH_same hsep hm hlive.lt (List.getElem?_eq_some_iff.1 hH).1]; exact hH, hok⟩

/-- One operation more is done. -/
theorem Inv.next (R : Reg P ops l aos Ss Hs vs Fs Ws) (h : Inv P B0 H0 l Ss Hs Fs Ws E K a) (hdef0 : ∀ i, kap H0 i → ∃ b, B0.β i = some b) (hH0 : H0.length ≤ (Hs 0).length) (hl0 : ∀ i, i < H0.length → LiveId (Hs 0) i → kap H0 i)
    (hdom0 : ∀ i b, B0.β i = some b → i < H0.length)
    {i : Nat} {o : Oper} (hi : l[i]? = some o) (hni : ¬ E i) (hdone : Done l E i) (hdef : ∀ id ∈ Fs i, ∃ b, K.β id = some b) {K' : Cx} {c : Value}
    (hK' : HeapOK K' (Hs (i + 1)) (Dn (fun id => id ∈ Fs i) (Hs i) (Hs (i + 1)))) (hst : Step K (Hs i) (fun id => id ∈ Fs i) K' (Hs (i + 1)) (Dn (fun id => id ∈ Fs i) (Hs i) (Hs (i + 1)))) (hv : Rep K' (vs i) c) :
    Inv P B0 H0 l Ss Hs Fs Ws (fun j => E j ∨ j = i) K' (a.put o.dst c) := by
  have hil : i < l.length := (List.getElem?_eq_some_iff.1 hi).1
  have hE : ∀ j, E j → Done l E j := fun j hj => (h.down j hj).2
  have hK := h.heap R hil hni hdone hdef
  have hf := R.facts hil
  have hpres : Pres K K' := hst.pres hK
  have hDEF : ∀ id ∈ Fs i, DE l Hs Ws E id := fun id hid => ⟨i, h.sepAt R hil hni hdone hid (hdef id hid)⟩
  have hsz : ∀ id b, DE l Hs Ws E id → K.β id = some b → b < K.w.heap.size := fun id b hid hb => by
    obtain ⟨b', m, cells, hb', _, _, C, e, lo, up, hC, _⟩ := h.blk id hid
    rw [hb] at hb'; cases hb'
    exact (Array.getElem?_eq_some_iff.1 hC).1
  -- a block that was written or made by 'i' is, from then on, as 'i' left it
  have hsepW : ∀ id, (id ∈ Ws i ∨ Mk Hs i id) → SepH l Hs Ws (fun j => E j ∨ j = i) id (i + 1) := by
    intro id hid
    refine ⟨by omega, fun j hj hw => ?_⟩
    by_cases hji : j = i
    · subst hji; exact ⟨fun _ => by omega, fun _ => .inr rfl⟩
    · constructor
      · rintro (hEj | hEj)
        · rcases Nat.lt_or_ge j (i + 1) with hlt | hge
          · exact hlt
          · exfalso
            cases hb : bef (masks l []) i j with
            | true => exact hni (bef_ok hE hb (h.down j hEj).2)
            | false =>
              rcases hid with hid | hid
              · have hFi := hf.wf id hid
                rcases hw with hw | hw
                · exact R.disj2 i j (by omega) hj hb id hw hFi
                · have h1 := (hf.foot id hFi).lt
                  have h2 := R.hlen (i := i) (j := j) (by omega) (by omega)
                  have := hw.1; omega
              · rcases hw with hw | hw
                · obtain ⟨b, hbb⟩ := h.foot j hEj id ((R.facts hj).wf id hw)
                  rcases h.dom id b hbb with h1 | ⟨j', hj', hm⟩
                  · have h2 := R.hlen (i := 0) (j := i) (by omega) (by omega)
                    have := hid.1; omega
                  · have := R.mk_one (h.down j' hj').1 hil hm hid
                    subst this; exact hni hj'
                · have := R.mk_one hj hil hw hid; exact hji this
        · exact absurd hEj hji
      · intro hlt
        left
        have hjlt : j < i := by omega
        rcases hid with hid | hid
        · exact ((h.sepAt R hil hni hdone (hf.wf id hid) (hdef id (hf.wf id hid))).1.2 j hj hw).2 hjlt
        · exfalso
          have h2 := R.hlen (i := j + 1) (j := i) (by omega) (by omega)
          have := hid.1
          rcases hw with hw | hw
          · have h3 := ((R.facts hj).foot id ((R.facts hj).wf id hw)).lt
            have h4 := R.hlen (i := j) (j := i) (by omega) (by omega)
            omega
          · have := hw.2; omega
  have hback : ∀ id m, SepH l Hs Ws (fun j => E j ∨ j = i) id m → ¬ (id ∈ Ws i ∨ Mk Hs i id) → SepH l Hs Ws E id m := by
    intro id m hm hn
    refine ⟨hm.1, fun j hj hw => ?_⟩
    have hji : j ≠ i := fun he => hn (he ▸ hw)
    have := hm.2 j hj hw
    simpa [hji] using this
  -- the live blocks behind 'i'
  have hcases : ∀ id, DE l Hs Ws (fun j => E j ∨ j = i) id →
      (Dn (fun id => id ∈ Fs i) (Hs i) (Hs (i + 1)) id ∧ SepH l Hs Ws (fun j => E j ∨ j = i) id (i + 1)) ∨ (DE l Hs Ws E id ∧ id ∉ Fs i ∧ ¬ (id ∈ Ws i ∨ Mk Hs i id)) := by
    rintro id ⟨m, hm, hl⟩
    by_cases hid : id ∈ Ws i ∨ Mk Hs i id
    · left
      have hs := hsepW id hid
      have hlt1 : id < (Hs (i + 1)).length := by
        rcases hid with hid | hid
        · exact Nat.lt_of_lt_of_le (hf.foot id (hf.wf id hid)).lt hf.len
        · exact hid.2
      refine ⟨⟨?_, ?_⟩, hs⟩
      · rcases hid with hid | hid
        · exact .inl (hf.wf id hid)
        · exact .inr hid.1
      · obtain ⟨cells, hc⟩ := hl
        exact ⟨cells, by rw [← R.sepH_same hm hs (List.getElem?_eq_some_iff.1 hc).1 hlt1]; exact hc⟩
    · by_cases hF : id ∈ Fs i
      · left
        have hsE := hback id m hm hid
        obtain ⟨hsi, hli⟩ := h.sepAt R hil hni hdone hF (hdef id hF)
        have hk : (Hs (i + 1))[id]? = (Hs i)[id]? := hf.keep id hli.lt fun hw => hid (.inl hw)
        refine ⟨⟨.inl hF, by obtain ⟨cells, hc⟩ := hli; exact ⟨cells, by rw [hk]; exact hc⟩⟩, by omega, fun j hj hw => ?_⟩
        have hji : j ≠ i := fun he => hid (he ▸ hw)
        have := hsi.2 j hj hw
        simp only [hji, or_false]
        rw [this]; omega
      · right
        exact ⟨⟨m, hback id m hm hid, hl⟩, hF, hid⟩
  have hownE : ∀ b, OwnD K (fun id => id ∈ Fs i) b → OwnD K (DE l Hs Ws E) b := fun b ⟨id, hid, hb⟩ => ⟨id, hDEF id hid, hb⟩
  have hextK : ∀ id b, DE l Hs Ws E id → K'.β id = some b → K.β id = some b := fun id b hid hb => by
    obtain ⟨b', _, _, hb', _⟩ := h.blk id hid
    have := hst.ext id b' hb'
    rw [hb] at this; cases this; exact hb'
  -- a touched block and an untouched one are two
  have hcross : ∀ x y b, Dn (fun id => id ∈ Fs i) (Hs i) (Hs (i + 1)) x → DE l Hs Ws E y → y ∉ Fs i → K'.β x = some b → K'.β y = some b → False := by
    intro x y b hx hy hyF hxb hyb
    have hyb' := hextK y b hy hyb
    rcases hst.own (fun q hq => hdef q hq) b ⟨x, hx, hxb⟩ with ⟨q, hq, hqb⟩ | hge
    · have := h.inj q y b (hDEF q hq) hy hqb hyb'
      subst this; exact hyF hq
    · have := hsz y b hy hyb'; omega
  refine ⟨?_, ?_, ?_, ?_, hK'.low, ?_, ?_, ?_, by rw [put_size]; exact h.slen, ?_, by rw [put_defers]; exact h.defers⟩
  · rintro j (hj | rfl)
    · exact ⟨(h.down j hj).1, fun o' ho' e he hb => .inl ((h.down j hj).2 o' ho' e he hb)⟩
    · exact ⟨hil, fun o' ho' e he hb => .inl (hdone o' ho' e he hb)⟩
  · intro x y b hx hy hxb hyb
    rcases hcases x hx with ⟨h1, _⟩ | ⟨h1, h2, _⟩ <;> rcases hcases y hy with ⟨h3, _⟩ | ⟨h3, h4, _⟩
    · exact hK'.inj x y b h1 h3 hxb hyb
    · exact (hcross x y b h1 h3 h4 hxb hyb).elim
    · exact (hcross y x b h3 h1 h2 hyb hxb).elim
    · exact h.inj x y b h1 h3 (hextK x b h1 hxb) (hextK y b h3 hyb)
  · intro id hid
    rcases hcases id hid with ⟨h1, h2⟩ | ⟨h1, h2, h3⟩
    · obtain ⟨b, cells, hb, hH, hok⟩ := hK'.blk id h1
      exact ⟨b, i + 1, cells, hb, h2, hH, hok⟩
    · obtain ⟨b, m, cells, hb, hm, hH, hok⟩ := h.blk id h1
      refine ⟨b, m, cells, hst.ext id b hb, ⟨hm.1, fun j hj hw => ?_⟩, hH, hok.pres hpres (hst.frame b (hsz id b h1 hb) fun ho => ?_)⟩
      · have hji : j ≠ i := fun he => h3 (he ▸ hw)
        have := hm.2 j hj hw
        simpa [hji] using this
      · obtain ⟨q, hq, hqb⟩ := ho
        have := h.inj q id b (hDEF q hq) h1 hqb hb
        subst this; exact h2 hq
  · intro id b hid hb
    rcases hcases id hid with ⟨h1, h2⟩ | ⟨h1, h2, h3⟩
    · exact hK'.own id b h1 hb
    · have hb' := hextK id b h1 hb
      obtain ⟨hN, hRB⟩ := h.own id b h1 hb'
      refine ⟨hst.nk b hN (hsz id b h1 hb') fun ho => ?_, by rw [hst.R, hst.B]; exact hRB⟩
      obtain ⟨q, hq, hqb⟩ := ho
      have := h.inj q id b (hDEF q hq) h1 hqb hb'
      subst this; exact h2 hq
  · intro id b hb
    rcases hst.new id b hb with h1 | ⟨_, h1, h2, _⟩
    · rcases h.dom id b h1 with h2 | ⟨j, hj, hm⟩
      · exact .inl h2
      · exact .inr ⟨j, .inl hj, hm⟩
    · exact .inr ⟨i, .inr rfl, h1, h2⟩
  · rintro j (hj | rfl) id hid
    · obtain ⟨b, hb⟩ := h.foot j hj id hid
      exact ⟨b, hst.ext id b hb⟩
    · obtain ⟨b, hb⟩ := hdef id hid
      exact ⟨b, hst.ext id b hb⟩
  · have s := h.step
    have hn : ∀ q, K.β q = none → B0.β q = none := fun q hq => by
      cases hk : B0.β q with
      | none => rfl
      | some b0 => rw [s.ext q b0 hk] at hq; cases hq
    refine ⟨hst.B.trans s.B, hst.R.trans s.R, hst.os.trans s.os, hst.tape.trans s.tape, hst.output.trans s.output, Nat.le_trans s.size hst.size, s.len, fun q b hb => hst.ext q b (s.ext q b hb), ?_, ?_, ?_, ?_, ?_, ?_⟩
    · intro q b hb
      rcases hst.new q b hb with h1 | ⟨h0, h1, h2, h3⟩
      · exact s.new q b h1
      · have e1 := R.hlen (i := 0) (j := i) (by omega) (by omega)
        have e2 := R.hlen (i := i + 1) (j := l.length) (by omega) (by omega)
        refine .inr ⟨hn q h0, by omega, by omega, ?_⟩
        rcases h3 with h3 | h3
        · exact .inl (Nat.le_trans s.size h3)
        · exact (s.own hdef0 b (hownE b h3)).symm
    · intro b hb
      rcases hst.nn b hb with h1 | h1
      · exact s.nn b h1
      · exact .inr (Nat.le_trans s.size h1)
    · intro b hb hlt hno
      refine hst.nk b (s.nk b hb hlt hno) (Nat.lt_of_lt_of_le hlt s.size) fun ho => ?_
      rcases s.own hdef0 b (hownE b ho) with h1 | h1
      · exact hno h1
      · omega
    · rintro q ⟨m, hm, hl⟩
      by_cases hq : q < H0.length
      · left
        exact hl0 q hq (R.hlive q (Nat.zero_le _) hm.1 (by omega) hl)
      · right
        refine ⟨?_, by omega, Nat.lt_of_lt_of_le hl.lt (R.hlen hm.1 (Nat.le_refl _))⟩
        cases hk : B0.β q with
        | none => rfl
        | some b0 => have := hdom0 q b0 hk; omega
    · intro b hlt hno
      rw [hst.frame b (Nat.lt_of_lt_of_le hlt s.size) (fun ho => ?_), s.frame b hlt hno]
      rcases s.own hdef0 b (hownE b ho) with h1 | h1
      · exact hno h1
      · omega
    · intro b C e fz hC
      obtain ⟨C', fz', hC', hs⟩ := s.shape b C e fz hC
      obtain ⟨C'', fz'', hC'', hs'⟩ := hst.shape b C' e fz' hC'
      exact ⟨C'', fz'', hC'', hs'.trans hs⟩
  · intro t
    have hdi : dstOf l i = o.dst := by simp [dstOf, hi]
    by_cases ht : o.dst = some t
    · refine ⟨i + 1, ⟨by omega, fun j hj hd => ?_⟩, ?_⟩
      · by_cases hji : j = i
        · subst hji; exact ⟨fun _ => by omega, fun _ => .inr rfl⟩
        · obtain ⟨oj, hoj⟩ : ∃ oj, l[j]? = some oj := ⟨l[j], List.getElem?_eq_getElem hj⟩
          have hdj : oj.dst = some t := by simpa [dstOf, hoj] using hd
          constructor
          · rintro (hEj | hEj)
            · rcases Nat.lt_or_ge j (i + 1) with hlt | hge
              · exact hlt
              · exfalso
                cases hb : bef (masks l []) i j with
                | true => exact hni (bef_ok hE hb (h.down j hEj).2)
                | false => exact ((R.apart' hi hoj (by omega) hb).1 t ht).2 hdj
            · exact absurd hEj hji
          · intro hlt
            left
            cases hb : bef (masks l []) j i with
            | true => exact bef_ok hE hb hdone
            | false => exact absurd ht ((R.apart' hoj hi (by omega) hb).1 t hdj).2
      · rw [R.sput hil, hdi, ht, putS_get, put_get, R.slen (by omega), h.slen]
        by_cases hlt : t < a.tmps.size
        · rw [if_pos ⟨rfl, hlt⟩, if_pos ⟨rfl, hlt⟩]; exact hv
        · rw [if_neg (fun h => hlt h.2), if_neg (fun h => hlt h.2)]
          have hout : (Ss i).getD t .dead = .dead := by
            rw [List.getD_eq_getElem?_getD, List.getElem?_eq_none (by rw [R.slen (by omega), h.slen]; omega)]; rfl
          rw [hout]; simp [Rep]
    · obtain ⟨k, hk, hrep⟩ := h.slots t
      refine ⟨k, ⟨hk.1, fun j hj hd => ?_⟩, ?_⟩
      · have hji : j ≠ i := fun he => by subst he; rw [hdi] at hd; exact ht hd
        have := hk.2 j hj hd
        simpa [hji] using this
      · have hput : (a.put o.dst c).tmps.getD t undef = a.tmps.getD t undef := by
          cases hd : o.dst with
          | none => rfl
          | some d =>
            rw [put_get, if_neg]
            rintro ⟨rfl, _⟩
            exact ht hd
        rw [hput]
        exact Rep.pres hpres _ _ hrep

end

end Go.Proofs.Ytlahigboaeadmaa.VA
