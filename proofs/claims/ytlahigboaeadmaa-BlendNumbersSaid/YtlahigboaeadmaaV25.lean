/- Loops that are unrolled; calls that read or change owned memory. -/
import Derived.Test.YtlahigboaeadmaaV23
set_option linter.unusedVariables false
set_option linter.unusedSimpArgs false
namespace Go.Proofs.Ytlahigboaeadmaa.VA
open Go
noncomputable section

theorem StepS.mono {P : Program} {S : List V} {H : Heap} {ao : AOp} {k k' : V → Heap → Prop} (h : StepS P S H ao k) (hk : ∀ v H', k v H' → k' v H') : StepS P S H ao k' := by
  unfold StepS at h ⊢
  split at h
  · obtain ⟨v, H', F, W, h1, h2⟩ := h; exact ⟨v, H', F, W, h1, hk _ _ h2⟩
  · obtain ⟨v, H', F, W, h1, h2⟩ := h; exact ⟨v, H', F, W, h1, hk _ _ h2⟩
  · split at h
    · exact hk _ _ h
    · exact h.elim

theorem StepF.mono {P : Program} {S : List V} {H : Heap} {ao : AOp} {k k' : V → Heap → List Nat → List Nat → Prop} (h : StepF P S H ao k) (hk : ∀ v H' F W, k v H' F W → k' v H' F W) : StepF P S H ao k' := by
  unfold StepF at h ⊢
  split at h
  · obtain ⟨v, H', F, W, h1, h2⟩ := h; exact ⟨v, H', F, W, h1, hk _ _ _ _ h2⟩
  · obtain ⟨v, H', F, W, h1, h2⟩ := h; exact ⟨v, H', F, W, h1, hk _ _ _ _ h2⟩
  · split at h
    · exact hk _ _ _ _ h
    · exact h.elim

theorem RunS.mono {P : Program} {Q Q' : List V → Heap → Prop} (hQ : ∀ S H, Q S H → Q' S H) : ∀ {os : List AOper} {S : List V} {H : Heap}, RunS P Q os S H → RunS P Q' os S H
  | [], S, H, h => hQ S H h
  | o :: os, S, H, h => by
    simp only [RunS] at h ⊢
    cases hg : o.guard with
    | none => rw [hg] at h; exact StepS.mono h fun v H' h => RunS.mono hQ h
    | some p =>
      obtain ⟨t, want⟩ := p
      rw [hg] at h
      simp only [] at h ⊢
      split at h
      · rename_i b hb
        by_cases hw : b = want
        · rw [if_pos hw] at h ⊢; exact StepS.mono h fun v H' h => RunS.mono hQ h
        · rw [if_neg hw] at h ⊢; exact RunS.mono hQ h
      · exact RunS.mono hQ h
      · exact h

theorem RunF.mono {P : Program} {Q Q' : List V → Heap → List (List Nat × List Nat) → Prop} (hQ : ∀ S H FW, Q S H FW → Q' S H FW) : ∀ {os : List AOper} {S : List V} {H : Heap} {FW : List (List Nat × List Nat)}, RunF P Q os S H FW → RunF P Q' os S H FW
  | [], S, H, FW, h => hQ S H FW h
  | o :: os, S, H, FW, h => by
    simp only [RunF] at h ⊢
    cases hg : o.guard with
    | none => rw [hg] at h; exact StepF.mono h fun v H' F W h => RunF.mono hQ h
    | some p =>
      obtain ⟨t, want⟩ := p
      rw [hg] at h
      simp only [] at h ⊢
      split at h
      · rename_i b hb
        by_cases hw : b = want
        · rw [if_pos hw] at h ⊢; exact StepF.mono h fun v H' F W h => RunF.mono hQ h
        · rw [if_neg hw] at h ⊢; exact RunF.mono hQ h
      · exact RunF.mono hQ h
      · exact h

theorem wpS_mono {P : Program} {m0 : Nat} : ∀ (c : ACode) {Q Q' : AExit → List V → Heap → Prop} {S : List V} {H : Heap}, wpS P m0 c Q S H → (∀ e S H, Q e S H → Q' e S H) → wpS P m0 c Q' S H
  | .skip, Q, Q', S, H, h, hq => hq _ _ _ h
  | .region [] ops, Q, Q', S, H, h, hq => RunS.mono (fun S H h => hq _ _ _ h) h
  | .region (p :: pairs) ops, Q, Q', S, H, h, hq => RunF.mono (fun S H FW h => ⟨h.1, hq _ _ _ h.2⟩) h
  | .seq a b, Q, Q', S, H, h, hq => by
    refine wpS_mono a h fun e S H h => ?_
    cases e with
    | normal => exact wpS_mono b h hq
    | exit i => exact hq _ _ _ h
    | ret => exact hq _ _ _ h
  | .cond c a b, Q, Q', S, H, h, hq => by
    simp only [wpS] at h ⊢
    split at h
    · rename_i t ht
      by_cases h1 : t = true
      · rw [if_pos h1] at h ⊢; exact wpS_mono a h hq
      · rw [if_neg h1] at h ⊢; exact wpS_mono b h hq
    · exact h
  | .block id c, Q, Q', S, H, h, hq => by
    refine wpS_mono c h fun e S H h => ?_
    cases e with
    | normal => exact hq _ _ _ h
    | ret => exact hq _ _ _ h
    | exit i =>
      by_cases hi : i = id
      · simp only [hi, if_true] at h ⊢; exact hq _ _ _ h
      · simp only [hi, if_false] at h ⊢; exact hq _ _ _ h
  | .loop c, Q, Q', S, H, h, hq => by
    obtain ⟨I, m, S', H', hw, h0, hr⟩ := h
    refine ⟨I, m, S', H', hw, h0, fun n S H hI => wpS_mono c (hr n S H hI) fun e S H h => ?_⟩
    cases e with
    | normal => exact h
    | exit i => exact hq _ _ _ h
    | ret => exact hq _ _ _ h
  | .exit id, Q, Q', S, H, h, hq => hq _ _ _ h
  | .ret, Q, Q', S, H, h, hq => hq _ _ _ h

/-- A loop of at most n rounds. -/
def LK (P : Program) (m0 : Nat) (Q : AExit → List V → Heap → Prop) (c : ACode) (k : Kt) : Nat → List V → Heap → Prop
  | 0 => fun _ _ => False
  | n + 1 => fun S H => WK P m0 Q c (.lp (LK P m0 Q c k n) k) S H

section
variable {P : Program} {m0 : Nat} {Q : AExit → List V → Heap → Prop} {S : List V} {H : Heap} {k : Kt} {c : ACode}
theorem lk_succ (n : Nat) : LK P m0 Q c k (n + 1) S H = WK P m0 Q c (.lp (LK P m0 Q c k n) k) S H := propext Iff.rfl
theorem wk_unroll (n : Nat) (h : LK P m0 Q c k n S H) : WK P m0 Q (.loop c) k S H := by
  refine ⟨fun n S H => LK P m0 Q c k n S H, n, S, H, .refl _, h, fun n S H hn => ?_⟩
  cases n with
  | zero => exact hn.elim
  | succ n =>
    refine wpS_mono c hn fun e S H h => ?_
    cases e with
    | normal => exact ⟨n, S, H, Nat.lt_succ_self n, .refl _, h⟩
    | exit i => exact h
    | ret => exact h
end

/-- A call, its arguments told. -/
def CK (P : Program) (m0 : Nat) (Q : AExit → List V → Heap → Prop) (d : Option Nat) (f : Nat) (vs : List V) (os : List AOper) (k : Kt) (S : List V) (H : Heap) : Prop :=
  ∃ v H' F W, CallRel P f H vs v H' F W ∧ RK P m0 Q os k (putS S d v) H'
def CFK (P : Program) (m0 : Nat) (Q : AExit → List V → Heap → Prop) (pairs : List (Nat × Nat)) (FW : List (List Nat × List Nat)) (d : Option Nat) (f : Nat) (vs : List V) (os : List AOper) (k : Kt) (S : List V) (H : Heap) : Prop :=
  ∃ v H' F W, CallRel P f H vs v H' F W ∧ FK P m0 Q pairs os k (putS S d v) H' (FW ++ [(F, W)])
section
variable {P : Program} {m0 : Nat} {Q : AExit → List V → Heap → Prop} {S : List V} {H : Heap} {k : Kt} {d : Option Nat} {f : Nat} {os : List AOper} {pairs : List (Nat × Nat)} {FW : List (List Nat × List Nat)}
theorem rk_callK (args : List Od) : RK P m0 Q (⟨d, .call f args, none⟩ :: os) k S H = CK P m0 Q d f (args.map (·.ev S)) os k S H := propext Iff.rfl
theorem fk_callK (args : List Od) : FK P m0 Q pairs (⟨d, .call f args, none⟩ :: os) k S H FW = CFK P m0 Q pairs FW d f (args.map (·.ev S)) os k S H := propext Iff.rfl
theorem ck_call {vs : List V} (v : V) (H' : Heap) {F W : List Nat} (h : CallRel P f H vs v H' F W) (hk : RK P m0 Q os k (putS S d v) H') : CK P m0 Q d f vs os k S H := ⟨v, H', F, W, h, hk⟩
theorem cfk_call {vs : List V} (v : V) (H' : Heap) {F W : List Nat} (h : CallRel P f H vs v H' F W) (hk : FK P m0 Q pairs os k (putS S d v) H' (FW ++ [(F, W)])) : CFK P m0 Q pairs FW d f vs os k S H := ⟨v, H', F, W, h, hk⟩
end

/-! Calls. -/
theorem no_ro_bs (l : List UInt8) : NoROL (bs l) := by
  induction l with
  | nil => trivial
  | cons x l ih => exact ⟨trivial, ih⟩
theorem no_ro_nums (k : IntKind) (l : List Int) : NoROL (nums k l) := by
  induction l with
  | nil => trivial
  | cons x l ih => exact ⟨trivial, ih⟩

/-- A call of values and of rows that are only read; it gives back a value. -/
theorem call_ro {P : Program} {f : Nat} {args' : List V} {r : V} (hC : C P f args' [] r []) {H : Heap} {args : List V} (bs : List Nat) (hbs : ∀ id ∈ bs, id ∈ idsInL args ∧ ∃ cells, blkAt H id = some cells)
    (hrel : ArgRelL H [] bs args args') (hr : Closed r) (hro : NoRO r) : CallRel P f H args r H bs [] := by
  have := call_in hC (H := H) bs hbs hrel (fun _ => ⟨hro, fun i cells h => by simp at h⟩)
  rw [renV_closed _ r hr] at this
  simpa using this

/-- The same; it gives back a new row. -/
theorem call_ro_new {P : Program} {f : Nat} {args' : List V} {n sz : Nat} {cells : List V} (hC : C P f args' [] (.sref 0 0 n sz) [some cells]) {H : Heap} {args : List V} (bs : List Nat) (hbs : ∀ id ∈ bs, id ∈ idsInL args ∧ ∃ cells, blkAt H id = some cells)
    (hrel : ArgRelL H [] bs args args') (hc : ClosedL cells) (hro : NoROL cells) : CallRel P f H args (.sref H.length 0 n sz) (H ++ [some cells]) bs [] := by
  have := call_in hC (H := H) bs hbs hrel (fun _ => ⟨trivial, fun i cs h => by
    cases i with
    | zero => simp at h; subst h; exact hro
    | succ i => simp at h⟩)
  simpa [renV, renL_closed _ cells hc] using this

/-- A call that changes one owned block, its first argument refers to it; the others are values. -/
theorem call_upd {P : Program} {f : Nat} {id off : Nat} {args : List V} {r : V} {cells cells' : List V} (hC : C P f (.ref 0 off :: args) [cells] r [some cells']) {H : Heap} (hb : blkAt H id = some cells) (ha : ClosedL args) (hc : ClosedL cells) (hc' : ClosedL cells') (hr : Closed r) :
    CallRel P f H (.ref id off :: args) r (H.set id (some cells')) [id] [id] := by
  refine ⟨[id], [], .ref 0 off :: args, [cells], r, [some cells'], hC, by simp, rfl, by simp, fun k i hk => ?_, fun k i hk => ?_, by simp, ?_, by simp, by rw [renV_closed _ r hr], ?_, by simp, rfl⟩
  · cases k with
    | zero => simp at hk; subst hk; exact ⟨cells, cells, rfl, hb, argL_closed cells hc⟩
    | succ k => simp at hk
  · cases k with
    | zero => simp at hk; subst hk; exact .inl (by simp [idsInL, idsIn])
    | succ k => simp at hk
  · simp only [ArgRelL]
    exact ⟨_, _, rfl, by simp only [ArgRel]; exact ⟨0, rfl, rfl⟩, argL_closed args ha⟩
  · simp [putBack, renL_closed _ cells' hc']

/-- The same, of a row. -/
theorem call_updS {P : Program} {f : Nat} {id off n sz : Nat} {args : List V} {r : V} {cells cells' : List V} (hC : C P f (.sref 0 off n sz :: args) [cells] r [some cells']) {H : Heap} (hb : blkAt H id = some cells) (ha : ClosedL args) (hc : ClosedL cells) (hc' : ClosedL cells') (hr : Closed r) :
    CallRel P f H (.sref id off n sz :: args) r (H.set id (some cells')) [id] [id] := by
  refine ⟨[id], [], .sref 0 off n sz :: args, [cells], r, [some cells'], hC, by simp, rfl, by simp, fun k i hk => ?_, fun k i hk => ?_, by simp, ?_, by simp, by rw [renV_closed _ r hr], ?_, by simp, rfl⟩
  · cases k with
    | zero => simp at hk; subst hk; exact ⟨cells, cells, rfl, hb, argL_closed cells hc⟩
    | succ k => simp at hk
  · cases k with
    | zero => simp at hk; subst hk; exact .inl (by simp [idsInL, idsIn])
    | succ k => simp at hk
  · simp only [ArgRelL]
    exact ⟨_, _, rfl, by simp only [ArgRel]; exact .inl ⟨0, rfl, rfl⟩, argL_closed args ha⟩
  · simp [putBack, renL_closed _ cells' hc']

/-- What is left of a function that changed the one block that it was handed. -/
theorem out_upd {H : Heap} {v : V} {cells : List V} (hb : blkAt H 0 = some cells) (hc : ClosedL cells) (hv : Closed v) : OutOK 1 H v v [some cells] := by
  have h0 : ∀ k, k < 1 → ([0] : List Nat)[k]? = some k := by
    intro k h
    have : k = 0 := by omega
    subst this; rfl
  refine ⟨[0], by simp, rfl, Nat.le_refl _, h0, ?_, fun k c h => ?_⟩
  · exact arg_closed v hv
  · cases k with
    | zero => simp at h; subst h; exact ⟨0, cells, rfl, hb, argL_closed cells hc⟩
    | succ k => simp at h

/-- What is given back is a new row of bytes. -/
theorem out_bs {H : Heap} {id n : Nat} {l : List UInt8} {cells : List V} (hb : blkAt H id = some cells) (hc : cells = bs l) (hn : n = l.length) : OutOK 0 H (.sref id 0 n 1) (.sref 0 0 l.length 1) [some (bs l)] := by
  subst hc; subst hn
  exact out_row hb (bs_closed l)

end
end Go.Proofs.Ytlahigboaeadmaa.VA
