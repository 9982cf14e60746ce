/- How a proof goes through the compact code: one step behind the other. -/
import Derived.Test.YtlahigboaeadmaaV15
set_option linter.unusedVariables false
set_option linter.unusedSimpArgs false
namespace Go.Proofs.Ytlahigboaeadmaa.VA
open Go
noncomputable section

def StepS (P : Program) (S : List V) (H : Heap) (ao : AOp) (k : V → Heap → Prop) : Prop :=
  match ao with
  | .call f args => ∃ v H' F W, CallRel P f H (args.map (·.ev S)) v H' F W ∧ k v H'
  | .callv f args => ∃ v H' F W, EvOp P S H (.callv f args) v H' F W ∧ k v H'
  | ao => match evOp S H ao with
    | some (v, H') => k v H'
    | none => False

/-- A region, without the book of what is touched. -/
def RunS (P : Program) (Q : List V → Heap → Prop) : List AOper → List V → Heap → Prop
  | [], S, H => Q S H
  | o :: os, S, H =>
    match o.guard with
    | none => StepS P S H o.op fun v H' => RunS P Q os (putS S o.dst v) H'
    | some (t, want) =>
      match S.getD t .dead with
      | .sc (.bool b) => if b = want then StepS P S H o.op fun v H' => RunS P Q os (putS S o.dst v) H' else RunS P Q os (putS S o.dst (.sc undef)) H
      | .sc (.tuple ⟨[]⟩) => RunS P Q os (putS S o.dst (.sc undef)) H
      | _ => False

def StepF (P : Program) (S : List V) (H : Heap) (ao : AOp) (k : V → Heap → List Nat → List Nat → Prop) : Prop :=
  match ao with
  | .call f args => ∃ v H' F W, CallRel P f H (args.map (·.ev S)) v H' F W ∧ k v H' F W
  | .callv f args => ∃ v H' F W, EvOp P S H (.callv f args) v H' F W ∧ k v H' F W
  | ao => match evOp S H ao with
    | some (v, H') => k v H' (footOp S ao) (wrOp S ao)
    | none => False

/-- A region, with it. -/
def RunF (P : Program) (Q : List V → Heap → List (List Nat × List Nat) → Prop) : List AOper → List V → Heap → List (List Nat × List Nat) → Prop
  | [], S, H, FW => Q S H FW
  | o :: os, S, H, FW =>
    match o.guard with
    | none => StepF P S H o.op fun v H' F W => RunF P Q os (putS S o.dst v) H' (FW ++ [(F, W)])
    | some (t, want) =>
      match S.getD t .dead with
      | .sc (.bool b) => if b = want then StepF P S H o.op fun v H' F W => RunF P Q os (putS S o.dst v) H' (FW ++ [(F, W)]) else RunF P Q os (putS S o.dst (.sc undef)) H (FW ++ [([], [])])
      | .sc (.tuple ⟨[]⟩) => RunF P Q os (putS S o.dst (.sc undef)) H (FW ++ [([], [])])
      | _ => False

theorem StepF.ev {P : Program} {S : List V} {H : Heap} {ao : AOp} {k : V → Heap → List Nat → List Nat → Prop} (h : StepF P S H ao k) : ∃ v H' F W, EvOp P S H ao v H' F W ∧ k v H' F W := by
  unfold StepF at h
  split at h
  · exact h
  · exact h
  · split at h
    · rename_i v H' he
      refine ⟨v, H', _, _, ?_, h⟩
      unfold EvOp
      split <;> simp_all
    · exact h.elim

theorem StepS.ev {P : Program} {S : List V} {H : Heap} {ao : AOp} {k : V → Heap → Prop} (h : StepS P S H ao k) : ∃ v H' F W, EvOp P S H ao v H' F W ∧ k v H' := by
  unfold StepS at h
  split at h
  · exact h
  · exact h
  · split at h
    · rename_i v H' he
      refine ⟨v, H', footOp S ao, wrOp S ao, ?_, h⟩
      unfold EvOp
      split <;> simp_all
    · exact h.elim

theorem RunF.ops {P : Program} {Q : List V → Heap → List (List Nat × List Nat) → Prop} : ∀ {os : List AOper} {S : List V} {H : Heap} {FW : List (List Nat × List Nat)}, RunF P Q os S H FW → RunOps P Q os S H FW
  | [], S, H, FW, h => h
  | o :: os, S, H, FW, h => by
    simp only [RunF] at h
    simp only [RunOps]
    cases hg : o.guard <;> rw [hg] at h
    · obtain ⟨v, H', F, W, h1, h2⟩ := h.ev
      exact ⟨v, H', F, W, h1, RunF.ops h2⟩
    · rename_i p
      obtain ⟨t, want⟩ := p
      simp only [] at h
      split at h
      · rename_i b hb
        by_cases hbw : b = want
        · rw [if_pos hbw] at h
          obtain ⟨v, H', F, W, h1, h2⟩ := h.ev
          exact .inl ⟨by rw [← hbw]; exact hb, v, H', F, W, h1, RunF.ops h2⟩
        · rw [if_neg hbw] at h
          exact .inr ⟨.inl (by rw [hb]; cases b <;> cases want <;> simp_all), RunF.ops h⟩
      · rename_i hb
        exact .inr ⟨.inr hb, RunF.ops h⟩
      · exact h.elim

theorem RunS.ops {P : Program} {Q : List V → Heap → Prop} {Q' : List V → Heap → List (List Nat × List Nat) → Prop} (hQ : ∀ S H FW, Q S H → Q' S H FW) : ∀ {os : List AOper} {S : List V} {H : Heap} {FW : List (List Nat × List Nat)}, RunS P Q os S H → RunOps P Q' os S H FW
  | [], S, H, FW, h => hQ S H FW h
  | o :: os, S, H, FW, h => by
    simp only [RunS] at h
    simp only [RunOps]
    cases hg : o.guard <;> rw [hg] at h
    · obtain ⟨v, H', F, W, h1, h2⟩ := h.ev
      exact ⟨v, H', F, W, h1, RunS.ops hQ h2⟩
    · rename_i p
      obtain ⟨t, want⟩ := p
      simp only [] at h
      split at h
      · rename_i b hb
        by_cases hbw : b = want
        · rw [if_pos hbw] at h
          obtain ⟨v, H', F, W, h1, h2⟩ := h.ev
          exact .inl ⟨by rw [← hbw]; exact hb, v, H', F, W, h1, RunS.ops hQ h2⟩
        · rw [if_neg hbw] at h
          exact .inr ⟨.inl (by rw [hb]; cases b <;> cases want <;> simp_all), RunS.ops hQ h⟩
      · rename_i hb
        exact .inr ⟨.inr hb, RunS.ops hQ h⟩
      · exact h.elim

/-- The abstract machine's precondition, as a proof goes through it. -/
def wpS (P : Program) (m0 : Nat) : ACode → (AExit → List V → Heap → Prop) → List V → Heap → Prop
  | .skip, Q, S, H => Q .normal S H
  | .region [] ops, Q, S, H => RunS P (fun S H => Q .normal S H) ops S H
  | .region (p :: pairs) ops, Q, S, H => RunF P (fun S H FW => chk FW (p :: pairs) = true ∧ Q .normal S H) ops S H []
  | .seq a b, Q, S, H => wpS P m0 a (fun e S H => match e with | .normal => wpS P m0 b Q S H | e => Q e S H) S H
  | .cond c a b, Q, S, H =>
    match c.ev S with
    | .sc (.bool t) => if t = true then wpS P m0 a Q S H else wpS P m0 b Q S H
    | _ => False
  | .block id c, Q, S, H => wpS P m0 c (fun e S H => match e with | .exit i => if i = id then Q .normal S H else Q (.exit i) S H | e => Q e S H) S H
  | .loop c, Q, S, H => ∃ (I : Nat → List V → Heap → Prop) (m : Nat) (S' : List V) (H' : Heap), Weak m0 ⟨S, H⟩ ⟨S', H'⟩ ∧ I m S' H' ∧
      ∀ n S H, I n S H → wpS P m0 c (fun e S H => match e with | .normal => ∃ n' S' H', n' < n ∧ Weak m0 ⟨S, H⟩ ⟨S', H'⟩ ∧ I n' S' H' | e => Q e S H) S H
  | .exit id, Q, S, H => Q (.exit id) S H
  | .ret, Q, S, H => Q .ret S H

theorem RunOps.mono {P : Program} {Q Q' : List V → Heap → List (List Nat × List Nat) → Prop} (hQ : ∀ S H FW, Q S H FW → Q' S H FW) : ∀ {os : List AOper} {S : List V} {H : Heap} {FW : List (List Nat × List Nat)}, RunOps P Q os S H FW → RunOps P Q' os S H FW
  | [], S, H, FW, h => hQ S H FW h
  | o :: os, S, H, FW, h => by
    simp only [RunOps] at h ⊢
    cases hg : o.guard <;> rw [hg] at h
    · obtain ⟨v, H', F, W, h1, h2⟩ := h
      exact ⟨v, H', F, W, h1, RunOps.mono hQ h2⟩
    · rcases h with ⟨hb, v, H', F, W, h1, h2⟩ | ⟨hb, h2⟩
      · exact .inl ⟨hb, v, H', F, W, h1, RunOps.mono hQ h2⟩
      · exact .inr ⟨hb, RunOps.mono hQ h2⟩

theorem wpA_mono' {P : Program} {m0 : Nat} : ∀ (c : ACode) {Q Q' : AExit → St → Prop} {σ : St}, wpA P m0 c Q σ → (∀ e σ, Q e σ → Q' e σ) → wpA P m0 c Q' σ
  | .skip, Q, Q', σ, h, hq => hq _ _ h
  | .region pairs ops, Q, Q', σ, h, hq => by
    obtain ⟨σ', hk, hr⟩ := h
    exact ⟨σ', hk, RunOps.mono (fun S H FW h => ⟨h.1, hq _ _ h.2⟩) hr⟩
  | .seq a b, Q, Q', σ, h, hq => by
    refine wpA_mono' a h fun e σ h => ?_
    cases e with
    | normal => exact wpA_mono' b h hq
    | exit i => exact hq _ _ h
    | ret => exact hq _ _ h
  | .cond c a b, Q, Q', σ, h, hq => by
    obtain ⟨t, h1, h2, h3⟩ := h
    exact ⟨t, h1, fun ht => wpA_mono' a (h2 ht) hq, fun ht => wpA_mono' b (h3 ht) hq⟩
  | .block id c, Q, Q', σ, h, hq => by
    refine wpA_mono' c h fun e σ h => ?_
    cases e with
    | normal => exact hq _ _ h
    | ret => exact hq _ _ h
    | exit i =>
      by_cases hi : i = id
      · simp only [hi, if_true] at h ⊢; exact hq _ _ h
      · simp only [hi, if_false] at h ⊢; exact hq _ _ h
  | .loop c, Q, Q', σ, h, hq => by
    obtain ⟨I, m, σ1, hw, h0, hr⟩ := h
    refine ⟨I, m, σ1, hw, h0, fun n σ hI => wpA_mono' c (hr n σ hI) fun e σ h => ?_⟩
    cases e with
    | normal => exact h
    | exit i => exact hq _ _ h
    | ret => exact hq _ _ h
  | .exit id, Q, Q', σ, h, hq => hq _ _ h
  | .ret, Q, Q', σ, h, hq => hq _ _ h

theorem wpS_sound {P : Program} {m0 : Nat} : ∀ (c : ACode) (Q : AExit → List V → Heap → Prop) (S : List V) (H : Heap), wpS P m0 c Q S H → wpA P m0 c (fun e σ => Q e σ.S σ.H) ⟨S, H⟩
  | .skip, Q, S, H, h => h
  | .region [] ops, Q, S, H, h => ⟨⟨S, H⟩, .refl _, RunS.ops (fun S H FW hq => ⟨by simp [chk], hq⟩) h⟩
  | .region (p :: pairs) ops, Q, S, H, h => ⟨⟨S, H⟩, .refl _, RunF.ops h⟩
  | .seq a b, Q, S, H, h => by
    have := wpS_sound a _ S H h
    refine wpA_mono' a this ?_
    intro e σ hq
    cases e with
    | normal => exact wpS_sound b Q σ.S σ.H hq
    | exit i => exact hq
    | ret => exact hq
  | .cond c a b, Q, S, H, h => by
    simp only [wpS] at h
    split at h
    · rename_i t h1
      refine ⟨t, h1, fun ht => wpS_sound a Q S H ?_, fun ht => wpS_sound b Q S H ?_⟩
      · rw [if_pos ht] at h; exact h
      · rw [if_neg (by simp [ht])] at h; exact h
    · exact h.elim
  | .block id c, Q, S, H, h => by
    refine wpA_mono' c (wpS_sound c _ S H h) ?_
    intro e σ hq
    cases e <;> exact hq
  | .loop c, Q, S, H, h => by
    obtain ⟨I, m, S', H', hw, h0, hr⟩ := h
    refine ⟨fun n σ => I n σ.S σ.H, m, ⟨S', H'⟩, hw, h0, fun n σ hI => wpA_mono' c (wpS_sound c _ σ.S σ.H (hr n σ.S σ.H hI)) ?_⟩
    intro e σ hq
    cases e with
    | normal =>
      obtain ⟨n', S', H', h1, h2, h3⟩ := hq
      exact ⟨n', ⟨S', H'⟩, h1, h2, h3⟩
    | exit i => exact hq
    | ret => exact hq
  | .exit id, Q, S, H, h => h
  | .ret, Q, S, H, h => h

/-! What comes behind is told as data: so a 'simp' that goes through the code does not go into it. -/

inductive Kt where
  | fin
  | seq (b : ACode) (k : Kt)
  | blk (id : Nat) (k : Kt)
  | lp (J : List V → Heap → Prop) (k : Kt)

def kq (P : Program) (m0 : Nat) (Q : AExit → List V → Heap → Prop) : Kt → AExit → List V → Heap → Prop
  | .fin => Q
  | .seq b k => fun e S H => match e with | .normal => wpS P m0 b (kq P m0 Q k) S H | e => kq P m0 Q k e S H
  | .blk id k => fun e S H => match e with | .exit i => if i = id then kq P m0 Q k .normal S H else kq P m0 Q k (.exit i) S H | e => kq P m0 Q k e S H
  | .lp J k => fun e S H => match e with | .normal => J S H | e => kq P m0 Q k e S H

def WK (P : Program) (m0 : Nat) (Q : AExit → List V → Heap → Prop) (A : ACode) (k : Kt) (S : List V) (H : Heap) : Prop := wpS P m0 A (kq P m0 Q k) S H
def NK (P : Program) (m0 : Nat) (Q : AExit → List V → Heap → Prop) (k : Kt) (S : List V) (H : Heap) : Prop := kq P m0 Q k .normal S H
def XK (P : Program) (m0 : Nat) (Q : AExit → List V → Heap → Prop) (i : Nat) (k : Kt) (S : List V) (H : Heap) : Prop := kq P m0 Q k (.exit i) S H
def TK (P : Program) (m0 : Nat) (Q : AExit → List V → Heap → Prop) (k : Kt) (S : List V) (H : Heap) : Prop := kq P m0 Q k .ret S H
def RK (P : Program) (m0 : Nat) (Q : AExit → List V → Heap → Prop) (os : List AOper) (k : Kt) (S : List V) (H : Heap) : Prop := RunS P (fun S H => kq P m0 Q k .normal S H) os S H
def FK (P : Program) (m0 : Nat) (Q : AExit → List V → Heap → Prop) (pairs : List (Nat × Nat)) (os : List AOper) (k : Kt) (S : List V) (H : Heap) (FW : List (List Nat × List Nat)) : Prop :=
  RunF P (fun S H FW => chk FW pairs = true ∧ kq P m0 Q k .normal S H) os S H FW

section
variable {P : Program} {m0 : Nat} {Q : AExit → List V → Heap → Prop} {S : List V} {H : Heap} {k : Kt}
theorem wk_skip : WK P m0 Q .skip k S H = NK P m0 Q k S H := propext Iff.rfl
theorem wk_region (ops : List AOper) : WK P m0 Q (.region [] ops) k S H = RK P m0 Q ops k S H := propext Iff.rfl
theorem wk_regionF (p : Nat × Nat) (pairs : List (Nat × Nat)) (ops : List AOper) : WK P m0 Q (.region (p :: pairs) ops) k S H = FK P m0 Q (p :: pairs) ops k S H [] := propext Iff.rfl
theorem wk_seq (a b : ACode) : WK P m0 Q (.seq a b) k S H = WK P m0 Q a (.seq b k) S H := propext Iff.rfl
theorem wk_cond (c : Od) (a b : ACode) : WK P m0 Q (.cond c a b) k S H = (match c.ev S with | .sc (.bool t) => if t = true then WK P m0 Q a k S H else WK P m0 Q b k S H | _ => False) := propext Iff.rfl
theorem wk_block (id : Nat) (c : ACode) : WK P m0 Q (.block id c) k S H = WK P m0 Q c (.blk id k) S H := propext Iff.rfl
theorem wk_exit (id : Nat) : WK P m0 Q (.exit id) k S H = XK P m0 Q id k S H := propext Iff.rfl
theorem wk_ret : WK P m0 Q .ret k S H = TK P m0 Q k S H := propext Iff.rfl
theorem nk_fin : NK P m0 Q .fin S H = Q .normal S H := propext Iff.rfl
theorem nk_seq (b : ACode) : NK P m0 Q (.seq b k) S H = WK P m0 Q b k S H := propext Iff.rfl
theorem nk_blk (id : Nat) : NK P m0 Q (.blk id k) S H = NK P m0 Q k S H := propext Iff.rfl
theorem nk_lp (J : List V → Heap → Prop) : NK P m0 Q (.lp J k) S H = J S H := propext Iff.rfl
theorem xk_fin (i : Nat) : XK P m0 Q i .fin S H = Q (.exit i) S H := propext Iff.rfl
theorem xk_seq (i : Nat) (b : ACode) : XK P m0 Q i (.seq b k) S H = XK P m0 Q i k S H := propext Iff.rfl
theorem xk_blk (i id : Nat) : XK P m0 Q i (.blk id k) S H = if i = id then NK P m0 Q k S H else XK P m0 Q i k S H := propext Iff.rfl
theorem xk_lp (i : Nat) (J : List V → Heap → Prop) : XK P m0 Q i (.lp J k) S H = XK P m0 Q i k S H := propext Iff.rfl
theorem tk_fin : TK P m0 Q .fin S H = Q .ret S H := propext Iff.rfl
theorem tk_seq (b : ACode) : TK P m0 Q (.seq b k) S H = TK P m0 Q k S H := propext Iff.rfl
theorem tk_blk (id : Nat) : TK P m0 Q (.blk id k) S H = TK P m0 Q k S H := propext Iff.rfl
theorem tk_lp (J : List V → Heap → Prop) : TK P m0 Q (.lp J k) S H = TK P m0 Q k S H := propext Iff.rfl
theorem rk_nil : RK P m0 Q [] k S H = NK P m0 Q k S H := propext Iff.rfl
theorem rk_guard (d : Option Nat) (op : AOp) (t : Nat) (want : Bool) (os : List AOper) : RK P m0 Q (⟨d, op, some (t, want)⟩ :: os) k S H =
    (match S.getD t .dead with
      | .sc (.bool b) => if b = want then RK P m0 Q (⟨d, op, none⟩ :: os) k S H else RK P m0 Q os k (putS S d (.sc undef)) H
      | .sc (.tuple ⟨[]⟩) => RK P m0 Q os k (putS S d (.sc undef)) H
      | _ => False) := propext Iff.rfl
theorem fk_nil (pairs : List (Nat × Nat)) (FW : List (List Nat × List Nat)) : FK P m0 Q pairs [] k S H FW = (chk FW pairs = true ∧ NK P m0 Q k S H) := propext Iff.rfl
theorem fk_guard (pairs : List (Nat × Nat)) (FW : List (List Nat × List Nat)) (d : Option Nat) (op : AOp) (t : Nat) (want : Bool) (os : List AOper) : FK P m0 Q pairs (⟨d, op, some (t, want)⟩ :: os) k S H FW =
    (match S.getD t .dead with
      | .sc (.bool b) => if b = want then FK P m0 Q pairs (⟨d, op, none⟩ :: os) k S H FW else FK P m0 Q pairs os k (putS S d (.sc undef)) H (FW ++ [([], [])])
      | .sc (.tuple ⟨[]⟩) => FK P m0 Q pairs os k (putS S d (.sc undef)) H (FW ++ [([], [])])
      | _ => False) := propext Iff.rfl

/-- A loop: what holds of the slots and the memory ahead of each round, with a number that falls; ahead of the first round and behind each one what is of no use may be forgotten. -/
theorem wk_loop {c : ACode} (I : Nat → List V → Heap → Prop) (m : Nat) {S' : List V} {H' : Heap} (h0 : I m S' H') (hw : Weak m0 ⟨S, H⟩ ⟨S', H'⟩)
    (hr : ∀ n S H, I n S H → ∀ J : List V → Heap → Prop, (∀ n' S H S' H', n' < n → I n' S' H' → Weak m0 ⟨S, H⟩ ⟨S', H'⟩ → J S H) → WK P m0 Q c (.lp J k) S H) : WK P m0 Q (.loop c) k S H :=
  ⟨I, m, S', H', hw, h0, fun n S H hI => hr n S H hI (fun S H => ∃ n' S' H', n' < n ∧ Weak m0 ⟨S, H⟩ ⟨S', H'⟩ ∧ I n' S' H') fun n' S H S' H' hlt hI hw => ⟨n', S', H', hlt, hw, hI⟩⟩

/-- A call, in a region. -/
theorem rk_call {d : Option Nat} {f : Nat} {args : List Od} {os : List AOper} (v : V) (H' : Heap) {F W : List Nat} (h : CallRel P f H (args.map (·.ev S)) v H' F W) (hk : RK P m0 Q os k (putS S d v) H') : RK P m0 Q (⟨d, .call f args, none⟩ :: os) k S H :=
  ⟨v, H', F, W, h, hk⟩
theorem fk_call {pairs : List (Nat × Nat)} {FW : List (List Nat × List Nat)} {d : Option Nat} {f : Nat} {args : List Od} {os : List AOper} (v : V) (H' : Heap) {F W : List Nat} (h : CallRel P f H (args.map (·.ev S)) v H' F W) (hk : FK P m0 Q pairs os k (putS S d v) H' (FW ++ [(F, W)])) :
    FK P m0 Q pairs (⟨d, .call f args, none⟩ :: os) k S H FW := ⟨v, H', F, W, h, hk⟩
end

end
end Go.Proofs.Ytlahigboaeadmaa.VA
