/- A runner for the compact code, with an oracle for calls: what it finds holds. Closed functions are shown by it. -/
import Derived.Test.YtlahigboaeadmaaV18
set_option linter.unusedVariables false
set_option linter.unusedSimpArgs false
namespace Go.Proofs.Ytlahigboaeadmaa.VA
open Go

/-! Numbers, values and lists are made plain ahead of their use: so that the kernel does it once. -/

def frcN {α : Type} (n : Nat) (k : Nat → α) : α :=
  match n with
  | 0 => k 0
  | n + 1 => k (n + 1)

theorem frcN_eq {α : Type} (n : Nat) (k : Nat → α) : frcN n k = k n := by cases n <;> rfl

def frcI {α : Type} (i : Int) (k : Int → α) : α :=
  match i with
  | .ofNat n => frcN n fun n => k (.ofNat n)
  | .negSucc n => frcN n fun n => k (.negSucc n)

theorem frcI_eq {α : Type} (i : Int) (k : Int → α) : frcI i k = k i := by cases i <;> simp [frcI, frcN_eq]

def frcB {α : Type} (b : Bool) (k : Bool → α) : α :=
  match b with
  | true => k true
  | false => k false

theorem frcB_eq {α : Type} (b : Bool) (k : Bool → α) : frcB b k = k b := by cases b <;> rfl

def frcS {α : Type} (v : Value) (k : Value → α) : α :=
  match v with
  | .int kd i => frcI i fun i => k (.int kd i)
  | .bool b => frcB b fun b => k (.bool b)
  | v => k v

theorem frcS_eq {α : Type} (v : Value) (k : Value → α) : frcS v k = k v := by
  unfold frcS; split <;> simp [frcI_eq, frcB_eq]

mutual
def frcV {α : Type} : V → (V → α) → α
  | .sc v, k => frcS v fun v => k (.sc v)
  | .agg cs, k => frcL cs fun cs => k (.agg cs)
  | .tup cs, k => frcL cs fun cs => k (.tup cs)
  | .sl n cs, k => frcN n fun n => frcL cs fun cs => k (.sl n cs)
  | .box cs, k => frcL cs fun cs => k (.box cs)
  | .ref id off, k => frcN id fun id => frcN off fun off => k (.ref id off)
  | .sref id off n sz, k => frcN id fun id => frcN off fun off => frcN n fun n => frcN sz fun sz => k (.sref id off n sz)
  | .fn f cs, k => frcL cs fun cs => k (.fn f cs)
  | .dead, k => k .dead
def frcL {α : Type} : List V → (List V → α) → α
  | [], k => k []
  | v :: vs, k => frcV v fun v => frcL vs fun vs => k (v :: vs)
end

mutual
theorem frcV_eq {α : Type} : ∀ (v : V) (k : V → α), frcV v k = k v
  | .sc v, k => by simp [frcV, frcS_eq]
  | .agg cs, k => by simp [frcV, frcL_eq cs]
  | .tup cs, k => by simp [frcV, frcL_eq cs]
  | .sl n cs, k => by simp [frcV, frcN_eq, frcL_eq cs]
  | .box cs, k => by simp [frcV, frcL_eq cs]
  | .ref id off, k => by simp [frcV, frcN_eq]
  | .sref id off n sz, k => by simp [frcV, frcN_eq]
  | .fn f cs, k => by simp [frcV, frcL_eq cs]
  | .dead, k => by simp [frcV]
theorem frcL_eq {α : Type} : ∀ (l : List V) (k : List V → α), frcL l k = k l
  | [], k => by simp [frcL]
  | v :: vs, k => by simp [frcL, frcV_eq v, frcL_eq vs]
end

def frcSp {α : Type} : List V → (List V → α) → α
  | [], k => k []
  | v :: vs, k => frcSp vs fun vs => k (v :: vs)

theorem frcSp_eq {α : Type} : ∀ (l : List V) (k : List V → α), frcSp l k = k l
  | [], k => rfl
  | v :: vs, k => by simp [frcSp, frcSp_eq vs]

def frcH {α : Type} : Heap → (Heap → α) → α
  | [], k => k []
  | none :: H, k => frcH H fun H => k (none :: H)
  | some cs :: H, k => frcL cs fun cs => frcH H fun H => k (some cs :: H)

theorem frcH_eq {α : Type} : ∀ (H : Heap) (k : Heap → α), frcH H k = k H
  | [], k => rfl
  | none :: H, k => by simp [frcH, frcH_eq H]
  | some cs :: H, k => by simp [frcH, frcH_eq H, frcL_eq]

/-! ## What a call is handed -/

mutual
def closedb : V → Bool
  | .sc _ => true
  | .agg cs => closedLb cs
  | .tup cs => closedLb cs
  | .sl _ cs => closedLb cs
  | .box cs => closedLb cs
  | .ref _ _ => false
  | .sref _ _ _ _ => false
  | .fn _ cs => closedLb cs
  | .dead => true
def closedLb : List V → Bool
  | [] => true
  | v :: vs => closedb v && closedLb vs
end

mutual
theorem closedb_ok : ∀ (v : V), closedb v = true → Closed v
  | .sc _, _ => trivial
  | .agg cs, h => closedLb_ok cs h
  | .tup cs, h => closedLb_ok cs h
  | .sl _ cs, h => closedLb_ok cs h
  | .box cs, h => closedLb_ok cs h
  | .ref _ _, h => by simp [closedb] at h
  | .sref _ _ _ _, h => by simp [closedb] at h
  | .fn _ cs, h => closedLb_ok cs h
  | .dead, _ => trivial
theorem closedLb_ok : ∀ (l : List V), closedLb l = true → ClosedL l
  | [], _ => trivial
  | v :: vs, h => by
    simp only [closedLb, Bool.and_eq_true] at h
    exact ⟨closedb_ok v h.1, closedLb_ok vs h.2⟩
end

mutual
def noROb : V → Bool
  | .sc _ => true
  | .agg cs => noROLb cs
  | .tup cs => noROLb cs
  | .sl _ cs => cs.isEmpty
  | .box cs => cs.isEmpty
  | .ref _ _ => true
  | .sref _ _ _ _ => true
  | .fn _ cs => noROLb cs
  | .dead => true
def noROLb : List V → Bool
  | [] => true
  | v :: vs => noROb v && noROLb vs
end

mutual
theorem noROb_ok : ∀ (v : V), noROb v = true → NoRO v
  | .sc _, _ => trivial
  | .agg cs, h => noROLb_ok cs h
  | .tup cs, h => noROLb_ok cs h
  | .sl _ cs, h => by simpa [noROb, NoRO] using h
  | .box cs, h => by simpa [noROb, NoRO] using h
  | .ref _ _, _ => trivial
  | .sref _ _ _ _, _ => trivial
  | .fn _ cs, h => noROLb_ok cs h
  | .dead, _ => trivial
theorem noROLb_ok : ∀ (l : List V), noROLb l = true → NoROL l
  | [], _ => trivial
  | v :: vs, h => by
    simp only [noROLb, Bool.and_eq_true] at h
    exact ⟨noROb_ok v h.1, noROLb_ok vs h.2⟩
end

def noROHb (H : Heap) : Bool := H.all fun o => match o with | some cs => noROLb cs | none => true

theorem noROHb_ok {H : Heap} (h : noROHb H = true) : NoROH H := fun i cells hc => by
  have := List.all_eq_true.1 h (some cells) (List.mem_of_getElem? hc)
  exact noROLb_ok cells this

/-- An argument, as it is shown to a function that is called: rows that are owned are shown to be read. -/
def lend (H : Heap) : V → Option (V × List Nat)
  | .sref id off n sz =>
    match blkAt H id with
    | some cells => if off + n * sz ≤ cells.length ∧ closedLb ((cells.drop off).take (n * sz)) = true then some (.sl n ((cells.drop off).take (n * sz)), [id]) else none
    | none => none
  | v => if closedb v then some (v, []) else none

def lendL (H : Heap) : List V → Option (List V × List Nat)
  | [] => some ([], [])
  | v :: vs => match lend H v, lendL H vs with
    | some (a, b), some (l, c) => some (a :: l, b ++ c)
    | _, _ => none

theorem lend_ok {H : Heap} {v a : V} {b bs : List Nat} (h : lend H v = some (a, b)) (hb : ∀ i ∈ b, i ∈ bs) : ArgRel H [] bs v a ∧ ∀ i ∈ b, i ∈ idsIn v ∧ ∃ cells, blkAt H i = some cells := by
  unfold lend at h
  split at h
  · rename_i id off n sz
    split at h
    · rename_i cells hc
      split at h
      · rename_i hle
        simp only [Option.some.injEq, Prod.mk.injEq] at h
        obtain ⟨rfl, rfl⟩ := h
        refine ⟨?_, fun i hi => ?_⟩
        · simp only [ArgRel]
          exact .inr ⟨by simp, hb id (by simp), cells, hc, hle.1, closedLb_ok _ hle.2, rfl⟩
        · simp at hi; subst hi; exact ⟨by simp [idsIn], cells, hc⟩
      · cases h
    · cases h
  · split at h
    · rename_i hcl
      simp only [Option.some.injEq, Prod.mk.injEq] at h
      obtain ⟨rfl, rfl⟩ := h
      exact ⟨arg_closed _ (closedb_ok _ hcl), fun i hi => by cases hi⟩
    · cases h

theorem lendL_ok {H : Heap} : ∀ {vs l : List V} {b bs : List Nat}, lendL H vs = some (l, b) → (∀ i ∈ b, i ∈ bs) → ArgRelL H [] bs vs l ∧ ∀ i ∈ b, i ∈ idsInL vs ∧ ∃ cells, blkAt H i = some cells
  | [], l, b, bs, h, hb => by
    simp only [lendL, Option.some.injEq, Prod.mk.injEq] at h
    obtain ⟨rfl, rfl⟩ := h
    exact ⟨by simp [ArgRelL], fun i hi => by cases hi⟩
  | v :: vs, l, b, bs, h, hb => by
    simp only [lendL] at h
    split at h
    · rename_i a b1 l1 c1 h1 h2
      simp only [Option.some.injEq, Prod.mk.injEq] at h
      obtain ⟨rfl, rfl⟩ := h
      have g1 := lend_ok h1 (bs := bs) fun i hi => hb i (by simp [hi])
      have g2 := lendL_ok h2 (bs := bs) fun i hi => hb i (by simp [hi])
      refine ⟨by simp only [ArgRelL]; exact ⟨a, l1, rfl, g1.1, g2.1⟩, fun i hi => ?_⟩
      rcases List.mem_append.1 hi with hi | hi
      · exact ⟨by simp [idsInL, (g1.2 i hi).1], (g1.2 i hi).2⟩
      · exact ⟨by simp [idsInL, (g2.2 i hi).1], (g2.2 i hi).2⟩
    · cases h

/-! ## The runner -/

abbrev Orc := Nat → List V → Option (V × Heap)
def OrcOK (P : Program) (o : Orc) : Prop := ∀ f args r Hout, o f args = some (r, Hout) → C P f args [] r Hout

noncomputable section

def execOp (o : Orc) (S : List V) (H : Heap) : AOp → Option (V × Heap × List Nat × List Nat)
  | .call f args =>
    match lendL H (args.map (·.ev S)) with
    | some (args', bs) => frcL args' fun args' => match o f args' with
      | some (r, Hout) => if bs.isEmpty || (noROb r && noROHb Hout) then some (renV (fun k => H.length + k) r, H ++ Hout.map (Option.map (renL fun k => H.length + k)), bs, []) else none
      | none => none
    | none => none
  | .callv _ _ => none
  | op => match evOp S H op with
    | some (v, H') => some (v, H', footOp S op, wrOp S op)
    | none => none

def heavy : AOp → Bool
  | .alloc _ => true
  | .box _ => true
  | .buildSl _ _ _ _ => true
  | .store _ _ _ => true
  | .toBytes _ => true
  | .mkSl _ _ _ _ _ => true
  | .append _ _ _ _ => true
  | .copy _ _ _ => true
  | .call _ _ => true
  | _ => false

def execR (o : Orc) : List AOper → List V → Heap → List (List Nat × List Nat) → Option (List V × Heap × List (List Nat × List Nat))
  | [], S, H, FW => some (S, H, FW)
  | op :: os, S, H, FW =>
    match op.guard with
    | none => match execOp o S H op.op with
      | some (v, H', F, W) => frcV v fun v => frcSp (putS S op.dst v) fun S' => match heavy op.op with
        | true => frcH H' fun H' => execR o os S' H' (FW ++ [(F, W)])
        | false => execR o os S' H' (FW ++ [(F, W)])
      | none => none
    | some (t, want) => match S.getD t .dead with
      | .sc (.bool b) => if b = want then (match execOp o S H op.op with
          | some (v, H', F, W) => frcV v fun v => frcSp (putS S op.dst v) fun S' => match heavy op.op with
            | true => frcH H' fun H' => execR o os S' H' (FW ++ [(F, W)])
            | false => execR o os S' H' (FW ++ [(F, W)])
          | none => none) else frcSp (putS S op.dst (.sc undef)) fun S' => execR o os S' H (FW ++ [([], [])])
      | .sc (.tuple ⟨[]⟩) => frcSp (putS S op.dst (.sc undef)) fun S' => execR o os S' H (FW ++ [([], [])])
      | _ => none

def exec (o : Orc) : Nat → ACode → List V → Heap → Option (AExit × List V × Heap)
  | 0, _, _, _ => none
  | n + 1, c, S, H =>
    match c with
    | .skip => some (.normal, S, H)
    | .region pairs ops => match execR o ops S H [] with
      | some (S', H', FW) => if chk FW pairs = true then some (.normal, S', H') else none
      | none => none
    | .seq a b => match exec o n a S H with
      | some (.normal, S', H') => exec o n b S' H'
      | r => r
    | .cond c a b => match c.ev S with
      | .sc (.bool t) => if t = true then exec o n a S H else exec o n b S H
      | _ => none
    | .block id c => match exec o n c S H with
      | some (.exit i, S', H') => if i = id then some (.normal, S', H') else some (.exit i, S', H')
      | r => r
    | .loop c => match exec o n c S H with
      | some (.normal, S', H') => exec o n (.loop c) S' H'
      | r => r
    | .exit id => some (.exit id, S, H)
    | .ret => some (.ret, S, H)

theorem execOp_ok {P : Program} {o : Orc} (ho : OrcOK P o) {S : List V} {H : Heap} {ao : AOp} {v : V} {H' : Heap} {F W : List Nat} (h : execOp o S H ao = some (v, H', F, W)) : EvOp P S H ao v H' F W := by
  unfold execOp at h
  split at h
  · rename_i f args
    split at h
    · rename_i args' bs hl
      rw [frcL_eq] at h
      split at h
      · rename_i r Hout hr
        split at h
        · rename_i hc
          simp only [Option.some.injEq, Prod.mk.injEq] at h
          obtain ⟨rfl, rfl, rfl, rfl⟩ := h
          have hl' := lendL_ok hl (bs := bs) fun i hi => hi
          simp only [EvOp]
          refine call_in (ho f args' r Hout hr) bs hl'.2 hl'.1 fun hne => ?_
          simp only [Bool.or_eq_true, Bool.and_eq_true, List.isEmpty_iff] at hc
          rcases hc with hc | hc
          · exact absurd hc hne
          · exact ⟨noROb_ok r hc.1, noROHb_ok hc.2⟩
        · cases h
      · cases h
    · cases h
  · cases h
  · split at h
    · rename_i v1 H1 he
      simp only [Option.some.injEq, Prod.mk.injEq] at h
      obtain ⟨rfl, rfl, rfl, rfl⟩ := h
      unfold EvOp
      split <;> simp_all
    · cases h

theorem execR_ok {P : Program} {o : Orc} (ho : OrcOK P o) {Q : List V → Heap → List (List Nat × List Nat) → Prop} : ∀ {os : List AOper} {S : List V} {H : Heap} {FW : List (List Nat × List Nat)} {S' : List V} {H' : Heap} {FW' : List (List Nat × List Nat)},
    execR o os S H FW = some (S', H', FW') → Q S' H' FW' → RunOps P Q os S H FW
  | [], S, H, FW, S', H', FW', h, hq => by
    simp only [execR, Option.some.injEq, Prod.mk.injEq] at h
    obtain ⟨rfl, rfl, rfl⟩ := h
    exact hq
  | op :: os, S, H, FW, S', H', FW', h, hq => by
    simp only [execR] at h
    simp only [RunOps]
    have go : ∀ {r : Option (List V × Heap × List (List Nat × List Nat))}, r = some (S', H', FW') → (r = match execOp o S H op.op with
        | some (v, H', F, W) => frcV v fun v => frcSp (putS S op.dst v) fun S' => match heavy op.op with
          | true => frcH H' fun H' => execR o os S' H' (FW ++ [(F, W)])
          | false => execR o os S' H' (FW ++ [(F, W)])
        | none => none) → ∃ v H' F W, EvOp P S H op.op v H' F W ∧ RunOps P Q os (putS S op.dst v) H' (FW ++ [(F, W)]) := by
      intro r h1 h2
      rw [h1] at h2
      split at h2
      · rename_i v H1 F W he
        rw [frcV_eq, frcSp_eq, frcH_eq] at h2
        have h3 : execR o os (putS S op.dst v) H1 (FW ++ [(F, W)]) = some (S', H', FW') := by cases hh : heavy op.op <;> rw [hh] at h2 <;> exact h2.symm
        exact ⟨v, H1, F, W, execOp_ok ho he, execR_ok ho h3 hq⟩
      · cases h2
    cases hg : op.guard with
    | none =>
      rw [hg] at h
      exact go h rfl
    | some p =>
      obtain ⟨t, want⟩ := p
      rw [hg] at h
      simp only [] at h ⊢
      split at h
      · rename_i b hb
        by_cases hbw : b = want
        · rw [if_pos hbw] at h
          exact .inl ⟨by rw [← hbw]; exact hb, go h rfl⟩
        · rw [if_neg hbw, frcSp_eq] at h
          exact .inr ⟨.inl (by rw [hb]; cases b <;> cases want <;> simp_all), execR_ok ho h hq⟩
      · rename_i hb
        rw [frcSp_eq] at h
        exact .inr ⟨.inr hb, execR_ok ho h hq⟩
      · cases h

theorem exec_ok {P : Program} {m0 : Nat} {o : Orc} (ho : OrcOK P o) : ∀ (n : Nat) (c : ACode) (S : List V) (H : Heap) (e : AExit) (S' : List V) (H' : Heap), exec o n c S H = some (e, S', H') → ∀ Q : AExit → St → Prop, Q e ⟨S', H'⟩ → wpA P m0 c Q ⟨S, H⟩
  | 0, c, S, H, e, S', H', h, Q, hq => by simp [exec] at h
  | n + 1, .skip, S, H, e, S', H', h, Q, hq => by
    simp only [exec, Option.some.injEq, Prod.mk.injEq] at h
    obtain ⟨rfl, rfl, rfl⟩ := h
    exact hq
  | n + 1, .region pairs ops, S, H, e, S', H', h, Q, hq => by
    simp only [exec] at h
    split at h
    · rename_i S1 H1 FW hr
      split at h
      · rename_i hck
        simp only [Option.some.injEq, Prod.mk.injEq] at h
        obtain ⟨rfl, rfl, rfl⟩ := h
        exact ⟨⟨S, H⟩, .refl _, execR_ok ho hr ⟨hck, hq⟩⟩
      · cases h
    · cases h
  | n + 1, .seq a b, S, H, e, S', H', h, Q, hq => by
    simp only [exec] at h
    split at h
    · rename_i S1 H1 h1
      exact exec_ok ho n a S H _ _ _ h1 _ (exec_ok ho n b S1 H1 e S' H' h Q hq)
    · rename_i hne
      refine exec_ok ho n a S H e S' H' h _ ?_
      cases e with
      | normal => exact (hne _ _ h).elim
      | exit i => exact hq
      | ret => exact hq
  | n + 1, .cond c a b, S, H, e, S', H', h, Q, hq => by
    simp only [exec] at h
    split at h
    · rename_i t ht
      refine ⟨t, ht, fun h1 => ?_, fun h1 => ?_⟩
      · rw [if_pos h1] at h; exact exec_ok ho n a S H e S' H' h Q hq
      · rw [if_neg (by simp [h1])] at h; exact exec_ok ho n b S H e S' H' h Q hq
    · cases h
  | n + 1, .block id c, S, H, e, S', H', h, Q, hq => by
    simp only [exec] at h
    split at h
    · rename_i i S1 H1 h1
      refine exec_ok ho n c S H _ _ _ h1 _ ?_
      by_cases hi : i = id
      · rw [if_pos hi] at h
        simp only [Option.some.injEq, Prod.mk.injEq] at h
        obtain ⟨rfl, rfl, rfl⟩ := h
        simp only [hi, if_true]; exact hq
      · rw [if_neg hi] at h
        simp only [Option.some.injEq, Prod.mk.injEq] at h
        obtain ⟨rfl, rfl, rfl⟩ := h
        simp only [hi, if_false]; exact hq
    · rename_i hne
      refine exec_ok ho n c S H e S' H' h _ ?_
      cases e with
      | normal => exact hq
      | exit i => exact (hne _ _ _ h).elim
      | ret => exact hq
  | n + 1, .loop c, S, H, e, S', H', h, Q, hq => by
    refine ⟨fun m σ => m ≤ n + 1 ∧ exec o m (.loop c) σ.S σ.H = some (e, S', H'), n + 1, ⟨S, H⟩, .refl _, ⟨Nat.le_refl _, h⟩, ?_⟩
    rintro m ⟨S1, H1⟩ ⟨hm, h1⟩
    cases m with
    | zero => simp [exec] at h1
    | succ m =>
      simp only [exec] at h1
      split at h1
      · rename_i S2 H2 h2
        exact exec_ok ho m c S1 H1 _ _ _ h2 _ ⟨m, ⟨S2, H2⟩, Nat.lt_succ_self m, .refl _, by omega, h1⟩
      · rename_i hne
        refine exec_ok ho m c S1 H1 e S' H' h1 _ ?_
        cases e with
        | normal => exact (hne _ _ h1).elim
        | exit i => exact hq
        | ret => exact hq
  | n + 1, .exit id, S, H, e, S', H', h, Q, hq => by
    simp only [exec, Option.some.injEq, Prod.mk.injEq] at h
    obtain ⟨rfl, rfl, rfl⟩ := h
    exact hq
  | n + 1, .ret, S, H, e, S', H', h, Q, hq => by
    simp only [exec, Option.some.injEq, Prod.mk.injEq] at h
    obtain ⟨rfl, rfl, rfl⟩ := h
    exact hq

end
end Go.Proofs.Ytlahigboaeadmaa.VA
