/- The runner, out of the midst of a proof that goes through the code. -/
import Derived.Test.YtmmaenfjnkoknaaVB
set_option linter.unusedVariables false
set_option linter.unusedSimpArgs false
namespace Go.Proofs.Ytmmaenfjnkoknaa.VA
open Go
noncomputable section
theorem execOp_F {P : Program} {o : Orc} (ho : OrcOK P o) {S : List V} {H : Heap} {ao : AOp} {v : V} {H' : Heap} {F W : List Nat} (h : execOp o S H ao = some (v, H', F, W)) {k : V → Heap → List Nat → List Nat → Prop} (hk : k v H' F W) : StepF P S H ao k := by
  have he := execOp_ok ho h
  unfold execOp at h
  unfold StepF
  split at h
  · exact ⟨v, H', F, W, he, hk⟩
  · cases h
  · cases h
  · rename_i h1 h2 h3
    split at h
    · rename_i v1 H1 he1
      simp only [Option.some.injEq, Prod.mk.injEq] at h
      obtain ⟨rfl, rfl, rfl, rfl⟩ := h
      first
        | exact hk
        | (split; exact (h1 _ _ rfl).elim; exact (h2 _ _ rfl).elim; exact (h3 _ _ rfl).elim; rw [he1]; exact hk)
    · cases h
theorem execR_F {P : Program} {o : Orc} (ho : OrcOK P o) {Q : List V → Heap → List (List Nat × List Nat) → Prop} : ∀ {os : List AOper} {S : List V} {H : Heap} {FW : List (List Nat × List Nat)} {S' : List V} {H' : Heap} {FW' : List (List Nat × List Nat)},
    execR o os S H FW = some (S', H', FW') → Q S' H' FW' → RunF P Q os S H FW
  | [], S, H, FW, S', H', FW', h, hq => by
    simp only [execR, Option.some.injEq, Prod.mk.injEq] at h
    obtain ⟨rfl, rfl, rfl⟩ := h
    exact hq
  | op :: os, S, H, FW, S', H', FW', h, hq => by
    simp only [execR] at h
    simp only [RunF]
    have go : ∀ {r : Option (List V × Heap × List (List Nat × List Nat))}, r = some (S', H', FW') → (r = match execOp o S H op.op with
        | some (v, H', F, W) => frcV v fun v => frcSp (putS S op.dst v) fun S' => match heavy op.op with
          | true => frcH H' fun H' => execR o os S' H' (FW ++ [(F, W)])
          | false => execR o os S' H' (FW ++ [(F, W)])
        | none => none) → StepF P S H op.op fun v H' F W => RunF P Q os (putS S op.dst v) H' (FW ++ [(F, W)]) := by
      intro r h1 h2
      rw [h1] at h2
      split at h2
      · rename_i v H1 F W he
        rw [frcV_eq, frcSp_eq, frcH_eq] at h2
        have h3 : execR o os (putS S op.dst v) H1 (FW ++ [(F, W)]) = some (S', H', FW') := by cases hh : heavy op.op <;> rw [hh] at h2 <;> exact h2.symm
        exact execOp_F ho he (execR_F ho h3 hq)
      · cases h2
    cases hg : op.guard with
    | none =>
      rw [hg] at h
      exact go h rfl
    | some p =>
      obtain ⟨t, want⟩ := p
      rw [hg] at h
      simp only [] at h ⊢
      split at h
      · rename_i b hb
        try rw [hb]
        try simp only []
        by_cases hbw : b = want
        · rw [if_pos hbw] at h ⊢
          exact go h rfl
        · rw [if_neg hbw] at h ⊢
          rw [frcSp_eq] at h
          exact execR_F ho h hq
      · rename_i hb
        try rw [hb]
        rw [frcSp_eq] at h
        exact execR_F ho h hq
      · cases h
theorem runF_S {P : Program} {q : List V → Heap → Prop} : ∀ {os : List AOper} {S : List V} {H : Heap} {FW : List (List Nat × List Nat)}, RunF P (fun S H _ => q S H) os S H FW → RunS P q os S H
  | [], S, H, FW, h => h
  | op :: os, S, H, FW, h => by
    simp only [RunF] at h
    simp only [RunS]
    have mono : ∀ {k : V → Heap → List Nat → List Nat → Prop} {k' : V → Heap → Prop}, StepF P S H op.op k → (∀ v H' F W, k v H' F W → k' v H') → StepS P S H op.op k' := by
      intro k k' h1 h2
      unfold StepF at h1
      unfold StepS
      split at h1
      · obtain ⟨v, H', F, W, h3, h4⟩ := h1; exact ⟨v, H', F, W, h3, h2 _ _ _ _ h4⟩
      · obtain ⟨v, H', F, W, h3, h4⟩ := h1; exact ⟨v, H', F, W, h3, h2 _ _ _ _ h4⟩
      · obtain ⟨v, h3, h4⟩ := h1; exact ⟨v, h3, h2 _ _ _ _ h4⟩
      · rename_i h3 h4 h5
        split at h1
        · exact h2 _ _ _ _ h1
        · exact h1.elim
    cases hg : op.guard with
    | none =>
      rw [hg] at h
      exact mono h fun v H' F W h => runF_S h
    | some p =>
      obtain ⟨t, want⟩ := p
      rw [hg] at h
      simp only [] at h ⊢
      split at h
      · rename_i b hb
        by_cases hbw : b = want
        · rw [if_pos hbw] at h ⊢
          exact mono h fun v H' F W h => runF_S h
        · rw [if_neg hbw] at h ⊢
          exact runF_S h
      · exact runF_S h
      · exact h.elim
theorem exec_S {P : Program} {m0 : Nat} {o : Orc} (ho : OrcOK P o) : ∀ (n : Nat) (c : ACode) (S : List V) (H : Heap) (e : AExit) (S' : List V) (H' : Heap), exec o n c S H = some (e, S', H') → ∀ Q : AExit → List V → Heap → Prop, Q e S' H' → wpS P m0 c Q S H
  | 0, c, S, H, e, S', H', h, Q, hq => by simp [exec] at h
  | n + 1, .skip, S, H, e, S', H', h, Q, hq => by
    simp only [exec, Option.some.injEq, Prod.mk.injEq] at h
    obtain ⟨rfl, rfl, rfl⟩ := h
    exact hq
  | n + 1, .region pairs ops, S, H, e, S', H', h, Q, hq => by
    simp only [exec] at h
    split at h
    · rename_i S1 H1 FW hr
      split at h
      · rename_i hck
        simp only [Option.some.injEq, Prod.mk.injEq] at h
        obtain ⟨rfl, rfl, rfl⟩ := h
        cases pairs with
        | nil => exact runF_S (execR_F ho hr (Q := fun S H _ => Q .normal S H) hq)
        | cons p ps => exact execR_F ho hr ⟨hck, hq⟩
      · cases h
    · cases h
  | n + 1, .seq a b, S, H, e, S', H', h, Q, hq => by
    simp only [exec] at h
    split at h
    · rename_i S1 H1 h1
      exact exec_S ho n a S H _ _ _ h1 _ (exec_S ho n b S1 H1 e S' H' h Q hq)
    · rename_i hne
      refine exec_S ho n a S H e S' H' h _ ?_
      cases e with
      | normal => exact (hne _ _ h).elim
      | exit i => exact hq
      | ret => exact hq
  | n + 1, .cond c a b, S, H, e, S', H', h, Q, hq => by
    simp only [exec] at h
    simp only [wpS]
    split at h
    · rename_i t ht
      try rw [ht]
      try simp only []
      by_cases h1 : t = true
      · rw [if_pos h1] at h ⊢; exact exec_S ho n a S H e S' H' h Q hq
      · rw [if_neg h1] at h ⊢; exact exec_S ho n b S H e S' H' h Q hq
    · cases h
  | n + 1, .block id c, S, H, e, S', H', h, Q, hq => by
    simp only [exec] at h
    split at h
    · rename_i i S1 H1 h1
      refine exec_S ho n c S H _ _ _ h1 _ ?_
      by_cases hi : i = id
      · rw [if_pos hi] at h
        simp only [Option.some.injEq, Prod.mk.injEq] at h
        obtain ⟨rfl, rfl, rfl⟩ := h
        simp only [hi, if_true]; exact hq
      · rw [if_neg hi] at h
        simp only [Option.some.injEq, Prod.mk.injEq] at h
        obtain ⟨rfl, rfl, rfl⟩ := h
        simp only [hi, if_false]; exact hq
    · rename_i hne
      refine exec_S ho n c S H e S' H' h _ ?_
      cases e with
      | normal => exact hq
      | exit i => exact (hne _ _ _ h).elim
      | ret => exact hq
  | n + 1, .loop c, S, H, e, S', H', h, Q, hq => by
    refine ⟨fun m S H => m ≤ n + 1 ∧ exec o m (.loop c) S H = some (e, S', H'), n + 1, S, H, .refl _, ⟨Nat.le_refl _, h⟩, ?_⟩
    rintro m S1 H1 ⟨hm, h1⟩
    cases m with
    | zero => simp [exec] at h1
    | succ m =>
      simp only [exec] at h1
      split at h1
      · rename_i S2 H2 h2
        exact exec_S ho m c S1 H1 _ _ _ h2 _ ⟨m, S2, H2, Nat.lt_succ_self m, .refl _, by omega, h1⟩
      · rename_i hne
        refine exec_S ho m c S1 H1 e S' H' h1 _ ?_
        cases e with
        | normal => exact (hne _ _ h1).elim
        | exit i => exact hq
        | ret => exact hq
  | n + 1, .exit id, S, H, e, S', H', h, Q, hq => by
    simp only [exec, Option.some.injEq, Prod.mk.injEq] at h
    obtain ⟨rfl, rfl, rfl⟩ := h
    exact hq
  | n + 1, .ret, S, H, e, S', H', h, Q, hq => by
    simp only [exec, Option.some.injEq, Prod.mk.injEq] at h
    obtain ⟨rfl, rfl, rfl⟩ := h
    exact hq
def runK (o : Orc) (n : Nat) : Kt → AExit → List V → Heap → Option (AExit × List V × Heap)
  | .fin, e, S, H => some (e, S, H)
  | .seq b k, e, S, H => match e with
    | .normal => match exec o n b S H with
      | some (e', S', H') => runK o n k e' S' H'
      | none => none
    | e => runK o n k e S H
  | .blk id k, e, S, H => match e with
    | .exit i => if i = id then runK o n k .normal S H else runK o n k (.exit i) S H
    | e => runK o n k e S H
  | .lp _ _, _, _, _ => none
theorem runK_ok {P : Program} {m0 : Nat} {o : Orc} (ho : OrcOK P o) {Q : AExit → List V → Heap → Prop} (n : Nat) : ∀ (k : Kt) (e : AExit) (S : List V) (H : Heap) (e' : AExit) (S' : List V) (H' : Heap), runK o n k e S H = some (e', S', H') → Q e' S' H' → kq P m0 Q k e S H
  | .fin, e, S, H, e', S', H', h, hq => by
    simp only [runK, Option.some.injEq, Prod.mk.injEq] at h
    obtain ⟨rfl, rfl, rfl⟩ := h
    exact hq
  | .seq b k, e, S, H, e', S', H', h, hq => by
    cases e with
    | normal =>
      simp only [runK] at h
      split at h
      · rename_i e1 S1 H1 he
        exact exec_S ho n b S H e1 S1 H1 he _ (runK_ok ho n k e1 S1 H1 e' S' H' h hq)
      · cases h
    | exit i => exact runK_ok ho n k (.exit i) S H e' S' H' h hq
    | ret => exact runK_ok ho n k .ret S H e' S' H' h hq
  | .blk id k, e, S, H, e', S', H', h, hq => by
    cases e with
    | normal => exact runK_ok ho n k .normal S H e' S' H' h hq
    | ret => exact runK_ok ho n k .ret S H e' S' H' h hq
    | exit i =>
      simp only [runK] at h
      simp only [kq]
      by_cases hi : i = id
      · rw [if_pos hi] at h ⊢; exact runK_ok ho n k .normal S H e' S' H' h hq
      · rw [if_neg hi] at h ⊢; exact runK_ok ho n k (.exit i) S H e' S' H' h hq
  | .lp J k, e, S, H, e', S', H', h, hq => by simp [runK] at h
def endF (ars : List ARes) (r : Option (AExit × List V × Heap)) : Option (V × Heap) :=
  match r with
  | some (.exit _, _, _) => none
  | some (_, S, H) => match resAll S H ars with
    | some v => outOf H v
    | none => none
  | none => none
theorem wk_run {P : Program} {m0 : Nat} {o : Orc} (ho : OrcOK P o) (n : Nat) {ars : List ARes} {r : V} {Hout : Heap} {A : ACode} {k : Kt} {S : List V} {H : Heap} (h : endF ars (runK o n (.seq A k) .normal S H) = some (r, Hout)) : WK P m0 (Post ars 0 r Hout) A k S H := by
  unfold endF at h
  split at h
  · cases h
  · rename_i e S1 H1 hne he
    split at h
    · rename_i v hv
      refine runK_ok ho n (.seq A k) .normal S H e S1 H1 he ⟨?_, v, hv, outOf_ok h⟩
      cases e with
      | normal => exact .inl rfl
      | ret => exact .inr rfl
      | exit i => exact (hne i rfl).elim
    · cases h
  · cases h
theorem rk_run {P : Program} {m0 : Nat} {o : Orc} (ho : OrcOK P o) (n : Nat) {ars : List ARes} {r : V} {Hout : Heap} {os : List AOper} {k : Kt} {S : List V} {H : Heap} (h : endF ars (runK o n (.seq (.region [] os) k) .normal S H) = some (r, Hout)) :
    RK P m0 (Post ars 0 r Hout) os k S H := by
  rw [← wk_region]
  exact wk_run ho n h
end
end Go.Proofs.Ytmmaenfjnkoknaa.VA
