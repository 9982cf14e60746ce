/- One round by the runner: what is left behind a piece of code is held against a state that is told (checked by the kernel). -/
import Derived.Test.YtmmaenfjnkoknaaVC
import Derived.Test.YtmmaenfjnkoknaaV21
set_option linter.unusedVariables false
namespace Go.Proofs.Ytmmaenfjnkoknaa.VA
open Go
mutual
theorem eqVb_cl : ∀ (a b : V), eqVb a b = true → Closed a
  | .sc x, b, h => trivial
  | .sl n cs, b, h => by
    simp only [eqVb] at h
    split at h
    · rename_i m ds
      simp only [Bool.and_eq_true, decide_eq_true_eq] at h
      exact eqLb_cl cs ds h.2
    · cases h
  | .agg cs, b, h => by
    simp only [eqVb] at h
    split at h
    · rename_i ds
      exact eqLb_cl cs ds h
    · cases h
  | .tup cs, b, h => by simp [eqVb] at h
  | .box cs, b, h => by simp [eqVb] at h
  | .ref _ _, b, h => by simp [eqVb] at h
  | .sref _ _ _ _, b, h => by simp [eqVb] at h
  | .fn _ cs, b, h => by simp [eqVb] at h
  | .dead, b, h => by simp [eqVb] at h
theorem eqLb_cl : ∀ (a b : List V), eqLb a b = true → ClosedL a
  | [], b, h => trivial
  | a :: xs, b, h => by
    simp only [eqLb] at h
    split at h
    · rename_i y ys
      simp only [Bool.and_eq_true] at h
      exact ⟨eqVb_cl a y h.1, eqLb_cl xs ys h.2⟩
    · cases h
end
mutual
def wkV (d : Nat) : V → V → Bool
  | .ref i o, b => match b with | .ref j p => decide (i = j) && decide (o = p) && decide (i < d) | _ => false
  | .sref i o n z, b => match b with | .sref j p m y => decide (i = j) && decide (o = p) && decide (n = m) && decide (z = y) && decide (i < d) | _ => false
  | .agg cs, b => match b with | .agg ds => wkL d cs ds | _ => false
  | .dead, b => match b with | .dead => true | _ => false
  | v, b => eqVb v b
def wkL (d : Nat) : List V → List V → Bool
  | [], b => match b with | [] => true | _ => false
  | a :: xs, b => match b with | y :: ys => wkV d a y && wkL d xs ys | _ => false
end
mutual
theorem wkV_ok {H : Heap} {d : Nat} : ∀ (a b : V), wkV d a b = true → ArgRel H (List.range d) [] a b
  | .ref i o, b, h => by
    simp only [wkV] at h
    split at h
    · simp only [Bool.and_eq_true, decide_eq_true_eq] at h
      obtain ⟨⟨rfl, rfl⟩, h⟩ := h
      simp only [ArgRel]
      exact ⟨i, by rw [List.getElem?_range h], rfl⟩
    · cases h
  | .sref i o n z, b, h => by
    simp only [wkV] at h
    split at h
    · simp only [Bool.and_eq_true, decide_eq_true_eq] at h
      obtain ⟨⟨⟨⟨rfl, rfl⟩, rfl⟩, rfl⟩, h⟩ := h
      simp only [ArgRel]
      exact .inl ⟨i, by rw [List.getElem?_range h], rfl⟩
    · cases h
  | .agg cs, b, h => by
    simp only [wkV] at h
    split at h
    · rename_i ds
      simp only [ArgRel]
      exact ⟨ds, rfl, wkL_ok cs ds h⟩
    · cases h
  | .dead, b, h => by
    simp only [wkV] at h
    split at h
    · simp only [ArgRel]
    · cases h
  | .sc x, b, h => by
    have h : eqVb (.sc x) b = true := by simpa only [wkV] using h
    rw [← eqVb_ok _ _ h]; exact arg_closed _ (eqVb_cl _ _ h)
  | .sl n cs, b, h => by
    have h : eqVb (.sl n cs) b = true := by simpa only [wkV] using h
    rw [← eqVb_ok _ _ h]; exact arg_closed _ (eqVb_cl _ _ h)
  | .tup cs, b, h => by
    have h : eqVb (.tup cs) b = true := by simpa only [wkV] using h
    simp [eqVb] at h
  | .box cs, b, h => by
    have h : eqVb (.box cs) b = true := by simpa only [wkV] using h
    simp [eqVb] at h
  | .fn f cs, b, h => by
    have h : eqVb (.fn f cs) b = true := by simpa only [wkV] using h
    simp [eqVb] at h
theorem wkL_ok {H : Heap} {d : Nat} : ∀ (a b : List V), wkL d a b = true → ArgRelL H (List.range d) [] a b
  | [], b, h => by
    simp only [wkL] at h
    split at h
    · exact argL_nil
    · cases h
  | a :: xs, b, h => by
    simp only [wkL] at h
    split at h
    · rename_i y ys
      simp only [Bool.and_eq_true] at h
      exact argL_cons (wkV_ok a y h.1) (wkL_ok xs ys h.2)
    · cases h
end
def wkS (d : Nat) : List V → List V → Bool
  | [], b => match b with | [] => true | _ => false
  | v :: vs, b => match b with
    | a :: us => (match a with | .dead => true | a => wkV d v a) && wkS d vs us
    | [] => false
theorem wkS_ok {H : Heap} {d : Nat} : ∀ (a b : List V), wkS d a b = true → KeepS H (List.range d) a b
  | [], b, h => by
    simp only [wkS] at h
    split at h
    · trivial
    · cases h
  | v :: vs, b, h => by
    simp only [wkS] at h
    split at h
    · rename_i a us
      simp only [Bool.and_eq_true] at h
      refine ⟨?_, wkS_ok vs us h.2⟩
      have h := h.1
      split at h
      · exact .inl rfl
      · exact .inr (wkV_ok _ _ h)
    · cases h
def wkH (H : Heap) (d : Nat) : List Nat → Heap → Bool
  | [], b => match b with | [] => true | _ => false
  | id :: ids, b => match b with
    | none :: H' => wkH H d ids H'
    | some c' :: H' => (match blkAt H id with | some c => wkL d c c' | none => false) && wkH H d ids H'
    | [] => false
theorem wkH_ok {H : Heap} {d : Nat} : ∀ (ids : List Nat) (b : Heap), wkH H d ids b = true → KeepH H (List.range d) ids b
  | [], b, h => by
    simp only [wkH] at h
    split at h
    · trivial
    · cases h
  | id :: ids, b, h => by
    simp only [wkH] at h
    split at h
    · exact wkH_ok ids _ h
    · rename_i c' H'
      simp only [Bool.and_eq_true] at h
      refine ⟨?_, wkH_ok ids _ h.2⟩
      have h := h.1
      split at h
      · rename_i c hc
        exact ⟨c, hc, wkL_ok _ _ h⟩
      · cases h
    · cases h
def stepB (o : Orc) (n : Nat) (A : ACode) (S : List V) (H : Heap) (Sc : List V) (Hc : Heap) : Bool :=
  match exec o n A S H with
  | some (.normal, S', H') => wkS Hc.length S' Sc && wkH H' Hc.length (List.range Hc.length) Hc
  | _ => false
theorem step_ok {o : Orc} {n : Nat} {A : ACode} {S : List V} {H : Heap} {Sc : List V} {Hc : Heap} (h : stepB o n A S H Sc Hc = true) :
    ∃ S' H', exec o n A S H = some (.normal, S', H') ∧ Weak 0 ⟨S', H'⟩ ⟨Sc, Hc⟩ := by
  unfold stepB at h
  split at h
  · rename_i S' H' he
    simp only [Bool.and_eq_true] at h
    exact ⟨S', H', he, .ren _ _ _ (List.range Hc.length) List.nodup_range (fun k h => absurd h (Nat.not_lt_zero k)) (wkS_ok _ _ h.1) (wkH_ok _ _ h.2)⟩
  · cases h
theorem wk_step {P : Program} {o : Orc} (ho : OrcOK P o) {Q : AExit → List V → Heap → Prop} {k : Kt} {A : ACode} {S : List V} {H : Heap} (n : Nat) (Sc : List V) (Hc : Heap) (h : stepB o n A S H Sc Hc = true)
    (hk : ∀ S' H', Weak 0 ⟨S', H'⟩ ⟨Sc, Hc⟩ → NK P 0 Q k S' H') : WK P 0 Q A k S H := by
  obtain ⟨S', H', he, hw⟩ := step_ok h
  exact exec_S ho n A S H .normal S' H' he _ (hk S' H' hw)
theorem wk_stepL {P : Program} {o : Orc} (ho : OrcOK P o) {Q : AExit → List V → Heap → Prop} {k : Kt} {a b c d : ACode} {i : Nat} {S : List V} {H : Heap} (n : Nat) (Sc : List V) (Hc : Heap) (h : stepB o n (.seq a b) S H Sc Hc = true)
    (ha : ∃ p os, a = .region p os) (hb : ∃ p os, b = .region p os)
    (hk : ∀ S' H', Weak 0 ⟨S', H'⟩ ⟨Sc, Hc⟩ → WK P 0 Q (.block i (.loop c)) (.seq d k) S' H') : WK P 0 Q (.seq a (.seq (.seq b (.block i (.loop c))) d)) k S H := by
  obtain ⟨S', H', he, hw⟩ := step_ok h
  obtain ⟨p, os, rfl⟩ := ha
  obtain ⟨q, os', rfl⟩ := hb
  have h1 := exec_S (m0 := 0) ho n (.seq (.region p os) (.region q os')) S H .normal S' H' he (fun e S H => match e with | .normal => WK P 0 Q (.block i (.loop c)) (.seq d k) S H | e => kq P 0 Q k e S H) (hk S' H' hw)
  unfold WK at h1 ⊢
  cases p <;> cases q <;> (simp only [wpS, kq] at h1 ⊢; exact h1)
theorem wk_stepL3 {P : Program} {o : Orc} (ho : OrcOK P o) {Q : AExit → List V → Heap → Prop} {k : Kt} {a a2 b c d : ACode} {i : Nat} {S : List V} {H : Heap} (n : Nat) (Sc : List V) (Hc : Heap) (h : stepB o n (.seq a (.seq a2 b)) S H Sc Hc = true)
    (ha : ∃ p os, a = .region p os) (ha2 : ∃ p os, a2 = .region p os) (hb : ∃ p os, b = .region p os)
    (hk : ∀ S' H', Weak 0 ⟨S', H'⟩ ⟨Sc, Hc⟩ → WK P 0 Q (.block i (.loop c)) (.seq d k) S' H') : WK P 0 Q (.seq a (.seq a2 (.seq (.seq b (.block i (.loop c))) d))) k S H := by
  obtain ⟨S', H', he, hw⟩ := step_ok h
  obtain ⟨p, os, rfl⟩ := ha
  obtain ⟨r, os2, rfl⟩ := ha2
  obtain ⟨q, os', rfl⟩ := hb
  have h1 := exec_S (m0 := 0) ho n (.seq (.region p os) (.seq (.region r os2) (.region q os'))) S H .normal S' H' he (fun e S H => match e with | .normal => WK P 0 Q (.block i (.loop c)) (.seq d k) S H | e => kq P 0 Q k e S H) (hk S' H' hw)
  unfold WK at h1 ⊢
  cases p <;> cases q <;> cases r <;> (simp only [wpS, kq] at h1 ⊢; exact h1)
theorem weakB {S : List V} {H : Heap} {Sc : List V} {Hc : Heap} (h : (wkS Hc.length S Sc && wkH H Hc.length (List.range Hc.length) Hc) = true) : Weak 0 ⟨S, H⟩ ⟨Sc, Hc⟩ := by
  simp only [Bool.and_eq_true] at h
  exact .ren _ _ _ (List.range Hc.length) List.nodup_range (fun k h => absurd h (Nat.not_lt_zero k)) (wkS_ok _ _ h.1) (wkH_ok _ _ h.2)
def hdC : ACode → ACode | .seq a _ => a | c => c
def tlC : ACode → ACode | .seq _ b => b | c => c
end Go.Proofs.Ytmmaenfjnkoknaa.VA
