/- Functions run by the runner: what it finds is a contract. -/
import Derived.Test.YtlahigboaeadmaaV19
set_option linter.unusedVariables false
set_option linter.unusedSimpArgs false
namespace Go.Proofs.Ytlahigboaeadmaa.VA
open Go
noncomputable section

/-- What a caller is told of an answer: a value, or a new row. -/
def outOf (H : Heap) (v : V) : Option (V × Heap) :=
  if closedb v = true then some (v, []) else
  match v with
  | .sref id 0 n sz => match blkAt H id with
    | some cells => if closedLb cells = true then some (.sref 0 0 n sz, [some cells]) else none
    | none => none
  | _ => none

theorem outOf_ok {H : Heap} {v r : V} {Hout : Heap} (h : outOf H v = some (r, Hout)) : OutOK 0 H v r Hout := by
  unfold outOf at h
  split at h
  · rename_i hc
    simp only [Option.some.injEq, Prod.mk.injEq] at h
    obtain ⟨rfl, rfl⟩ := h
    exact out_val (closedb_ok _ hc)
  · split at h
    · rename_i id n sz _
      split at h
      · rename_i cells hb
        split at h
        · rename_i hc
          simp only [Option.some.injEq, Prod.mk.injEq] at h
          obtain ⟨rfl, rfl⟩ := h
          exact out_row hb (closedLb_ok _ hc)
        · cases h
      · cases h
    · cases h

def runF (o : Orc) (fuel : Nat) (A : ACode) (ars : List ARes) (nt : Nat) (args : List V) : Option (V × Heap) :=
  match exec o fuel A (args ++ List.replicate (nt - args.length) .dead) [] with
  | some (.exit _, _, _) => none
  | some (_, S, H) => match resAll S H ars with
    | some v => outOf H v
    | none => none
  | none => none

theorem runF_ok {P : Program} (hm : P.follows .mixedOrders = true) {o : Orc} (ho : OrcOK P o) {f : Nat} {fn : Func} {A : ACode} {ars : List ARes} {nt fuel : Nat} (hf : P.funcs[f]? = some fn) (hA : fn.body.bind (cCode P) = some A)
    (hR : cRes P fn.results.toList = some ars) (hnt : fn.ntmps = nt) {args : List V} {r : V} {Hout : Heap} (h : runF o fuel A ars nt args = some (r, Hout)) : C P f args [] r Hout := by
  simp only [Option.bind_eq_some_iff] at hA
  obtain ⟨c, hb, hA⟩ := hA
  subst hnt
  refine C_of_body hm hf hb hA hR ?_
  unfold runF at h
  split at h
  · cases h
  · rename_i e S H hne he
    split at h
    · rename_i v hv
      refine exec_ok ho fuel A _ _ e S H he _ ⟨?_, v, hv, outOf_ok h⟩
      cases e with
      | normal => exact .inl rfl
      | ret => exact .inr rfl
      | exit i => exact (hne i rfl).elim
    · cases h
  · cases h

structure Ent where
  f : Nat
  A : ACode
  ars : List ARes
  nt : Nat

def EntOK (P : Program) (e : Ent) : Prop := ∃ fn, P.funcs[e.f]? = some fn ∧ fn.body.bind (cCode P) = some e.A ∧ cRes P fn.results.toList = some e.ars ∧ fn.ntmps = e.nt

def findE : List Ent → Nat → Option Ent
  | [], _ => none
  | e :: es, f => if e.f = f then some e else findE es f

theorem findE_mem : ∀ {es : List Ent} {f : Nat} {e : Ent}, findE es f = some e → e ∈ es ∧ e.f = f
  | [], f, e, h => by simp [findE] at h
  | x :: es, f, e, h => by
    simp only [findE] at h
    split at h
    · rename_i hx; cases h; exact ⟨by simp, hx⟩
    · have := findE_mem h; exact ⟨by simp [this.1], this.2⟩

/-- An oracle: what is known of a function; else its code is run. -/
def tabO (o : Orc) (tab : List Ent) (fuel : Nat) : Nat → Orc
  | 0, _, _ => none
  | d + 1, f, args => match o f args with
    | some r => some r
    | none => match findE tab f with
      | some e => runF (tabO o tab fuel d) fuel e.A e.ars e.nt args
      | none => none

theorem tabO_ok {P : Program} (hm : P.follows .mixedOrders = true) {o : Orc} (ho : OrcOK P o) {tab : List Ent} (ht : ∀ e ∈ tab, EntOK P e) (fuel : Nat) : ∀ d, OrcOK P (tabO o tab fuel d)
  | 0, f, args, r, Hout, h => by simp [tabO] at h
  | d + 1, f, args, r, Hout, h => by
    simp only [tabO] at h
    split at h
    · rename_i r1 hr
      cases h
      exact ho f args r Hout hr
    · split at h
      · rename_i e he
        obtain ⟨hmem, rfl⟩ := findE_mem he
        obtain ⟨fn, h1, h2, h3, h4⟩ := ht e hmem
        exact runF_ok hm (tabO_ok hm ho ht fuel d) h1 h2 h3 h4 h
      · cases h

def noO : Orc := fun _ _ => none
theorem noO_ok (P : Program) : OrcOK P noO := fun f args r Hout h => by simp [noO] at h

end
end Go.Proofs.Ytlahigboaeadmaa.VA
