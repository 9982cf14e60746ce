/- What the arguments of a law are. -/
import Derived.Test.YtlahigboaeadmaaV23
set_option linter.unusedVariables false
set_option linter.unusedSimpArgs false
namespace Go.Proofs.Ytlahigboaeadmaa.VA
open Go

def structTypes (P : Program) (t : TypeId) : Option (List TypeId) :=
  match P.underlying t with
  | some (.struct fs) => some (fs.toList.map (·.type))
  | _ => none

def ArgTs (P : Program) (n : Nat) : List TypeId → List V → Prop
  | [], vs => vs = []
  | t :: ts, vs => ∃ a b, vs = a ++ b ∧ ArgT P n t a ∧ ArgTs P n ts b

theorem argTs_of {P : Program} {n : Nat} : ∀ {ts : List TypeId} {parts : List (List V)}, parts.length = ts.length → (∀ (i : Nat) t p, ts[i]? = some t → parts[i]? = some p → ArgT P n t p) → ArgTs P n ts parts.flatten
  | [], [], _, _ => rfl
  | t :: ts, p :: ps, hl, h => ⟨p, ps.flatten, by simp, h 0 t p rfl rfl, argTs_of (by simpa using hl) fun i t p ht hp => h (i + 1) t p (by simpa using ht) (by simpa using hp)⟩
  | [], p :: ps, hl, _ => by simp at hl
  | t :: ts, [], hl, _ => by simp at hl

section
variable {P : Program} {n : Nat} {t : TypeId} {vs : List V}
theorem argT_struct {ts : List TypeId} (hu : structTypes P t = some ts) (h : ArgT P n t vs) : ∃ m, ArgTs P m ts vs := by
  unfold structTypes at hu
  split at hu
  · rename_i fs hf
    cases hu
    cases n with
    | zero => exact h.elim
    | succ n =>
      unfold ArgT at h
      rw [hf] at h
      obtain ⟨parts, h1, h2, rfl⟩ := h
      refine ⟨n, argTs_of (by simpa using h1) fun i t p ht hp => ?_⟩
      rw [List.getElem?_map, Option.map_eq_some_iff] at ht
      obtain ⟨f, hf, rfl⟩ := ht
      exact h2 i f p hf hp
  · cases hu
theorem argT_int {k : IntKind} (hu : P.underlying t = some (.int k)) (h : ArgT P n t vs) : ∃ i, (Lit.int k i).wf = true ∧ vs = [vi k i] := by
  cases n with
  | zero => exact h.elim
  | succ n => unfold ArgT at h; rw [hu] at h; exact h
theorem argT_bool (hu : P.underlying t = some .bool) (h : ArgT P n t vs) : ∃ b, vs = [vb b] := by
  cases n with
  | zero => exact h.elim
  | succ n => unfold ArgT at h; rw [hu] at h; exact h
theorem argT_str (hu : P.underlying t = some .string) (h : ArgT P n t vs) : ∃ l : List UInt8, l.length ≤ maxLen ∧ vs = [st l] := by
  cases n with
  | zero => exact h.elim
  | succ n =>
    unfold ArgT at h; rw [hu] at h
    obtain ⟨s, hs, rfl⟩ := h
    exact ⟨s.data.toList, by simpa using hs, rfl⟩
theorem wf_u8 {i : Int} (h : (Lit.int .u8 i).wf = true) : 0 ≤ i ∧ i ≤ 255 := by simpa [Lit.wf, IntKind.min, IntKind.max, IntKind.signed, IntKind.bits] using h
theorem wf_u32 {i : Int} (h : (Lit.int .u32 i).wf = true) : 0 ≤ i ∧ i ≤ 4294967295 := by simpa [Lit.wf, IntKind.min, IntKind.max, IntKind.signed, IntKind.bits] using h
theorem wf_u64 {i : Int} (h : (Lit.int .u64 i).wf = true) : 0 ≤ i ∧ i ≤ 18446744073709551615 := by simpa [Lit.wf, IntKind.min, IntKind.max, IntKind.signed, IntKind.bits] using h
theorem wf_i64 {i : Int} (h : (Lit.int .i64 i).wf = true) : -9223372036854775808 ≤ i ∧ i ≤ 9223372036854775807 := by simpa [Lit.wf, IntKind.min, IntKind.max, IntKind.signed, IntKind.bits] using h
theorem u8_of {i : Int} (h : (Lit.int .u8 i).wf = true) : ∃ b : UInt8, vi .u8 i = u8V b := by
  have := wf_u8 h
  refine ⟨UInt8.ofNat i.toNat, ?_⟩
  have e : (UInt8.ofNat i.toNat).toNat = i.toNat := by rw [UInt8.toNat_ofNat']; omega
  rw [u8V, e]
  congr 2; omega
theorem bytes_of {e : TypeId} (he : P.underlying e = some (.int .u8)) : ∀ {parts : List (List V)}, (∀ p ∈ parts, ArgT P n e p) → ∃ l : List UInt8, l.length = parts.length ∧ parts.flatten = bs l
  | [], _ => ⟨[], rfl, rfl⟩
  | p :: ps, h => by
    obtain ⟨l, h1, h2⟩ := bytes_of he (parts := ps) fun q hq => h q (by simp [hq])
    obtain ⟨i, hw, rfl⟩ := argT_int he (h p (by simp))
    obtain ⟨b, hb⟩ := u8_of hw
    refine ⟨b :: l, by simp [h1], ?_⟩
    rw [List.flatten_cons, h2, hb]; rfl
theorem argT_bn {m : Nat} {e : TypeId} (hu : P.underlying t = some (.array m e)) (he : P.underlying e = some (.int .u8)) (h : ArgT P n t vs) : ∃ d : Bn m, vs = dg d := by
  cases n with
  | zero => exact h.elim
  | succ n =>
    unfold ArgT at h; rw [hu] at h
    obtain ⟨parts, h1, h2, rfl⟩ := h
    obtain ⟨l, h3, h4⟩ := bytes_of he h2
    exact ⟨⟨l, h3.trans h1⟩, h4⟩
theorem argT_bytes {e : TypeId} (hu : P.underlying t = some (.slice e)) (he : P.underlying e = some (.int .u8)) (h : ArgT P n t vs) : ∃ r : Row, r.l.length ≤ maxLen ∧ vs = [rowV r] := by
  cases n with
  | zero => exact h.elim
  | succ n =>
    unfold ArgT at h; rw [hu] at h
    rcases h with rfl | ⟨parts, h1, h2, rfl⟩
    · exact ⟨.nil, Nat.zero_le _, rfl⟩
    · obtain ⟨l, h3, h4⟩ := bytes_of he h2
      refine ⟨.of l, by simp only [Row.l]; omega, ?_⟩
      simp only [rowV, h4, h3]
theorem ints_of {k : IntKind} {e : TypeId} (he : P.underlying e = some (.int k)) : ∀ {parts : List (List V)}, (∀ p ∈ parts, ArgT P n e p) → ∃ l : List Int, l.length = parts.length ∧ (∀ x ∈ l, (Lit.int k x).wf = true) ∧ parts.flatten = l.map (vi k)
  | [], _ => ⟨[], rfl, by simp, rfl⟩
  | p :: ps, h => by
    obtain ⟨l, h1, h2, h3⟩ := ints_of he (parts := ps) fun q hq => h q (by simp [hq])
    obtain ⟨i, hw, rfl⟩ := argT_int he (h p (by simp))
    refine ⟨i :: l, by simp [h1], ?_, by rw [List.flatten_cons, h3]; rfl⟩
    intro x hx
    rcases List.mem_cons.1 hx with rfl | hx
    · exact hw
    · exact h2 x hx

theorem argT_ints {k : IntKind} {e : TypeId} (hu : P.underlying t = some (.slice e)) (he : P.underlying e = some (.int k)) (h : ArgT P n t vs) : ∃ r : Ints, r.l.length ≤ maxLen ∧ (∀ x ∈ r.l, (Lit.int k x).wf = true) ∧ vs = [intsV k r] := by
  cases n with
  | zero => exact h.elim
  | succ n =>
    unfold ArgT at h; rw [hu] at h
    rcases h with rfl | ⟨parts, h1, h2, rfl⟩
    · exact ⟨.nil, Nat.zero_le _, by simp [Ints.l], rfl⟩
    · obtain ⟨l, h3, h4, h5⟩ := ints_of he h2
      exact ⟨.of l, by simp only [Ints.l]; omega, h4, by simp only [intsV, h5, h3]⟩

theorem argV_agg {v : V} (hu : (match P.underlying t with | some (.struct _) | some (.array _ _) => true | _ => false) = true) (h : ArgV P t v) : ∃ n cs, ArgT P n t cs ∧ v = .agg cs := by
  unfold ArgV at h
  split at h
  · exact h
  · exact h
  · rename_i h1 h2
    split at hu
    · rename_i h3; exact (h1 _ h3).elim
    · rename_i h3; exact (h2 _ _ h3).elim
    · cases hu
theorem argV_one {v : V} (hu : (match P.underlying t with | some (.struct _) | some (.array _ _) => true | _ => false) = false) (h : ArgV P t v) : ∃ n, ArgT P n t [v] := by
  unfold ArgV at h
  split at h
  · rename_i h1; rw [h1] at hu; simp at hu
  · rename_i h1; rw [h1] at hu; simp at hu
  · exact h
end

end Go.Proofs.Ytlahigboaeadmaa.VA
