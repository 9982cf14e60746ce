/- From a contract of the abstract machine to the arguments and the answer of a given row. -/
import Derived.Test.YtlahigboaeadmaaV15
import Derived.Test.YtlahigboaeadmaaRows
import Derived.ProofKit
import Derived.OpenShut
import Derived.Below
import Derived.SizedLaws
set_option linter.unusedVariables false
set_option linter.unusedSimpArgs false
namespace Go.Proofs.Ytlahigboaeadmaa.VA
open Go Go.ChangeShapes Go.WideShapes Go.RowKit

/-- What the cells of an argument of a type may be. -/
def ArgT (P : Program) : Nat → TypeId → List V → Prop
  | 0, _, _ => False
  | n + 1, t, vs =>
    match P.underlying t with
    | some .bool => ∃ b, vs = [.sc (.bool b)]
    | some (.int k) => ∃ i, (Lit.int k i).wf = true ∧ vs = [.sc (.int k i)]
    | some .string => ∃ s, s.size ≤ maxLen ∧ vs = [.sc (.string s)]
    | some (.slice e) => vs = [.sc (.slice none 0 0)] ∨ ∃ parts : List (List V), parts.length ≤ maxLen ∧ (∀ p ∈ parts, ArgT P n e p) ∧ vs = [.sl parts.length parts.flatten]
    | some (.struct fs) => ∃ parts : List (List V), parts.length = fs.toList.length ∧ (∀ (i : Nat) f p, fs.toList[i]? = some f → parts[i]? = some p → ArgT P n f.type p) ∧ vs = parts.flatten
    | some (.array m e) => ∃ parts : List (List V), parts.length = m ∧ (∀ p ∈ parts, ArgT P n e p) ∧ vs = parts.flatten
    | _ => False

/-- The fields lie one behind the other, from place 'o' on; 'o' at the end. -/
def fieldsFlat (P : Program) (r : TypeId → Bool) : List Field → Nat → Nat → Bool
  | [], o, total => o == total
  | f :: fs, o, total => (f.offset == o) && r f.type && fieldsFlat P r fs (o + P.cellsOf f.type) total

/-- The types that 'ArgT' tells. -/
def flatB (P : Program) : Nat → TypeId → Bool
  | 0, _ => false
  | n + 1, t =>
    match P.underlying t with
    | some .bool => P.cellsOf t == 1
    | some (.int _) => P.cellsOf t == 1
    | some .string => P.cellsOf t == 1
    | some (.slice e) => (P.cellsOf t == 1) && flatB P n e
    | some (.struct fs) => fieldsFlat P (flatB P n) fs.toList 0 (P.cellsOf t)
    | some (.array m e) => (P.cellsOf t == m * P.cellsOf e) && flatB P n e
    | _ => false

mutual
def bulkV : V → Nat
  | .sc (.string s) => s.size + 1
  | .sc _ => 1
  | .agg cs => bulkL cs
  | .tup cs => bulkL cs + 1
  | .sl _ cs => bulkL cs + 1
  | .box cs => bulkL cs + 1
  | .fn _ cs => bulkL cs + 1
  | _ => 1
def bulkL : List V → Nat
  | [] => 0
  | v :: vs => bulkV v + bulkL vs
end

theorem bulkL_app : ∀ (a b : List V), bulkL (a ++ b) = bulkL a + bulkL b
  | [], b => by simp [bulkL]
  | v :: a, b => by simp [bulkL, bulkL_app a b]; omega

/-- The context of an argument: all memory that is there is read only. -/
def inCx (w : World) : Cx := { w := w, β := fun _ => none, N := fun _ => False, B := w.heap.size, R := fun _ => True }

theorem mapM_at {α β : Type} {f : α → Option β} : ∀ {l : List α} {xs : List β}, l.mapM f = some xs → xs.length = l.length ∧ ∀ (i : Nat) (a : α), l[i]? = some a → ∃ b, f a = some b ∧ xs[i]? = some b
  | [], xs, h => by simp at h; subst h; simp
  | a :: l, xs, h => by
    rw [List.mapM_cons] at h
    simp only [Option.bind_eq_bind, Option.bind_eq_some_iff, Option.pure_def, Option.some.injEq] at h
    obtain ⟨b, hb, ys, hy, rfl⟩ := h
    have ih := mapM_at hy
    refine ⟨by simp [ih.1], fun i x hx => ?_⟩
    cases i with
    | zero => simp at hx; subst hx; exact ⟨b, hb, rfl⟩
    | succ i => simpa using ih.2 i x (by simpa using hx)

theorem RepO.app {K : Cx} : ∀ {xs ys : List V} {la lb : List Value}, RepO K xs la → RepO K ys lb → RepO K (xs ++ ys) (la ++ lb)
  | [], ys, la, lb, h, k => by simp only [RepO] at h; subst h; simpa using k
  | x :: xs, ys, la, lb, h, k => by
    simp only [RepO] at h
    obtain ⟨c, l, rfl, h0, h1, h2⟩ := h
    simp only [List.cons_append, RepO]
    exact ⟨c, l ++ lb, rfl, h0, h1, RepO.app h2 k⟩

theorem repO_one {K : Cx} {v : V} {c : Value} (h : c.oneCell' = true) (hr : Rep K v c) : RepO K [v] [c] := by
  simp only [RepO]
  exact ⟨c, [], rfl, h, hr, rfl⟩

theorem RepO.len {K : Cx} {xs : List V} {la : List Value} (h : RepO K xs la) : la.length = xs.length := (RepO.iff.1 h).1.length

theorem RepC.app {K : Cx} {xs ys : List V} {a : Addr} {i : Nat} (h : RepC K xs a i) (k : RepC K ys a (i + xs.length)) : RepC K (xs ++ ys) a i :=
  RepC.mk fun j v hv => by
    by_cases hj : j < xs.length
    · rw [List.getElem?_append_left hj] at hv
      exact h.get j v hv
    · rw [List.getElem?_append_right (by omega)] at hv
      have := k.get (j - xs.length) v hv
      rwa [show i + xs.length + (j - xs.length) = i + j by omega] at this

/-- The cells of a row, read one behind the other. -/
theorem RepC.of_cells {w : World} {xs : List V} {cs : List Value} {a : Addr} {o n : Nat} (hr : RepO (inCx w) xs cs) (hc : w.cells? 0 (a.add o) n = some cs) : RepC (inCx w) xs a o := by
  obtain ⟨_, hl, hcell⟩ := World.cells?_some hc
  have hlen := hr.len
  refine RepC.mk fun j v hv => ?_
  have hj := (List.getElem?_eq_some_iff.1 hv).1
  have hr' := RepO.iff.1 hr
  obtain ⟨c, hcj, hrep⟩ := hr'.1.get j v hv
  refine ⟨c, ?_, hr'.2 c (List.mem_of_getElem? hcj), hrep⟩
  have := hcell j (by omega)
  rw [add_add, hcj] at this
  exact this

section
variable {H : Type} {enc : TypeId × Value → H} {P : Program} {w : World} {sp : Nat → Bool} {held : Bool}

theorem fields_arg (n : Nat) (r : TypeId → Bool) (ih : ∀ (t : TypeId) (cs : List Value) (d : DataW H) (ps : List MemPlace), r t = true → DataW.trod enc P w 0 sp held n t cs = some (d, ps) →
      ∃ vs, ArgT P n t vs ∧ RepO (inCx w) vs cs ∧ cs.length = P.cellsOf t ∧ bulkL vs ≤ Go.Proofs.Ytlahigboaeadmaa.Rows.uptoBulk d) (cs : List Value) (total : Nat) (hcs : cs.length = total) :
    ∀ (fs : List Field) (o : Nat) (xs : List (DataW H × List MemPlace)), fieldsFlat P r fs o total = true → o ≤ total → fs.mapM (fun f => DataW.trod enc P w 0 sp held n f.type ((cs.drop f.offset).take (P.cellsOf f.type))) = some xs →
      ∃ parts : List (List V), parts.length = fs.length ∧ (∀ (i : Nat) f p, fs[i]? = some f → parts[i]? = some p → ArgT P n f.type p) ∧ RepO (inCx w) parts.flatten (cs.drop o) ∧ bulkL parts.flatten ≤ Go.Proofs.Ytlahigboaeadmaa.Rows.uptoBulkAll (xs.map (·.1))
  | [], o, xs, hf, ho, h => by
    simp only [fieldsFlat, beq_iff_eq] at hf
    simp at h; subst h
    refine ⟨[], rfl, fun i f p hi => by simp at hi, ?_, by simp [bulkL]⟩
    rw [List.drop_eq_nil_of_le (by omega)]
    simp [RepO]
  | f :: fs, o, xs, hf, ho, h => by
    simp only [fieldsFlat, Bool.and_eq_true, beq_iff_eq] at hf
    obtain ⟨⟨hoff, hr⟩, hrest⟩ := hf
    rw [List.mapM_cons] at h
    simp only [Option.bind_eq_bind, Option.bind_eq_some_iff, Option.pure_def, Option.some.injEq] at h
    obtain ⟨⟨d, ps⟩, hd, ys, hy, rfl⟩ := h
    obtain ⟨vs, h1, h2, h3, h4⟩ := ih f.type _ d ps hr hd
    rw [hoff] at h2 h3
    have hle : o + P.cellsOf f.type ≤ total := by
      simp only [List.length_take, List.length_drop] at h3
      omega
    obtain ⟨parts, g1, g2, g3, g4⟩ := fields_arg n r ih cs total hcs fs _ ys hrest hle hy
    refine ⟨vs :: parts, by simp [g1], fun i f' p hi hp => ?_, ?_, ?_⟩
    · cases i with
      | zero => simp at hi hp; subst hi; subst hp; exact h1
      | succ i => exact g2 i f' p (by simpa using hi) (by simpa using hp)
    · have : cs.drop o = (cs.drop o).take (P.cellsOf f.type) ++ cs.drop (o + P.cellsOf f.type) := by
        rw [← List.drop_drop, List.take_append_drop]
      rw [this, List.flatten_cons]
      exact h2.app g3
    · simp only [List.flatten_cons, bulkL_app, List.map_cons, Go.Proofs.Ytlahigboaeadmaa.Rows.uptoBulkAll]
      omega

theorem slice_arg (n : Nat) (e : TypeId) (ih : ∀ (cs : List Value) (d : DataW H) (ps : List MemPlace), DataW.trod enc P w 0 sp held n e cs = some (d, ps) →
      ∃ vs, ArgT P n e vs ∧ RepO (inCx w) vs cs ∧ cs.length = P.cellsOf e ∧ bulkL vs ≤ Go.Proofs.Ytlahigboaeadmaa.Rows.uptoBulk d) (a : Addr) :
    ∀ (len s : Nat) (xs : List (DataW H × List MemPlace)), (List.range' s len).mapM (fun i => (w.cells? 0 (a.add (i * P.cellsOf e)) (P.cellsOf e)).bind (DataW.trod enc P w 0 sp held n e)) = some xs →
      ∃ parts : List (List V), parts.length = len ∧ (∀ p ∈ parts, ArgT P n e p) ∧ RepC (inCx w) parts.flatten a (s * P.cellsOf e) ∧ bulkL parts.flatten ≤ Go.Proofs.Ytlahigboaeadmaa.Rows.uptoBulkAll (xs.map (·.1))
  | 0, s, xs, h => by
    simp at h; subst h
    exact ⟨[], rfl, by simp, by simp [RepC], by simp [bulkL]⟩
  | len + 1, s, xs, h => by
    rw [List.range'_succ, List.mapM_cons] at h
    simp only [Option.bind_eq_bind, Option.bind_eq_some_iff, Option.pure_def, Option.some.injEq] at h
    obtain ⟨⟨d, ps⟩, ⟨cs, hcs, hd⟩, ys, hy, rfl⟩ := h
    obtain ⟨vs, h1, h2, h3, h4⟩ := ih cs d ps hd
    obtain ⟨parts, g1, g2, g3, g4⟩ := slice_arg n e ih a len (s + 1) ys hy
    refine ⟨vs :: parts, by simp [g1], ?_, ?_, ?_⟩
    · intro p hp
      rcases List.mem_cons.1 hp with rfl | hp
      · exact h1
      · exact g2 p hp
    · rw [List.flatten_cons]
      refine (RepC.of_cells h2 hcs).app ?_
      rw [← h2.len, h3, ← Nat.succ_mul]
      exact g3
    · simp only [List.flatten_cons, bulkL_app, List.map_cons, Go.Proofs.Ytlahigboaeadmaa.Rows.uptoBulkAll]
      omega

theorem array_arg (n : Nat) (e : TypeId) (ih : ∀ (cs : List Value) (d : DataW H) (ps : List MemPlace), DataW.trod enc P w 0 sp held n e cs = some (d, ps) →
      ∃ vs, ArgT P n e vs ∧ RepO (inCx w) vs cs ∧ cs.length = P.cellsOf e ∧ bulkL vs ≤ Go.Proofs.Ytlahigboaeadmaa.Rows.uptoBulk d) (cs : List Value) :
    ∀ (len s : Nat) (xs : List (DataW H × List MemPlace)), cs.length = (s + len) * P.cellsOf e → (List.range' s len).mapM (fun i => DataW.trod enc P w 0 sp held n e ((cs.drop (i * P.cellsOf e)).take (P.cellsOf e))) = some xs →
      ∃ parts : List (List V), parts.length = len ∧ (∀ p ∈ parts, ArgT P n e p) ∧ RepO (inCx w) parts.flatten (cs.drop (s * P.cellsOf e)) ∧ bulkL parts.flatten ≤ Go.Proofs.Ytlahigboaeadmaa.Rows.uptoBulkAll (xs.map (·.1))
  | 0, s, xs, hl, h => by
    simp at h; subst h
    refine ⟨[], rfl, by simp, ?_, by simp [bulkL]⟩
    rw [List.drop_eq_nil_of_le (by simp [hl])]
    simp [RepO]
  | len + 1, s, xs, hl, h => by
    rw [List.range'_succ, List.mapM_cons] at h
    simp only [Option.bind_eq_bind, Option.bind_eq_some_iff, Option.pure_def, Option.some.injEq] at h
    obtain ⟨⟨d, ps⟩, hd, ys, hy, rfl⟩ := h
    obtain ⟨vs, h1, h2, h3, h4⟩ := ih _ d ps hd
    obtain ⟨parts, g1, g2, g3, g4⟩ := array_arg n e ih cs len (s + 1) ys (by rw [hl]; congr 1; omega) hy
    refine ⟨vs :: parts, by simp [g1], ?_, ?_, ?_⟩
    · intro p hp
      rcases List.mem_cons.1 hp with rfl | hp
      · exact h1
      · exact g2 p hp
    · have : cs.drop (s * P.cellsOf e) = (cs.drop (s * P.cellsOf e)).take (P.cellsOf e) ++ cs.drop ((s + 1) * P.cellsOf e) := by
        rw [Nat.succ_mul, ← List.drop_drop, List.take_append_drop]
      rw [this, List.flatten_cons]
      exact h2.app g3
    · simp only [List.flatten_cons, bulkL_app, List.map_cons, Go.Proofs.Ytlahigboaeadmaa.Rows.uptoBulkAll]
      omega

theorem trod_struct_eq {t : TypeId} {fs : Array Field} (ht : P.underlying t = some (.struct fs)) (n : Nat) (cs : List Value) : DataW.trod enc P w 0 sp held (n + 1) t cs =
    if cs.length = P.cellsOf t then (fs.toList.mapM fun f => DataW.trod enc P w 0 sp held n f.type ((cs.drop f.offset).take (P.cellsOf f.type))).map fun xs => (.agg (xs.map (·.1)), xs.flatMap (·.2)) else none := by
  rw [DataW.trod.eq_def]
  dsimp only
  rw [ht]

theorem trod_array_eq {t : TypeId} {k : Nat} {e : TypeId} (ht : P.underlying t = some (.array k e)) (n : Nat) (cs : List Value) : DataW.trod enc P w 0 sp held (n + 1) t cs =
    if cs.length = P.cellsOf t then ((List.range k).mapM fun i => DataW.trod enc P w 0 sp held n e ((cs.drop (i * P.cellsOf e)).take (P.cellsOf e))).map fun xs => (.agg (xs.map (·.1)), xs.flatMap (·.2)) else none := by
  rw [DataW.trod.eq_def]
  dsimp only
  rw [ht]

theorem trod_arg : ∀ (n m : Nat) (t : TypeId) (cs : List Value) (d : DataW H) (ps : List MemPlace), flatB P m t = true → DataW.trod enc P w 0 sp held n t cs = some (d, ps) →
    ∃ vs, ArgT P n t vs ∧ RepO (inCx w) vs cs ∧ cs.length = P.cellsOf t ∧ bulkL vs ≤ Go.Proofs.Ytlahigboaeadmaa.Rows.uptoBulk d
  | 0, m, t, cs, d, ps, hf, h => by simp [DataW.trod] at h
  | n + 1, 0, t, cs, d, ps, hf, h => by simp [flatB] at hf
  | n + 1, m + 1, t, cs, d, ps, hf, h => by
    have h0 := h
    unfold flatB at hf
    unfold DataW.trod at h
    split at hf
    · rename_i ht
      rw [ht] at h
      split at h <;> rename_i hu <;> try cases hu
      all_goals try (simp at h; done)
      rename_i b
      simp at h
      obtain ⟨rfl, rfl⟩ := h
      exact ⟨[.sc (.bool b)], by unfold ArgT; rw [ht]; exact ⟨b, rfl⟩, repO_one rfl (by simp [Rep]), by simpa using (beq_iff_eq.1 hf).symm, by simp [bulkL, bulkV, Go.Proofs.Ytlahigboaeadmaa.Rows.uptoBulk]⟩
    · rename_i k ht
      rw [ht] at h
      split at h <;> rename_i hu <;> try cases hu
      all_goals try (simp at h; done)
      rename_i i
      split at h
      · rename_i hk
        obtain ⟨rfl, hwf⟩ := hk
        obtain ⟨rfl, rfl⟩ := Prod.mk.inj (Option.some.inj h)
        exact ⟨[.sc (.int _ i)], by unfold ArgT; rw [ht]; exact ⟨i, hwf, rfl⟩, repO_one rfl (by simp [Rep]), by simpa using (beq_iff_eq.1 hf).symm, by simp [bulkL, bulkV, Go.Proofs.Ytlahigboaeadmaa.Rows.uptoBulk]⟩
      · cases h
    · rename_i ht
      rw [ht] at h
      split at h <;> rename_i hu <;> try cases hu
      all_goals try (simp at h; done)
      rename_i b
      split at h
      · rename_i hsz
        obtain ⟨rfl, rfl⟩ := Prod.mk.inj (Option.some.inj h)
        refine ⟨[.sc (.string b)], by unfold ArgT; rw [ht]; exact ⟨b, hsz, rfl⟩, repO_one rfl (by simp [Rep]), by simpa using (beq_iff_eq.1 hf).symm, ?_⟩
        have e : b.data.toList.length = b.size := by rw [Array.length_toList]; rfl
        simp only [bulkL, bulkV, Go.Proofs.Ytlahigboaeadmaa.Rows.uptoBulk]
        omega
      · cases h
    · rename_i e ht
      simp only [Bool.and_eq_true, beq_iff_eq] at hf
      rw [ht] at h
      split at h <;> rename_i hu <;> try cases hu
      all_goals try (simp at h; done)
      · simp at h
        obtain ⟨rfl, rfl⟩ := h
        exact ⟨[.sc (.slice none 0 0)], by unfold ArgT; rw [ht]; exact .inl rfl, repO_one rfl (by simp [Rep]), by simpa using hf.1.symm, by simp [bulkL, bulkV, Go.Proofs.Ytlahigboaeadmaa.Rows.uptoBulk]⟩
      · rename_i a len cap
        simp only [] at h
        split at h
        · rename_i hle
          simp only [Option.bind_eq_some_iff, Option.map_eq_some_iff] at h
          obtain ⟨xs, hxs, rest, hrest, hd⟩ := h
          cases hd
          obtain ⟨parts, g1, g2, g3, g4⟩ := slice_arg n e (fun cs d ps h => trod_arg n m e cs d ps hf.2 h) a len 0 xs (by rw [← List.range_eq_range']; exact hxs)
          refine ⟨[.sl len parts.flatten], ?_, repO_one rfl ?_, by simpa using hf.1.symm, ?_⟩
          · unfold ArgT; rw [ht]
            exact .inr ⟨parts, by omega, g2, by rw [g1]⟩
          · simp only [Rep]
            exact ⟨a, cap, rfl, hle.2.1, .inr ⟨fun h => h, .inl trivial⟩, by simpa using g3⟩
          · simp only [bulkL, bulkV, Go.Proofs.Ytlahigboaeadmaa.Rows.uptoBulk]
            omega
        · cases h
    · rename_i fs ht
      rw [trod_struct_eq ht] at h0
      split at h0
      · rename_i hcs
        simp only [Option.map_eq_some_iff] at h0
        obtain ⟨xs, hxs, hd⟩ := h0
        cases hd
        obtain ⟨parts, g1, g2, g3, g4⟩ := fields_arg n (flatB P m) (fun t cs d ps hr h => trod_arg n m t cs d ps hr h) cs (P.cellsOf t) hcs fs.toList 0 xs hf (Nat.zero_le _) hxs
        refine ⟨parts.flatten, ?_, by simpa using g3, hcs, ?_⟩
        · unfold ArgT; rw [ht]
          exact ⟨parts, g1, g2, rfl⟩
        · simp only [Go.Proofs.Ytlahigboaeadmaa.Rows.uptoBulk]
          omega
      · cases h0
    · rename_i k e ht
      simp only [Bool.and_eq_true, beq_iff_eq] at hf
      rw [trod_array_eq ht] at h0
      split at h0
      · rename_i hcs
        simp only [Option.map_eq_some_iff] at h0
        obtain ⟨xs, hxs, hd⟩ := h0
        cases hd
        obtain ⟨parts, g1, g2, g3, g4⟩ := array_arg n e (fun cs d ps h => trod_arg n m e cs d ps hf.2 h) cs k 0 xs (by rw [hcs, hf.1]; simp) (by rw [← List.range_eq_range']; exact hxs)
        refine ⟨parts.flatten, ?_, by simpa using g3, hcs, ?_⟩
        · unfold ArgT; rw [ht]
          exact ⟨parts, g1, g2, rfl⟩
        · simp only [Go.Proofs.Ytlahigboaeadmaa.Rows.uptoBulk]
          omega
      · cases h0
    · cases hf
end

/-- What an argument of a type may be. -/
def ArgV (P : Program) (t : TypeId) (v : V) : Prop :=
  match P.underlying t with
  | some (.struct _) | some (.array _ _) => ∃ n cs, ArgT P n t cs ∧ v = .agg cs
  | _ => ∃ n, ArgT P n t [v]

def ArgsT (P : Program) : List TypeId → List V → Prop
  | [], vs => vs = []
  | t :: ts, vs => ∃ v us, vs = v :: us ∧ ArgV P t v ∧ ArgsT P ts us

theorem cells_one {P : Program} {w : World} {r : Reach} {base : Nat} {t : TypeId} {v : Value} (hs : ∀ fs, P.underlying t ≠ some (.struct fs)) (ha : ∀ n e, P.underlying t ≠ some (.array n e)) (h : Value.okWide P w r base t v) : v.cells.toList = [v] := by
  have hc : Cell.okWide P w r base t v := by
    unfold Value.okWide at h
    split at h
    · rename_i fs hu; exact absurd hu (hs fs)
    · rename_i n e hu; exact absurd hu (ha n e)
    · exact h
  cases v with
  | agg cs =>
    exfalso
    unfold Cell.okWide at hc
    split at hc <;> try (rename_i h1; cases h1; done)
    all_goals try (rename_i h1 h2; cases h2; done)
    unfold Cell.ok at hc
    split at hc <;> rename_i h1 h2 <;> first | (cases h2; done) | exact hc
  | _ => rfl

section
variable {H : Type} {enc : TypeId × Value → H} {P : Program} {w : World}

theorem arg_v {sp : Nat → Bool} {held : Bool} {r : Reach} {base m : Nat} {t : TypeId} {v : Value} {d : DataW H} {ps : List MemPlace} (hf : flatB P m t = true) (h : DataW.Trod enc P w 0 sp held t v d ps) (hok : Value.okWide P w r base t v) :
    ∃ u, ArgV P t u ∧ Rep (inCx w) u v ∧ bulkV u ≤ Go.Proofs.Ytlahigboaeadmaa.Rows.uptoBulk d := by
  obtain ⟨n, h⟩ := h
  obtain ⟨vs, h1, h2, h3, h4⟩ := trod_arg n m t _ d ps hf h
  by_cases hagg : (∃ fs, P.underlying t = some (.struct fs)) ∨ ∃ k e, P.underlying t = some (.array k e)
  · have hv : ∃ cs, v = .agg cs := by
      unfold Value.okWide at hok
      rcases hagg with ⟨fs, hu⟩ | ⟨k, e, hu⟩ <;> rw [hu] at hok <;> exact ⟨_, hok.choose_spec.1⟩
    obtain ⟨cs, rfl⟩ := hv
    refine ⟨.agg vs, ?_, ?_, by simpa [bulkV] using h4⟩
    · unfold ArgV
      rcases hagg with ⟨fs, hu⟩ | ⟨k, e, hu⟩ <;> rw [hu] <;> exact ⟨n, vs, h1, rfl⟩
    · simp only [Rep]
      exact ⟨cs.toList, by simp, h2⟩
  · have hc := cells_one (fun fs hu => hagg (.inl ⟨fs, hu⟩)) (fun k e hu => hagg (.inr ⟨k, e, hu⟩)) hok
    rw [hc] at h2
    have hl := h2.len
    match vs, hl with
    | [u], _ =>
      simp only [RepO] at h2
      obtain ⟨c, l, hcl, _, h2, _⟩ := h2
      cases hcl
      refine ⟨u, ?_, h2, by simpa [bulkL] using h4⟩
      unfold ArgV
      split
      · rename_i fs hu; exact absurd (.inl ⟨fs, hu⟩) hagg
      · rename_i k e hu; exact absurd (.inr ⟨k, e, hu⟩) hagg
      · exact ⟨n, h1⟩

theorem args_v {sp : Nat → Bool} {held : Bool} {r : Reach} {base m : Nat} : ∀ {ts : List TypeId} {vs : List Value} {ds : List (DataW H)} {ps : List MemPlace}, ts.all (flatB P m) = true → DataW.TrodAll enc P w 0 sp held ts vs ds ps →
    (∀ (j : Nat) t v, ts[j]? = some t → vs[j]? = some v → Value.okWide P w r base t v) → ∃ us, ArgsT P ts us ∧ RepL (inCx w) us vs ∧ bulkL us ≤ Go.Proofs.Ytlahigboaeadmaa.Rows.uptoBulkAll ds ∧ ds.length = ts.length
  | [], vs, ds, ps, _, h, _ => by
    obtain ⟨rfl, rfl, rfl⟩ := trodAll_nil h
    exact ⟨[], by simp [ArgsT], by simp [RepL], by simp [bulkL], rfl⟩
  | t :: ts, vs, ds, ps, hf, h, hok => by
    obtain ⟨v, vs1, d, ds1, a, b, rfl, rfl, rfl, h1, h2⟩ := trodAll_cons h
    simp only [List.all_cons, Bool.and_eq_true] at hf
    obtain ⟨u, g1, g2, g3⟩ := arg_v hf.1 h1 (hok 0 t v rfl rfl)
    obtain ⟨us, k1, k2, k3, k4⟩ := args_v hf.2 h2 fun j t v ht hv => hok (j + 1) t v (by simpa using ht) (by simpa using hv)
    refine ⟨u :: us, ?_, ?_, ?_, by simp [k4]⟩
    · simp only [ArgsT]; exact ⟨u, us, rfl, g1, k1⟩
    · simp only [RepL]; exact ⟨v, vs1, rfl, g2, k2⟩
    · simp only [bulkL, Go.Proofs.Ytlahigboaeadmaa.Rows.uptoBulkAll]; omega

theorem below_all (hl : laidOutB P = true) {W W' : World} (hb : Below W.heap.size W W') : ∀ {ts : List TypeId} {vs : List Value} {ds : List (DataW H)} {ps : List MemPlace}, ts.all (fun t => P.readableRec t && decide (t < P.types.size)) = true →
    DataW.TrodAll enc P W 0 (fun _ => true) true ts vs ds ps → (∀ x ∈ ps, x.block < W.heap.size) → DataW.TrodAll enc P W' 0 (fun b => decide (b < W.heap.size)) true ts vs ds ps
  | [], vs, ds, ps, _, h, _ => by
    obtain ⟨rfl, rfl, rfl⟩ := trodAll_nil h
    exact trodAll_mk0
  | t :: ts, vs, ds, ps, hr, h, hlt => by
    obtain ⟨v, vs1, d, ds1, a, b, rfl, rfl, rfl, h1, h2⟩ := trodAll_cons h
    simp only [List.all_cons, Bool.and_eq_true, decide_eq_true_eq] at hr
    exact trodAll_cons_mk (Below.trod hl hr.1.1 hr.1.2 h1 hb fun x hx => hlt x (by simp [hx])) (below_all hl hb (by simpa using hr.2) h2 fun x hx => hlt x (by simp [hx]))

/-- A contract of the abstract machine that answers true, turned to a row. -/
theorem row_calls {f : FuncId} {fn : Func} {s : ChangeSpec} {tb : TypeId} {m : Nat} (hres : fn.resultTypes = #[tb]) (htb : P.underlying tb = some .bool) (hl : laidOutB P = true)
    (hr : fn.params.toList.all (fun t => P.readableRec t && decide (t < P.types.size)) = true) (hflat : fn.params.toList.all (flatB P m) = true) (hvars : s.vars = [])
    (hsfn : ∀ ds : List (DataW H), ds.length = fn.params.toList.length → s.fn H ds = { results := [.lit (.bool true)], args := ds })
    {W : World} {base : Nat} {args : Array Value} {ds gs : List (DataW H)} {before : List MemPlace}
    (hval : ∀ (j : Nat) t v, fn.params[j]? = some t → args[j]? = some v → Value.okWide P W .any base t v)
    (hW : DataW.Whole enc P fn.params.toList s.vars false W args.toList ds gs before)
    (hC : ∀ us, ArgsT P fn.params.toList us → bulkL us ≤ Go.Proofs.Ytlahigboaeadmaa.Rows.uptoBulkAll (ds ++ gs) → C P f us [] (.sc (.bool true)) []) :
    Calls P f args W fun e W' => ∃ v, e = .returned v ∧ s.post enc P fn false true false false W args v W' := by
  have hlt := hW.lt
  have hW' := hW
  obtain ⟨p, q, hA, hV, rfl, hfz, hnd⟩ := hW
  rw [hvars] at hV
  obtain ⟨rfl, rfl⟩ := trodVars_none hV
  obtain ⟨us, h1, h2, h3, h4⟩ := args_v hflat hA fun j t v ht hv => hval j t v (by simpa using ht) (by simpa using hv)
  have hcall := hC us h1 (by simpa using h3) (inCx W) args.toList rfl ⟨fun i j b h => by obtain ⟨c, hc⟩ := h; simp at hc, fun i h => by obtain ⟨c, hc⟩ := h; simp at hc, fun i b h => by obtain ⟨c, hc⟩ := h; simp at hc, Nat.le_refl _⟩
    (fun i b hb => by cases hb) h2
  rw [Array.toArray_toList] at hcall
  refine hcall.mono fun e W' ⟨c, K', he, hw, _, _, hst, hrep⟩ => ?_
  simp only [Rep] at hrep
  subst hrep
  subst hw
  have hb : Below W.heap.size W K'.w := ⟨hst.os, hst.tape, hst.output, hst.size, fun k hk => hst.frame k hk (by rintro ⟨i, ⟨c, hc⟩, _⟩; simp at hc)⟩
  refine ⟨_, he, ds, _, _, [], p, [], hW', ?_, ?_, ?_, hb.frame _, fun h => by cases h⟩
  · rw [hres, List.append_nil, hsfn ds h4]
    exact trodAll_mk1 (shut_bool htb true)
  · rw [List.append_nil, hsfn ds h4]
    exact below_all hl hb hr hA fun x hx => hlt x (by simp [hx])
  · rw [hvars, List.append_nil, hsfn ds h4]
    rfl
end

end Go.Proofs.Ytlahigboaeadmaa.VA
