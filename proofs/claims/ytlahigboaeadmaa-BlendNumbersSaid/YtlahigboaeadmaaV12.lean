/- The soundness of regions of 'VA': one behind the other. -/
import Derived.Test.YtlahigboaeadmaaV11
set_option linter.unusedVariables false
set_option linter.unusedSimpArgs false
namespace Go.Proofs.Ytlahigboaeadmaa.VA
open Go

/-- How an abstract state stands for the model's own: 'B0', 'Hb': when the call began. -/
def Sim (B0 : Cx) (Hb : Heap) (S : List V) (H : Heap) (a : Act) (w : World) : Prop :=
  ∃ K : Cx, K.w = w ∧ HeapOK K H (kap H) ∧ (∀ i b, K.β i = some b → i < H.length) ∧ Step B0 Hb (kap Hb) K H (kap H) ∧ S.length = a.tmps.size ∧
    (∀ t, Rep K (S.getD t .dead) (a.tmps.getD t undef)) ∧ a.defers = []

theorem dn_kap {H H' : Heap} (hl : ∀ i, i < H.length → LiveId H' i → LiveId H i) : Dn (kap H) H H' = kap H' := by
  funext i
  refine propext ⟨fun h => h.2, fun h => ⟨?_, h⟩⟩
  by_cases hi : i < H.length
  · exact .inl (hl i hi h)
  · exact .inr (by omega)

theorem put_size (a : Act) (dst : Option Nat) (c : Value) : (a.put dst c).tmps.size = a.tmps.size := by
  cases dst <;> simp [Act.put]

theorem putS_len (S : List V) (dst : Option Nat) (v : V) : (putS S dst v).length = S.length := by
  cases dst <;> simp [putS]

theorem put_get (a : Act) (d : Nat) (c : Value) (t : Nat) : (a.put (some d) c).tmps.getD t undef = if t = d ∧ d < a.tmps.size then c else a.tmps.getD t undef := by
  simp only [Act.put, Array.getD_eq_getD_getElem?]
  by_cases h : t = d
  · subst h
    by_cases h2 : t < a.tmps.size
    · simp [h2, Array.getElem?_setIfInBounds]
    · simp [h2, Array.getElem?_setIfInBounds]
  · rw [Array.getElem?_setIfInBounds_ne (Ne.symm h)]
    simp [h]

theorem putS_get (S : List V) (d : Nat) (v : V) (t : Nat) : (putS S (some d) v).getD t .dead = if t = d ∧ d < S.length then v else S.getD t .dead := by
  simp only [putS, List.getD_eq_getElem?_getD]
  by_cases h : t = d
  · subst h
    by_cases h2 : t < S.length
    · simp [h2]
    · simp [h2]
  · rw [List.getElem?_set_ne (Ne.symm h)]
    simp [h]

theorem put_rel {K K' : Cx} {S : List V} {a : Act} {dst : Option Nat} {v : V} {c : Value} (hp : Pres K K') (hlen : S.length = a.tmps.size) (hs : ∀ t, Rep K (S.getD t .dead) (a.tmps.getD t undef)) (hv : Rep K' v c) :
    ∀ t, Rep K' ((putS S dst v).getD t .dead) ((a.put dst c).tmps.getD t undef) := by
  intro t
  cases dst with
  | none => exact Rep.pres hp _ _ (hs t)
  | some d =>
    rw [putS_get, put_get, hlen]
    by_cases h : t = d ∧ d < a.tmps.size
    · rw [if_pos h, if_pos h]; exact hv
    · rw [if_neg h, if_neg h]; exact Rep.pres hp _ _ (hs t)

theorem put_defers (a : Act) (dst : Option Nat) (c : Value) : (a.put dst c).defers = a.defers := by
  cases dst <;> rfl

/-- One step, between two states. -/
theorem sim_step {P : Program} {o : Oper} {ao : AOp} (hc : cOp P o.op = some ao) {S : List V} {H : Heap} {v : V} {H' : Heap} {F W : List Nat} (he : EvOp P S H ao v H' F W) {B0 : Cx} {Hb : Heap} (hdef : ∀ i, kap Hb i → ∃ b, B0.β i = some b) {a : Act} {w : World}
    (hs : Sim B0 Hb S H a w) {next : Act → World → Prop} {Q : Exit → Act → World → Prop} (hn : ∀ c w', Sim B0 Hb (putS S o.dst v) H' (a.put o.dst c) w' → next (a.put o.dst c) w') : o.wp P a w next Q := by
  obtain ⟨K, rfl, hK, hdom, hst, hlen, hsl, hdf⟩ := hs
  have hf := ev_facts he
  refine op_step hc he hK (fun i h1 h2 => ?_) (fun i hi => hf.foot i hi) (fun x hx t ht => hsl t) ?_
  · cases hb : K.β i with
    | none => rfl
    | some b => have := hdom i b hb; omega
  · intro c K' hK' hst' hrep
    rw [dn_kap hf.live] at hK' hst'
    refine hn c K'.w ⟨K', rfl, hK', fun i b hb => ?_, hst.trans hst' hdef, by rw [putS_len, put_size]; exact hlen, put_rel (hst'.pres hK) hlen hsl hrep, by rw [put_defers]; exact hdf⟩
    rcases hst'.new i b hb with h | ⟨_, _, h, _⟩
    · exact Nat.lt_of_lt_of_le (hdom i b h) hf.len
    · exact h

theorem sim_skip {B0 : Cx} {Hb : Heap} {S : List V} {H : Heap} {a : Act} {w : World} (hs : Sim B0 Hb S H a w) (dst : Option Nat) : Sim B0 Hb (putS S dst (.sc undef)) H (a.put dst undef) w := by
  obtain ⟨K, rfl, hK, hdom, hst, hlen, hsl, hdf⟩ := hs
  exact ⟨K, rfl, hK, hdom, hst, by rw [putS_len, put_size]; exact hlen, put_rel ⟨fun _ _ h => h, fun b h _ => ⟨h, rfl⟩, fun b C e fz h => ⟨C, fz, h, rfl⟩⟩ hlen hsl (by simp [Rep]), by rw [put_defers]; exact hdf⟩

theorem undef_bool (b : Bool) : undef ≠ Value.bool b := by
  unfold undef
  intro h; cases h

theorem yielded_of {ops : Array Oper} {a : Act} {j d : Nat} {b : Bool} (hd : (ops[j]?).bind (·.dst) = some d) (h : a.tmps.getD d undef = .bool b) : yielded ops a.tmps j = some b := by
  unfold yielded
  rw [hd]
  simp only [Option.bind_some]
  cases ht : a.tmps[d]? with
  | none =>
    rw [Array.getD_eq_getD_getElem?, ht] at h
    exact absurd h (undef_bool b)
  | some x =>
    rw [Array.getD_eq_getD_getElem?, ht] at h
    simp only [Option.getD_some] at h
    subst h
    rfl

theorem yielded_undef {ops : Array Oper} {a : Act} {j d : Nat} (hd : (ops[j]?).bind (·.dst) = some d) (h : a.tmps.getD d undef = undef) : yielded ops a.tmps j = none := by
  unfold yielded
  rw [hd]
  simp only [Option.bind_some]
  rw [Array.getD_eq_getD_getElem?] at h
  cases hc : a.tmps[d]? with
  | none => rfl
  | some c =>
    rw [hc] at h
    simp only [Option.getD_some] at h
    subst h
    rfl

theorem cGuard_some {ops : Array Oper} {g : Option (Nat × Bool)} {r : Option (Nat × Bool)} (h : cGuard ops g = some r) : (g = none ∧ r = none) ∨ ∃ j want d, g = some (j, want) ∧ (ops[j]?).bind (·.dst) = some d ∧ r = some (d, want) := by
  unfold cGuard at h
  split at h
  · cases h; exact .inl ⟨rfl, rfl⟩
  · rename_i j want
    split at h
    · rename_i d hd
      cases h
      exact .inr ⟨j, want, d, rfl, hd, rfl⟩
    · cases h

theorem cOps_cons {P : Program} {ops : Array Oper} {o : Oper} {os : List Oper} {aos : List AOper} (h : cOps P ops (o :: os) = some aos) :
    ∃ ao g r, cOp P o.op = some ao ∧ cGuard ops o.guard = some g ∧ cOps P ops os = some r ∧ aos = { dst := o.dst, op := ao, guard := g } :: r := by
  simp only [cOps, Option.bind_eq_bind, Option.bind_eq_some_iff, Option.pure_def, Option.some.injEq] at h
  obtain ⟨ao, h1, g, h2, r, h3, rfl⟩ := h
  exact ⟨ao, g, r, h1, h2, h3, rfl⟩

theorem seq_sound {P : Program} {ops : Array Oper} {Q : List V → Heap → List (List Nat × List Nat) → Prop} {Q' : Exit → Act → World → Prop} {B0 : Cx} {Hb : Heap} (hdef : ∀ i, kap Hb i → ∃ b, B0.β i = some b)
    (hQ : ∀ S H FW a w, Sim B0 Hb S H a w → Q S H FW → Q' .normal a w) : ∀ (os : List Oper) (aos : List AOper) (k : Nat), cOps P ops os = some aos → (∀ j, j < os.length → ops[k + j]? = os[j]?) →
    ∀ S H FW a w, Sim B0 Hb S H a w → RunOps P Q aos S H FW → wpOps P ops Q' (List.range' k os.length) a w
  | [], aos, k, hc, hj, S, H, FW, a, w, hs, hr => by
    simp only [cOps] at hc; cases hc
    simp only [RunOps] at hr
    simpa [wpOps] using hQ S H FW a w hs hr
  | o :: os, aos, k, hc, hj, S, H, FW, a, w, hs, hr => by
    obtain ⟨ao, g, r, h1, h2, h3, rfl⟩ := cOps_cons hc
    have hk : ops[k]? = some o := by have := hj 0 (by simp); simpa using this
    have hj' : ∀ j, j < os.length → ops[k + 1 + j]? = os[j]? := fun j hlt => by
      have := hj (j + 1) (by simp; omega)
      rw [show k + (j + 1) = k + 1 + j by omega] at this
      simpa using this
    have ih := seq_sound hdef hQ os r (k + 1) h3 hj'
    rw [List.length_cons, List.range'_succ, wpOps_cons]
    unfold wpOp
    rw [hk]
    simp only [RunOps] at hr
    have hrun : ∀ v H' F W, EvOp P S H ao v H' F W → RunOps P Q r (putS S o.dst v) H' (FW ++ [(F, W)]) → o.wp P a w (wpOps P ops Q' (List.range' (k + 1) os.length)) Q' :=
      fun v H' F W he hr => sim_step h1 he hdef hs fun c w' hs' => ih _ _ _ _ _ hs' hr
    rcases cGuard_some h2 with ⟨hg, rfl⟩ | ⟨j, want, d, hg, hd, rfl⟩
    · simp only [] at hr
      obtain ⟨v, H', F, W, he, hr⟩ := hr
      have hw : Region.wanted o (yielded ops a.tmps) = true := by unfold Region.wanted; rw [hg]
      simp only [hw, if_true]
      exact .inl (hrun v H' F W he hr)
    · simp only [] at hr
      have hslot : ∀ x, S.getD d .dead = .sc x → a.tmps.getD d undef = x := fun x hx => by
        obtain ⟨K, _, _, _, _, _, hsl, _⟩ := hs
        have := hsl d
        rw [hx] at this
        simpa [Rep] using this
      rcases hr with ⟨hb, v, H', F, W, he, hr⟩ | ⟨hb, hr⟩
      · have hw : Region.wanted o (yielded ops a.tmps) = true := by
          unfold Region.wanted; rw [hg]
          simp only [yielded_of hd (hslot _ hb)]
          cases want <;> rfl
        simp only [hw, if_true]
        exact .inl (hrun v H' F W he hr)
      · have hw : Region.wanted o (yielded ops a.tmps) = false := by
          unfold Region.wanted; rw [hg]
          rcases hb with hb | hb
          · simp only [yielded_of hd (hslot _ hb)]
            cases want <;> rfl
          · simp only [yielded_undef hd (hslot _ hb)]
            rfl
        simp only [hw, Bool.false_eq_true, if_false]
        exact ih _ _ _ _ _ (sim_skip hs o.dst) hr

/-! ## Regions whose order is drawn -/

def GuardRun (S : List V) (g : Option (Nat × Bool)) : Prop :=
  match g with
  | none => True
  | some (t, want) => S.getD t .dead = .sc (.bool want)

def GuardSkip (S : List V) (g : Option (Nat × Bool)) : Prop :=
  match g with
  | none => False
  | some (t, want) => S.getD t .dead = .sc (.bool (!want)) ∨ S.getD t .dead = .sc undef

/-- The run of a region in the order of its text, step by step. -/
def TStep (P : Program) (Ss : Nat → List V) (Hs : Nat → Heap) (vs : Nat → V) (Fs Ws : Nat → List Nat) (i : Nat) (o : AOper) : Prop :=
  Ss (i + 1) = putS (Ss i) o.dst (vs i) ∧
    ((GuardRun (Ss i) o.guard ∧ EvOp P (Ss i) (Hs i) o.op (vs i) (Hs (i + 1)) (Fs i) (Ws i)) ∨
     (GuardSkip (Ss i) o.guard ∧ vs i = .sc undef ∧ Hs (i + 1) = Hs i ∧ Fs i = [] ∧ Ws i = []))

theorem run_trace {P : Program} {Q : List V → Heap → List (List Nat × List Nat) → Prop} : ∀ (aos : List AOper) (S : List V) (H : Heap) (FW : List (List Nat × List Nat)), RunOps P Q aos S H FW →
    ∃ Ss Hs vs Fs Ws, Ss 0 = S ∧ Hs 0 = H ∧ (∀ i o, aos[i]? = some o → TStep P Ss Hs vs Fs Ws i o) ∧ Q (Ss aos.length) (Hs aos.length) (FW ++ (List.range aos.length).map fun i => (Fs i, Ws i))
  | [], S, H, FW, h => by
    simp only [RunOps] at h
    exact ⟨fun _ => S, fun _ => H, fun _ => .dead, fun _ => [], fun _ => [], rfl, rfl, fun i o ho => by simp at ho, by simpa using h⟩
  | o :: aos, S, H, FW, h => by
    have fin : ∀ (v : V) (H' : Heap) (F W : List Nat), ((GuardRun S o.guard ∧ EvOp P S H o.op v H' F W) ∨ (GuardSkip S o.guard ∧ v = .sc undef ∧ H' = H ∧ F = [] ∧ W = [])) → RunOps P Q aos (putS S o.dst v) H' (FW ++ [(F, W)]) →
        ∃ Ss Hs vs Fs Ws, Ss 0 = S ∧ Hs 0 = H ∧ (∀ i o', (o :: aos)[i]? = some o' → TStep P Ss Hs vs Fs Ws i o') ∧ Q (Ss (o :: aos).length) (Hs (o :: aos).length) (FW ++ (List.range (o :: aos).length).map fun i => (Fs i, Ws i)) := by
      intro v H' F W hst hr
      obtain ⟨Ss, Hs, vs, Fs, Ws, h1, h2, h3, h4⟩ := run_trace aos _ _ _ hr
      refine ⟨fun i => match i with | 0 => S | i + 1 => Ss i, fun i => match i with | 0 => H | i + 1 => Hs i, fun i => match i with | 0 => v | i + 1 => vs i,
        fun i => match i with | 0 => F | i + 1 => Fs i, fun i => match i with | 0 => W | i + 1 => Ws i, rfl, rfl, ?_, ?_⟩
      · intro i o' ho'
        cases i with
        | zero =>
          simp at ho'; subst ho'
          exact ⟨h1, by show (_ ∧ EvOp P S H _ v (Hs 0) F W) ∨ (_ ∧ _ ∧ Hs 0 = H ∧ _); rw [h2]; exact hst⟩
        | succ i => exact h3 i o' (by simpa using ho')
      · simp only [List.length_cons]
        rw [List.range_succ_eq_map]
        simpa [List.map_map, Function.comp_def] using h4
    simp only [RunOps] at h
    cases hg : o.guard with
    | none =>
      rw [hg] at h
      simp only [] at h
      obtain ⟨v, H', F, W, he, hr⟩ := h
      exact fin v H' F W (.inl ⟨by simp [GuardRun, hg], he⟩) hr
    | some q =>
      obtain ⟨t, want⟩ := q
      rw [hg] at h
      simp only [] at h
      rcases h with ⟨hb, v, H', F, W, he, hr⟩ | ⟨hb, hr⟩
      · exact fin v H' F W (.inl ⟨by simp only [GuardRun, hg]; exact hb, he⟩) hr
      · exact fin (.sc undef) H [] [] (.inr ⟨by simp only [GuardSkip, hg]; exact hb, rfl, rfl, rfl, rfl⟩) hr

theorem TStep.facts {P : Program} {Ss : Nat → List V} {Hs : Nat → Heap} {vs : Nat → V} {Fs Ws : Nat → List Nat} {i : Nat} {o : AOper} (h : TStep P Ss Hs vs Fs Ws i o) : EvFacts (Hs i) (Hs (i + 1)) (Fs i) (Ws i) := by
  rcases h.2 with ⟨_, he⟩ | ⟨_, _, h1, h2, h3⟩
  · exact ev_facts he
  · rw [h1, h2, h3]
    exact ⟨Nat.le_refl _, fun _ _ h => h, fun _ _ _ => rfl, (fun i hi => by cases hi), (fun i hi => by cases hi)⟩

/-! Which kinds of operations write, and which look into owned memory. -/

def wrK : AOp → Bool
  | .store _ _ _ => true
  | .append _ _ _ _ => true
  | .copy _ _ _ => true
  | .call _ _ => true
  | .callv _ _ => true
  | _ => false

def ftK : AOp → Bool
  | .load _ _ => true
  | .store _ _ _ => true
  | .mark _ => true
  | .toStr _ => true
  | .sliceArr _ _ _ _ _ => true
  | .append _ _ _ _ => true
  | .copy _ _ _ => true
  | .call _ _ => true
  | .callv _ _ => true
  | _ => false

theorem cOp_wrK {P : Program} {op : Op} {ao : AOp} (hc : cOp P op = some ao) (h : mayWrite op = false) : wrK ao = false := by
  by_cases hop : ∃ c, op = .call c
  · obtain ⟨c, rfl⟩ := hop
    obtain ⟨callee, args, tys⟩ := c
    simp only [cOp, cCall] at hc
    split at hc
    · rename_i b
      unfold cBuiltin at hc
      split at hc
      all_goals (try (simp [mayWrite] at h; done))
      all_goals (repeat' (first | (split at hc) | (simp only [Option.map_eq_some_iff, Option.bind_eq_bind, Option.bind_eq_some_iff, Option.pure_def, Option.some.injEq, reduceCtorEq] at hc) | (obtain ⟨_, _, hc⟩ := hc)))
      all_goals first | rfl | (subst hc; rfl)
    · simp [mayWrite] at h
    · simp [mayWrite] at h
    · cases hc
  · have hop' : ∀ c, op ≠ .call c := fun c h => hop ⟨c, h⟩
    unfold cOp at hc
    split at hc
    all_goals (try (exact absurd rfl (hop' _)))
    all_goals (try (simp [mayWrite] at h; done))
    all_goals (repeat' (first | (split at hc) | (simp only [Option.map_eq_some_iff, Option.bind_eq_bind, Option.bind_eq_some_iff, Option.pure_def, Option.some.injEq, reduceCtorEq, cEqA] at hc) | (obtain ⟨_, _, hc⟩ := hc)))
    all_goals first | rfl | (subst hc; rfl)

theorem cOp_ftK {P : Program} {op : Op} {ao : AOp} (hc : cOp P op = some ao) (h : mayTouch op = false) : ftK ao = false := by
  by_cases hop : ∃ c, op = .call c
  · obtain ⟨c, rfl⟩ := hop
    obtain ⟨callee, args, tys⟩ := c
    simp only [cOp, cCall] at hc
    split at hc
    · rename_i b
      unfold cBuiltin at hc
      split at hc
      all_goals (try (simp [mayTouch] at h; done))
      all_goals (repeat' (first | (split at hc) | (simp only [Option.map_eq_some_iff, Option.bind_eq_bind, Option.bind_eq_some_iff, Option.pure_def, Option.some.injEq, reduceCtorEq] at hc) | (obtain ⟨_, _, hc⟩ := hc)))
      all_goals first | rfl | (subst hc; rfl)
    · simp [mayTouch] at h
    · simp [mayTouch] at h
    · cases hc
  · have hop' : ∀ c, op ≠ .call c := fun c h => hop ⟨c, h⟩
    unfold cOp at hc
    split at hc
    all_goals (try (exact absurd rfl (hop' _)))
    all_goals (try (simp [mayTouch] at h; done))
    all_goals (repeat' (first | (split at hc) | (simp only [Option.map_eq_some_iff, Option.bind_eq_bind, Option.bind_eq_some_iff, Option.pure_def, Option.some.injEq, reduceCtorEq, cEqA] at hc) | (obtain ⟨_, _, hc⟩ := hc)))
    all_goals first | rfl | (subst hc; rfl)

theorem wrK_nil {P : Program} {S : List V} {H : Heap} {ao : AOp} {v : V} {H' : Heap} {F W : List Nat} (he : EvOp P S H ao v H' F W) (h : wrK ao = false) : W = [] := by
  cases ao <;> first | (simp [wrK] at h; done) | (simp only [EvOp] at he; rw [he.2.2]; rfl)

theorem ftK_nil {P : Program} {S : List V} {H : Heap} {ao : AOp} {v : V} {H' : Heap} {F W : List Nat} (he : EvOp P S H ao v H' F W) (h : ftK ao = false) : F = [] := by
  cases ao <;> first | (simp [ftK] at h; done) | (simp only [EvOp] at he; rw [he.2.1]; rfl)

/-! What comes ahead of what. -/

theorem or_fold_bit (f : Edge → Bool) (g : Edge → Nat) : ∀ (es : List Edge) (s : Nat) (i : Nat), (es.foldl (fun s e => if f e then s ||| 2 ^ e.on ||| g e else s) s).testBit i = true →
    s.testBit i = true ∨ ∃ e ∈ es, f e = true ∧ (i = e.on ∨ (g e).testBit i = true)
  | [], s, i, h => .inl h
  | e :: es, s, i, h => by
    simp only [List.foldl_cons] at h
    rcases or_fold_bit f g es _ i h with h | ⟨e', he', h1, h2⟩
    · by_cases hf : f e = true
      · rw [if_pos hf] at h
        simp only [Nat.testBit_or, Bool.or_eq_true, Nat.testBit_two_pow, decide_eq_true_eq] at h
        rcases h with (h | h) | h
        · exact .inl h
        · exact .inr ⟨e, by simp, hf, .inl h.symm⟩
        · exact .inr ⟨e, by simp, hf, .inr h⟩
      · rw [if_neg hf] at h; exact .inl h
    · exact .inr ⟨e', by simp [he'], h1, h2⟩

/-- All that is bound to come ahead of an operation has been done. -/
def Done (l : List Oper) (E : Nat → Prop) (j : Nat) : Prop := ∀ o, l[j]? = some o → ∀ e ∈ o.after.toList, Region.binds .any e = true → E e.on

theorem masks_ok {l : List Oper} {E : Nat → Prop} (hE : ∀ j, E j → Done l E j) : ∀ (os : List Oper) (acc : List Nat), (∀ j, os[j]? = l[acc.length + j]?) →
    (∀ j, j < acc.length → Done l E j → ∀ i, (acc.getD j 0).testBit i = true → E i) → ∀ j, Done l E j → ∀ i, ((masks os acc).getD j 0).testBit i = true → E i
  | [], acc, hos, hacc, j, hj, i, hi => by
    simp only [masks] at hi
    by_cases h : j < acc.length
    · exact hacc j h hj i hi
    · rw [List.getD_eq_getElem?_getD, List.getElem?_eq_none (by omega)] at hi
      simp at hi
  | o :: os, acc, hos, hacc, j, hj, i, hi => by
    simp only [masks] at hi
    refine masks_ok hE os _ ?_ ?_ j hj i hi
    · intro k
      have := hos (k + 1)
      simp only [List.getElem?_cons_succ] at this
      rw [this, List.length_append]
      congr 1; simp; omega
    · intro k hk hdone q hq
      simp only [List.length_append, List.length_cons, List.length_nil] at hk
      by_cases h : k < acc.length
      · rw [List.getD_eq_getElem?_getD, List.getElem?_append_left h, ← List.getD_eq_getElem?_getD] at hq
        exact hacc k h hdone q hq
      · have hkk : k = acc.length := by omega
        subst hkk
        rw [List.getD_eq_getElem?_getD, List.getElem?_append_right (Nat.le_refl _)] at hq
        simp only [Nat.sub_self, List.getElem?_cons_zero, Option.getD_some] at hq
        have ho : l[acc.length]? = some o := by have := hos 0; simpa using this.symm
        rcases or_fold_bit _ (fun e => acc.getD e.on 0) _ _ _ hq with h0 | ⟨e, he, hb, h1⟩
        · simp at h0
        · have hEe := hdone o ho e he hb
          rcases h1 with rfl | h1
          · exact hEe
          · by_cases hlt : e.on < acc.length
            · exact hacc e.on hlt (hE _ hEe) q h1
            · rw [List.getD_eq_getElem?_getD, List.getElem?_eq_none (by omega)] at h1
              simp at h1

theorem bef_ok {l : List Oper} {E : Nat → Prop} (hE : ∀ j, E j → Done l E j) {i j : Nat} (hb : bef (masks l []) i j = true) (hj : Done l E j) : E i :=
  masks_ok hE l [] (by simp) (fun k hk => by simp at hk) j hj i hb

theorem mem_allPairs {n i j : Nat} (hij : i < j) (hj : j < n) : (i, j) ∈ allPairs n := by
  unfold allPairs
  rw [List.mem_flatMap]
  exact ⟨j, List.mem_range.2 hj, List.mem_map.2 ⟨i, List.mem_range.2 hij, rfl⟩⟩

theorem mem_free {l : List Oper} {i j : Nat} (hij : i < j) (hj : j < l.length) (hb : bef (masks l []) i j = false) : (i, j) ∈ freePairs l := by
  unfold freePairs
  rw [List.mem_filter]
  exact ⟨mem_allPairs hij hj, by simp [hb]⟩

theorem disj_spec {a b : List Nat} (h : disj a b = true) : ∀ x ∈ a, x ∉ b := by
  intro x hx hb
  unfold disj at h
  have := List.all_eq_true.1 h x hx
  simp at this
  exact this hb

end Go.Proofs.Ytlahigboaeadmaa.VA
