/- Rosters: the laws' plain facts, no program in sight. -/
import Derived.Test.YtmmaenfjnkoknaaHros
import Derived.Test.YtmmaenfjnkoknaaVC
set_option linter.unusedVariables false
set_option linter.unusedSimpArgs false
set_option maxRecDepth 100000
namespace Go.Proofs.Ytmmaenfjnkoknaa.VA
open Go
attribute [local irreducible] WK NK XK TK RK FK CK CFK CallRel C
def okM (l : List Int) : Prop := 1 ≤ l.length ∧ l.length ≤ 8 ∧ ∀ i, i < l.length → 0 ≤ l.getD i 0 ∧ l.getD i 0 < 8 ∧ (0 < i → l.getD (i - 1) 0 < l.getD i 0)
instance (l : List Int) : Decidable (okM l) := by unfold okM; infer_instance
theorem rosP_iff (l : Ros) : RosP l ↔ 1 ≤ l.version ∧ l.version ≤ 1099511627776 ∧ okM l.members.l := by
  unfold RosP okM; exact Iff.rfl
def subs : Nat → Nat → List (List Int)
  | 0, _ => [[]]
  | n + 1, a => subs n (a + 1) ++ (subs n (a + 1)).map ((a : Int) :: ·)
theorem nil_subs : ∀ n a, [] ∈ subs n a
  | 0, _ => by simp [subs]
  | n + 1, a => by simp only [subs, List.mem_append]; exact .inl (nil_subs n (a + 1))
theorem mem_subs : ∀ (n a : Nat) (l : List Int), a + n = 8 → (∀ i, i < l.length → (a : Int) ≤ l.getD i 0 ∧ l.getD i 0 < 8 ∧ (0 < i → l.getD (i - 1) 0 < l.getD i 0)) → l ∈ subs n a
  | 0, a, l, ha, h => by
    cases l with
    | nil => simp [subs]
    | cons x t => have := h 0 (by simp); simp at this; omega
  | n + 1, a, l, ha, h => by
    cases l with
    | nil => exact nil_subs _ _
    | cons x t =>
      have hx := h 0 (by simp)
      simp only [List.getD_cons_zero] at hx
      have hup : ∀ i, i < (x :: t).length → x + i ≤ (x :: t).getD i 0 := by
        intro i
        induction i with
        | zero => intro _; simp
        | succ i ih =>
          intro hi
          have h1 := ih (by omega)
          have h2 := (h (i + 1) hi).2.2 (by omega)
          simp only [Nat.add_sub_cancel] at h2
          omega
      simp only [subs, List.mem_append, List.mem_map]
      by_cases hxa : x = a
      · refine .inr ⟨t, mem_subs n (a + 1) t (by omega) fun i hi => ?_, by rw [hxa]⟩
        have h3 := hup (i + 1) (by simp; omega)
        have h4 := h (i + 1) (by simp; omega)
        simp only [List.getD_cons_succ] at h3 h4
        refine ⟨by omega, h4.2.1, fun h0 => ?_⟩
        have := h4.2.2 (by omega)
        obtain ⟨j, rfl⟩ : ∃ j, i = j + 1 := ⟨i - 1, by omega⟩
        simpa using this
      · refine .inl (mem_subs n (a + 1) (x :: t) (by omega) fun i hi => ?_)
        have h3 := hup i hi
        have h4 := h i hi
        exact ⟨by omega, h4.2.1, h4.2.2⟩
theorem okM_subs (l : List Int) (h : okM l) : l ∈ subs 8 0 := mem_subs 8 0 l rfl h.2.2
def anX (a b : Int) : Int := IntKind.i64.wrap (BitVec.ofInt IntKind.i64.bits a &&& ~~~ BitVec.ofInt IntKind.i64.bits b).toNat
theorem anX_e (a b : Int) : evBin .andNot (.sc (.int .i64 a)) (.sc (.int .i64 b)) = some (.sc (.int .i64 (anX a b))) := by simp [evBin, binOp, Op.intBits, pureV, pure, anX]
def factF (ms : List Int) (k : Nat) : Bool :=
  decide (bitX (setV ms) k = if (k : Int) ∈ ms then 1 else 0) &&
  (if (k : Int) ∈ ms then (decide (ms.length = 1) && decide (delF ms k = []) || decide (1 < ms.length) && decide (okM (delF ms k)) && decide (delF ms k = bitsU 8 (anX (setV ms) (shl1 k))))
   else decide (okM (sortI (ms ++ [(k : Int)]))) && decide (sortI (ms ++ [(k : Int)]) = bitsU 8 (orX (setV ms) (shl1 k))))
set_option maxHeartbeats 4000000 in
theorem fact_all : ((subs 8 0).all fun ms => (List.range 8).all fun k => factF ms k) = true := by decide +kernel
theorem fact_at (ms : List Int) (h : okM ms) (k : Nat) (hk : k < 8) : factF ms k = true := by
  have h1 := List.all_eq_true.1 fact_all ms (okM_subs ms h)
  exact List.all_eq_true.1 h1 k (List.mem_range.2 hk)
theorem fact_bit (ms : List Int) (h : okM ms) (k : Nat) (hk : k < 8) : bitX (setV ms) k = if (k : Int) ∈ ms then 1 else 0 := by
  have := fact_at ms h k hk
  unfold factF at this
  simp only [Bool.and_eq_true, decide_eq_true_eq] at this
  exact this.1
theorem fact_in (ms : List Int) (h : okM ms) (k : Nat) (hk : k < 8) (hm : (k : Int) ∈ ms) : (ms.length = 1 ∧ delF ms k = []) ∨ (1 < ms.length ∧ okM (delF ms k) ∧ delF ms k = bitsU 8 (anX (setV ms) (shl1 k))) := by
  have := fact_at ms h k hk
  unfold factF at this
  simp only [Bool.and_eq_true, decide_eq_true_eq, if_pos hm, Bool.or_eq_true] at this
  rcases this.2 with h | h
  · exact .inl h
  · exact .inr ⟨h.1.1, h.1.2, h.2⟩
theorem fact_out (ms : List Int) (h : okM ms) (k : Nat) (hk : k < 8) (hm : (k : Int) ∉ ms) : okM (sortI (ms ++ [(k : Int)])) ∧ sortI (ms ++ [(k : Int)]) = bitsU 8 (orX (setV ms) (shl1 k)) := by
  have := fact_at ms h k hk
  unfold factF at this
  simp only [Bool.and_eq_true, decide_eq_true_eq, if_neg hm] at this
  exact this.2
theorem swp_mem (l : List Int) (i j : Nat) (hi : i < l.length) (hj : j < l.length) (x : Int) (h : x ∈ l) : x ∈ swp l i j := by
  obtain ⟨p, hp, rfl⟩ := List.mem_iff_getElem.1 h
  have gi : l.getD i 0 = l[i] := by rw [List.getD_eq_getElem?_getD, List.getElem?_eq_getElem hi]; rfl
  have gj : l.getD j 0 = l[j] := by rw [List.getD_eq_getElem?_getD, List.getElem?_eq_getElem hj]; rfl
  unfold swp
  rw [gi, gj]
  by_cases h1 : p = i
  · subst h1
    exact List.mem_iff_getElem.2 ⟨j, by simpa using hj, by simp⟩
  by_cases h2 : p = j
  · subst h2
    refine List.mem_iff_getElem.2 ⟨i, by simpa using hi, ?_⟩
    rw [List.getElem_set_ne (Ne.symm (Ne.symm h1)), List.getElem_set_self]
  · refine List.mem_iff_getElem.2 ⟨p, by simpa using hp, ?_⟩
    rw [List.getElem_set_ne (Ne.symm h2), List.getElem_set_ne (Ne.symm h1)]
theorem sink_mem : ∀ (j : Nat) (l : List Int), j < l.length → ∀ x, x ∈ l → x ∈ sink j l
  | 0, l, _, x, h => h
  | j + 1, l, hj, x, h => by
    unfold sink
    split
    · exact sink_mem j _ (by rw [swp_len]; omega) x (swp_mem l (j + 1) j hj (by omega) x h)
    · exact h
theorem sortUp_mem (l : List Int) : ∀ i, i ≤ l.length → ∀ x, x ∈ l → x ∈ sortUp i l
  | 0, _, x, h => h
  | i + 1, hi, x, h => by
    rw [sortUp]
    exact sink_mem i _ (by rw [sortUp_len]; omega) x (sortUp_mem l i (by omega) x h)
theorem sortI_mem (l : List Int) (x : Int) (h : x ∈ l) : x ∈ sortI l := sortUp_mem l _ (Nat.le_refl _) x h
theorem okM_range (l : List Int) (h : okM l) (x : Int) (hx : x ∈ l) : 0 ≤ x ∧ x < 8 := by
  obtain ⟨p, hp, rfl⟩ := List.mem_iff_getElem.1 hx
  have := h.2.2 p hp
  rw [List.getD_eq_getElem?_getD, List.getElem?_eq_getElem hp] at this
  exact ⟨this.1, this.2.1⟩
theorem with_far (l : Ros) (hr : RosP l) (k : Int) (hk : k < 0 ∨ 8 ≤ k) : withL l k = (Ros.zero, false) ∧ withoutL l k = (Ros.zero, false) ∧ ¬ hasL l k := by
  have hm := ((rosP_iff l).1 hr).2.2
  have hno : ¬ hasL l k := fun h => by have := okM_range _ hm k h.2; omega
  refine ⟨?_, ?_, hno⟩
  · unfold withL
    rw [if_pos ⟨hr, hno⟩, if_neg]
    intro hp
    have h2 := ((rosP_iff _).1 hp).2.2
    have := okM_range _ h2 k (sortI_mem _ k (by simp))
    omega
  · unfold withoutL; rw [if_neg hno]
theorem with_bad (l : Ros) (hr : ¬ RosP l) (k : Int) : withL l k = (Ros.zero, false) ∧ withoutL l k = (Ros.zero, false) ∧ ¬ hasL l k := by
  have hno : ¬ hasL l k := fun h => hr h.1
  refine ⟨?_, ?_, hno⟩
  · unfold withL; rw [if_neg fun h => hr h.1]
  · unfold withoutL; rw [if_neg hno]
def nextR (l : Ros) (ms : List Int) : Ros := ⟨l.version + 1, .of ms⟩
theorem with_near (l : Ros) (hr : RosP l) (k : Nat) (hk : k < 8) (hm : (k : Int) ∉ l.members.l) :
    withL l k = (if l.version < 1099511627776 then (nextR l (bitsU 8 (orX (setV l.members.l) (shl1 k))), true) else (Ros.zero, false)) ∧ withoutL l k = (Ros.zero, false) ∧ ¬ hasL l k ∧ bitX (setV l.members.l) k = 0 := by
  obtain ⟨h1, h2, h3⟩ := (rosP_iff l).1 hr
  obtain ⟨f1, f2⟩ := fact_out _ h3 k hk hm
  have f3 := fact_bit _ h3 k hk
  rw [if_neg hm] at f3
  have hno : ¬ hasL l k := fun h => hm h.2
  refine ⟨?_, by unfold withoutL; rw [if_neg hno], hno, f3⟩
  unfold withL
  rw [if_pos ⟨hr, hno⟩]
  by_cases hv : l.version < 1099511627776
  · have hp : RosP ⟨l.version + 1, .of (sortI (l.members.l ++ [(k : Int)]))⟩ := (rosP_iff ⟨l.version + 1, .of (sortI (l.members.l ++ [(k : Int)]))⟩).2 ⟨by show 1 ≤ l.version + 1; omega, by show l.version + 1 ≤ 1099511627776; omega, f1⟩
    rw [if_pos hv, if_pos hp, f2]; rfl
  · have hp : ¬ RosP ⟨l.version + 1, .of (sortI (l.members.l ++ [(k : Int)]))⟩ := fun hp => by
      have : l.version + 1 ≤ 1099511627776 := ((rosP_iff _).1 hp).2.1
      omega
    rw [if_neg hv, if_neg hp]
theorem without_near (l : Ros) (hr : RosP l) (k : Nat) (hk : k < 8) (hm : (k : Int) ∈ l.members.l) :
    withoutL l k = (if 1 < l.members.l.length ∧ l.version < 1099511627776 then (nextR l (bitsU 8 (anX (setV l.members.l) (shl1 k))), true) else (Ros.zero, false)) ∧ withL l k = (Ros.zero, false) ∧ hasL l k ∧ bitX (setV l.members.l) k = 1 := by
  obtain ⟨h1, h2, h3⟩ := (rosP_iff l).1 hr
  have f3 := fact_bit _ h3 k hk
  rw [if_pos hm] at f3
  have hyes : hasL l k := ⟨hr, hm⟩
  refine ⟨?_, by unfold withL; rw [if_neg fun h => h.2 hyes], hyes, f3⟩
  unfold withoutL
  rw [if_pos hyes]
  rcases fact_in _ h3 k hk hm with ⟨f1, f2⟩ | ⟨f0, f1, f2⟩
  · have hp : ¬ RosP ⟨l.version + 1, .of (delF l.members.l k)⟩ := fun hp => by
      have : 1 ≤ (delF l.members.l k).length := ((rosP_iff _).1 hp).2.2.1
      rw [f2] at this
      simp at this
    have hc : ¬ (1 < l.members.l.length ∧ l.version < 1099511627776) := fun h => by omega
    rw [if_neg hp, if_neg hc]
  · by_cases hv : l.version < 1099511627776
    · have hp : RosP ⟨l.version + 1, .of (delF l.members.l k)⟩ := (rosP_iff ⟨l.version + 1, .of (delF l.members.l k)⟩).2 ⟨by show 1 ≤ l.version + 1; omega, by show l.version + 1 ≤ 1099511627776; omega, f1⟩
      have hc : 1 < l.members.l.length ∧ l.version < 1099511627776 := ⟨f0, hv⟩
      rw [if_pos hc, if_pos hp, f2]; rfl
    · have hp : ¬ RosP ⟨l.version + 1, .of (delF l.members.l k)⟩ := fun hp => by
        have : l.version + 1 ≤ 1099511627776 := ((rosP_iff _).1 hp).2.1
        omega
      have hc : ¬ (1 < l.members.l.length ∧ l.version < 1099511627776) := fun h => hv h.2
      rw [if_neg hp, if_neg hc]
end Go.Proofs.Ytmmaenfjnkoknaa.VA
