/- Rosters: who comes and goes again; majorities: plain facts. -/
import Derived.Test.YtmmaenfjnkoknaaP2ros
import Derived.Test.YtmmaenfjnkoknaaVC
set_option linter.unusedVariables false
set_option linter.unusedSimpArgs false
set_option maxRecDepth 100000
namespace Go.Proofs.Ytmmaenfjnkoknaa.VA
open Go
attribute [local irreducible] WK NK XK TK RK FK CK CFK CallRel C
theorem andX_nat (a : Int) (c : Nat) (hc : c < 1000) : ∃ n : Nat, n ≤ c ∧ andX a c = (n : Int) ∧ ∀ i, n.testBit i = true → c.testBit i = true := by
  have e : (BitVec.ofInt IntKind.i64.bits (c : Int)).toNat = c := by
    show (BitVec.ofInt 64 (c : Int)).toNat = c
    rw [BitVec.toNat_ofInt]; omega
  refine ⟨(BitVec.ofInt IntKind.i64.bits a).toNat &&& c, Nat.and_le_right, ?_, fun i h => ?_⟩
  · unfold andX
    rw [BitVec.toNat_and, e]
    have : (BitVec.ofInt IntKind.i64.bits a).toNat &&& c ≤ c := Nat.and_le_right
    exact wrap_id _ (by omega) (by omega)
  · rw [Nat.testBit_and, Bool.and_eq_true] at h
    exact h.2
def factB (ms : List Int) (k : Nat) : Bool :=
  decide ((k : Int) ∈ ms) || decide (delF (sortI (ms ++ [(k : Int)])) k = ms) && decide ((k : Int) ∈ sortI (ms ++ [(k : Int)])) && decide ((sortI (ms ++ [(k : Int)])).length = ms.length + 1) &&
    decide (((List.range 8).filter fun (j : Nat) => decide ((j : Int) ∈ ms) != decide ((j : Int) ∈ sortI (ms ++ [(k : Int)]))).length = 1)
set_option maxHeartbeats 4000000 in
theorem factB_all : ((subs 8 0).all fun ms => (List.range 8).all fun k => factB ms k) = true := by decide +kernel
set_option maxHeartbeats 4000000 in
theorem factS_all : ((subs 8 0).all fun ms => (List.range 8).all fun k => decide ((k : Int) ∈ ms) || decide (setV (sortI (ms ++ [(k : Int)])) = orX (setV ms) (shl1 k))) = true := by decide +kernel
theorem fact_set (ms : List Int) (h : okM ms) (k : Nat) (hk : k < 8) (hm : (k : Int) ∉ ms) : setV (sortI (ms ++ [(k : Int)])) = orX (setV ms) (shl1 k) := by
  have h1 := List.all_eq_true.1 (List.all_eq_true.1 factS_all ms (okM_subs ms h)) k (List.mem_range.2 hk)
  simpa only [Bool.or_eq_true, decide_eq_true_eq, hm, false_or] using h1
theorem factB_at (ms : List Int) (h : okM ms) (k : Nat) (hk : k < 8) (hm : (k : Int) ∉ ms) : delF (sortI (ms ++ [(k : Int)])) k = ms ∧ (k : Int) ∈ sortI (ms ++ [(k : Int)]) ∧ (sortI (ms ++ [(k : Int)])).length = ms.length + 1 ∧
    ((List.range 8).filter fun (j : Nat) => decide ((j : Int) ∈ ms) != decide ((j : Int) ∈ sortI (ms ++ [(k : Int)]))).length = 1 := by
  have h1 := List.all_eq_true.1 (List.all_eq_true.1 factB_all ms (okM_subs ms h)) k (List.mem_range.2 hk)
  unfold factB at h1
  simp only [Bool.or_eq_true, Bool.and_eq_true, decide_eq_true_eq, hm, false_or] at h1
  exact ⟨h1.1.1.1, h1.1.1.2, h1.1.2, h1.2⟩
set_option maxHeartbeats 4000000 in
theorem bitsU_all : ((List.range 256).all fun n => decide (n = 0 ∧ bitsU 8 n = []) || (decide (okM (bitsU 8 n)) && decide (setV (bitsU 8 n) = (n : Int)))) = true := by decide +kernel
theorem bitsU_at (n : Nat) (h : n < 256) : (n = 0 ∧ bitsU 8 n = []) ∨ (okM (bitsU 8 n) ∧ setV (bitsU 8 n) = (n : Int)) := by
  have := List.all_eq_true.1 bitsU_all n (List.mem_range.2 h)
  simp only [Bool.or_eq_true, Bool.and_eq_true, decide_eq_true_eq] at this
  exact this
theorem diff_mem (a b : Ros) (ha : RosP a) (hb : RosP b) (ms mt : List Int) (h1 : a.members.l = ms) (h2 : b.members.l = mt) : diffN a b 8 = ((List.range 8).filter fun (j : Nat) => decide ((j : Int) ∈ ms) != decide ((j : Int) ∈ mt)).length := by
  unfold diffN
  congr 1
  apply List.filter_congr
  intro m hm
  have e1 : decide (hasL a (m : Int)) = decide ((m : Int) ∈ ms) := by
    rw [decide_eq_decide]; unfold hasL; rw [h1]; exact ⟨fun h => h.2, fun h => ⟨ha, h⟩⟩
  have e2 : decide (hasL b (m : Int)) = decide ((m : Int) ∈ mt) := by
    rw [decide_eq_decide]; unfold hasL; rw [h2]; exact ⟨fun h => h.2, fun h => ⟨hb, h⟩⟩
  rw [e1, e2]
theorem delF_notin (l : List Int) (q : Int) : q ∉ delF l q := by
  unfold delF; intro h
  rw [List.mem_filter] at h
  simp at h
theorem back_facts (l : Ros) (k : Nat) (hk : k < 8) (hr : RosP l) (hv : l.version ≤ 1000) (hm : (k : Int) ∉ l.members.l) :
    ∃ m n : Ros, withL l k = (m, true) ∧ withoutL m k = (n, true) ∧ n.members.l = l.members.l ∧ n.version = l.version + 2 ∧ folL l m ∧ folL m n ∧ ¬ folL l n ∧ hasL m k ∧ ¬ hasL n k ∧ m.members.l.length = l.members.l.length + 1 ∧ m.members.l.length ≤ 8 ∧ setV m.members.l = orX (setV l.members.l) (shl1 k) ∧ RosP m := by
  obtain ⟨b1, b2, b3⟩ := (rosP_iff l).1 hr
  obtain ⟨f1, f2, f3, f4⟩ := factB_at _ b3 k hk hm
  obtain ⟨g1, g2⟩ := fact_out _ b3 k hk hm
  have hno : ¬ hasL l k := fun h => hm h.2
  have hpm : RosP ⟨l.version + 1, .of (sortI (l.members.l ++ [(k : Int)]))⟩ := (rosP_iff ⟨l.version + 1, .of (sortI (l.members.l ++ [(k : Int)]))⟩).2 ⟨by show 1 ≤ l.version + 1; omega, by show l.version + 1 ≤ 1099511627776; omega, g1⟩
  have hpn : RosP ⟨l.version + 1 + 1, .of (delF (sortI (l.members.l ++ [(k : Int)])) k)⟩ := (rosP_iff ⟨l.version + 1 + 1, .of (delF (sortI (l.members.l ++ [(k : Int)])) k)⟩).2 ⟨by show 1 ≤ l.version + 1 + 1; omega, by show l.version + 1 + 1 ≤ 1099511627776; omega, by show okM (delF (sortI (l.members.l ++ [(k : Int)])) k); rw [f1]; exact b3⟩
  have hhm : hasL ⟨l.version + 1, .of (sortI (l.members.l ++ [(k : Int)]))⟩ k := ⟨hpm, f2⟩
  refine ⟨⟨l.version + 1, .of (sortI (l.members.l ++ [(k : Int)]))⟩, ⟨l.version + 1 + 1, .of (delF (sortI (l.members.l ++ [(k : Int)])) k)⟩, ?_, ?_, f1, ?_, ?_, ?_, ?_, hhm, ?_, f3, ?_, ?_, hpm⟩
  · unfold withL; rw [if_pos ⟨hr, hno⟩, if_pos hpm]
  · unfold withoutL; rw [if_pos hhm]; exact if_pos hpn
  · show l.version + 1 + 1 = _; omega
  · exact ⟨hr, hpm, rfl, by rw [diff_mem _ _ hr hpm _ _ rfl rfl]; exact f4⟩
  · refine ⟨hpm, hpn, rfl, ?_⟩
    rw [diff_mem _ _ hpm hpn (sortI (l.members.l ++ [(k : Int)])) l.members.l rfl f1, ← f4]
    congr 1
    apply List.filter_congr
    intro j _
    exact bne_comm
  · intro h
    have h3 : l.version + 1 + 1 = l.version + 1 := h.2.2.1
    omega
  · intro h
    have : (k : Int) ∈ delF (sortI (l.members.l ++ [(k : Int)])) k := h.2
    exact delF_notin _ _ this
  · exact g1.2.1
  · exact fact_set _ b3 k hk hm
def b01 (b : Bool) : Nat := if b then 1 else 0
def pop8 (n : Nat) : Nat := b01 (n.testBit 0) + b01 (n.testBit 1) + b01 (n.testBit 2) + b01 (n.testBit 3) + b01 (n.testBit 4) + b01 (n.testBit 5) + b01 (n.testBit 6) + b01 (n.testBit 7)
theorem b01_or (a b : Bool) : b01 (a || b) + b01 (a && b) = b01 a + b01 b := by cases a <;> cases b <;> rfl
theorem pop_or (p q : Nat) : pop8 (p ||| q) + pop8 (p &&& q) = pop8 p + pop8 q := by
  unfold pop8
  simp only [Nat.testBit_or, Nat.testBit_and]
  have h := fun i => b01_or (p.testBit i) (q.testBit i)
  have h0 := h 0; have h1 := h 1; have h2 := h 2; have h3 := h 3; have h4 := h 4; have h5 := h 5; have h6 := h 6; have h7 := h 7
  omega
theorem b01_le (a b : Bool) (h : a = true → b = true) : b01 a ≤ b01 b := by cases a <;> cases b <;> simp_all [b01]
theorem pop_le (p q : Nat) (h : ∀ i, p.testBit i = true → q.testBit i = true) : pop8 p ≤ pop8 q := by
  unfold pop8
  have g := fun i => b01_le _ _ (h i)
  have h0 := g 0; have h1 := g 1; have h2 := g 2; have h3 := g 3; have h4 := g 4; have h5 := g 5; have h6 := g 6; have h7 := g 7
  omega
set_option maxHeartbeats 4000000 in
theorem pop_all : ((List.range 256).all fun n => decide (pop8 n = n % 2 + pop8 (n / 2))) = true := by decide +kernel
theorem pop_half (n : Nat) (h : n < 256) : pop8 n = n % 2 + pop8 (n / 2) := of_decide_eq_true (List.all_eq_true.1 pop_all n (List.mem_range.2 h))
set_option maxHeartbeats 4000000 in
theorem popS_all : ((subs 8 0).all fun ms => decide (pop8 (setV ms).toNat = ms.length)) = true := by decide +kernel
theorem pop_set (ms : List Int) (h : okM ms) (s : Nat) (e : setV ms = (s : Int)) : pop8 s = ms.length := by
  have := of_decide_eq_true (List.all_eq_true.1 popS_all ms (okM_subs ms h))
  rwa [e, Int.toNat_natCast] at this
theorem majorities (X Y p q n m : Nat) (hX : pop8 X = n) (hY : pop8 Y = m) (hm : m = n ∨ m = n + 1) (hp : ∀ i, p.testBit i = true → X.testBit i = true) (hq : ∀ i, q.testBit i = true → Y.testBit i = true)
    (hXY : ∀ i, X.testBit i = true → Y.testBit i = true) (h1 : n / 2 + 1 ≤ pop8 p) (h2 : m / 2 + 1 ≤ pop8 q) : ¬ p &&& q = 0 := by
  intro h0
  have e := pop_or p q
  have l := pop_le (p ||| q) Y (fun i hi => by
    rw [Nat.testBit_or, Bool.or_eq_true] at hi
    rcases hi with hi | hi
    · exact hXY i (hp i hi)
    · exact hq i hi)
  rw [h0] at e
  have z : pop8 0 = 0 := by decide
  omega
end Go.Proofs.Ytmmaenfjnkoknaa.VA
