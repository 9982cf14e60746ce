/- Rosters: which lists follow one another, as bits. -/
import Derived.Test.YtmmaenfjnkoknaaPros
import Derived.Test.YtmmaenfjnkoknaaVC
set_option linter.unusedVariables false
set_option linter.unusedSimpArgs false
set_option maxRecDepth 100000
namespace Go.Proofs.Ytmmaenfjnkoknaa.VA
open Go
attribute [local irreducible] WK NK XK TK RK FK CK CFK CallRel C
def factG (ms : List Int) : Bool := decide (0 ≤ setV ms ∧ setV ms < 256) && (List.range 8).all fun k => (setV ms).toNat.testBit k == decide ((k : Int) ∈ ms)
set_option maxHeartbeats 4000000 in
theorem factG_all : ((subs 8 0).all factG) = true := by decide +kernel
theorem set_nat (ms : List Int) (h : okM ms) : ∃ s : Nat, s < 256 ∧ setV ms = (s : Int) ∧ ∀ k : Nat, k < 8 → s.testBit k = decide ((k : Int) ∈ ms) := by
  have h1 := List.all_eq_true.1 factG_all ms (okM_subs ms h)
  unfold factG at h1
  simp only [Bool.and_eq_true, decide_eq_true_eq, List.all_eq_true, List.mem_range, beq_iff_eq] at h1
  exact ⟨(setV ms).toNat, by omega, by omega, fun k hk => h1.2 k hk⟩
def xorX (a b : Int) : Int := IntKind.i64.wrap (BitVec.ofInt IntKind.i64.bits a ^^^ BitVec.ofInt IntKind.i64.bits b).toNat
def andX (a b : Int) : Int := IntKind.i64.wrap (BitVec.ofInt IntKind.i64.bits a &&& BitVec.ofInt IntKind.i64.bits b).toNat
theorem ofInt_8 (s : Nat) (h : s < 256) : (BitVec.ofInt IntKind.i64.bits (s : Int)).toNat = s := by
  show (BitVec.ofInt 64 (s : Int)).toNat = s
  rw [BitVec.toNat_ofInt]; omega
theorem xor_nat (s t : Nat) (hs : s < 256) (ht : t < 256) : xorX s t = ((s ^^^ t : Nat) : Int) ∧ s ^^^ t < 256 := by
  have hlt : s ^^^ t < 2 ^ 8 := Nat.xor_lt_two_pow (by omega) (by omega)
  unfold xorX
  rw [BitVec.toNat_xor, ofInt_8 s hs, ofInt_8 t ht]
  exact ⟨wrap_id _ (by omega) (by omega), by omega⟩
def one8 (d : Nat) : Bool := decide (((List.range 8).filter fun m => d.testBit m).length = 1)
set_option maxHeartbeats 4000000 in
theorem pow_all : ((List.range 256).all fun d => (decide (¬ d = 0) && decide (andX d (IntKind.i64.wrap ((d : Int) - 1)) = 0)) == one8 d) = true := by decide +kernel
theorem pow_at (d : Nat) (h : d < 256) : (decide (¬ d = 0) && decide (andX d (IntKind.i64.wrap ((d : Int) - 1)) = 0)) = one8 d := by
  have := List.all_eq_true.1 pow_all d (List.mem_range.2 h)
  exact eq_of_beq this
theorem diff_bits (a b : Ros) (ha : RosP a) (hb : RosP b) (s t : Nat) (h1 : ∀ k : Nat, k < 8 → s.testBit k = decide ((k : Int) ∈ a.members.l)) (h2 : ∀ k : Nat, k < 8 → t.testBit k = decide ((k : Int) ∈ b.members.l)) :
    decide (diffN a b 8 = 1) = one8 (s ^^^ t) := by
  unfold diffN one8
  have : ((List.range 8).filter fun (m : Nat) => decide (hasL a m) != decide (hasL b m)) = (List.range 8).filter fun m => (s ^^^ t).testBit m := by
    apply List.filter_congr
    intro m hm
    have hm := List.mem_range.1 hm
    rw [Nat.testBit_xor, h1 m hm, h2 m hm]
    have e1 : decide (hasL a (m : Int)) = decide ((m : Int) ∈ a.members.l) := by
      rw [decide_eq_decide]; unfold hasL; exact ⟨fun h => h.2, fun h => ⟨ha, h⟩⟩
    have e2 : decide (hasL b (m : Int)) = decide ((m : Int) ∈ b.members.l) := by
      rw [decide_eq_decide]; unfold hasL; exact ⟨fun h => h.2, fun h => ⟨hb, h⟩⟩
    rw [e1, e2]
  rw [this]
theorem fol_bits (a b : Ros) (ha : RosP a) (hb : RosP b) (hv : b.version = a.version + 1) : ∃ d : Nat, d < 256 ∧ xorX (setV a.members.l) (setV b.members.l) = (d : Int) ∧
    decide (folL a b) = (decide (¬ d = 0) && decide (andX d (IntKind.i64.wrap ((d : Int) - 1)) = 0)) := by
  obtain ⟨s, hs, e1, b1⟩ := set_nat _ ((rosP_iff a).1 ha).2.2
  obtain ⟨t, ht, e2, b2⟩ := set_nat _ ((rosP_iff b).1 hb).2.2
  obtain ⟨x1, x2⟩ := xor_nat s t hs ht
  refine ⟨s ^^^ t, x2, by rw [e1, e2]; exact x1, ?_⟩
  rw [pow_at _ x2, ← diff_bits a b ha hb s t b1 b2, decide_eq_decide]
  unfold folL
  exact ⟨fun h => h.2.2.2, fun h => ⟨ha, hb, hv, h⟩⟩
end Go.Proofs.Ytmmaenfjnkoknaa.VA
