/- Layer 5's laws: what is closed is opened; open, known, EnvelopeBack. -/
import Derived.Test.YtfpoebmihjbknaaGreatLlaw5
import Derived.Test.YtfpoebmihjbknaaGreatDenv
import Derived.Test.YtfpoebmihjbknaaGreatClaw4
import Derived.Test.YtfpoebmihjbknaaGreatVC
set_option linter.unusedVariables false
set_option linter.unusedSimpArgs false
set_option maxRecDepth 100000
namespace Go.Proofs.YtfpoebmihjbknaaGreat.VA
open Go
attribute [local irreducible] WK NK XK TK RK FK CK CFK CallRel C
theorem ofNat_toNat (a : Nat) : (UInt8.ofNat a).toNat = a % 256 := by simp
theorem numB_numF (n : Nat) (hn : n < 18446744073709551616) : numB (numF n) = n := by
  simp only [numB, numF, List.foldl_cons, List.foldl_nil, ofNat_toNat]
  omega
theorem close_take (k : Bn 16) (n : Nat) (to : UInt8) (t : List UInt8) : (closeF k n to t).take 8 = numF n := by
  rw [closeF, List.take_left' (numF_len n)]
theorem close_drop (k : Bn 16) (n : Nat) (to : UInt8) (t : List UInt8) : (closeF k n to t).drop 8 = sealF (innerF k n) n [to] t := by
  rw [closeF, List.drop_left' (numF_len n)]
theorem close_num (k : Bn 16) (n : Nat) (hn : n < 18446744073709551616) (to : UInt8) (t : List UInt8) : numB ((closeF k n to t).take 8) = n := by
  rw [close_take, numB_numF n hn]
theorem close_lkey (k : Bn 16) (n : Nat) (hn : n < 18446744073709551616) (to : UInt8) (t : List UInt8) : lkey k (closeF k n to t) = innerF k n := by
  rw [lkey, close_num k n hn]
theorem close_fits (k : Bn 16) (n : Nat) (hn : n < 18446744073709551616) (to : UInt8) (t : List UInt8) (h : t.length ≤ 8176) : lfits k to (closeF k n to t) := by
  rw [lfits, close_lkey k n hn, close_num k n hn, close_drop]
  exact seal_fits _ _ _ _ (by omega) (by simp)
theorem close_text (k : Bn 16) (n : Nat) (hn : n < 18446744073709551616) (to : UInt8) (t : List UInt8) (h : t.length ≤ 8176) : (openV (lkey k (closeF k n to t)) (numB ((closeF k n to t).take 8)) ((closeF k n to t).drop 8)).l = t := by
  rw [openV_l, close_lkey k n hn, close_num k n hn, close_drop]
  exact seal_text _ _ _ _ (by omega)
theorem opened_C (k : Bn 16) (n : Nat) (hn : n < 18446744073709551616) (to : UInt8) (t : List UInt8) (h : t.length ≤ 8176) (b : Row) (hb : b.l = closeF k n to t) :
    ∃ r : Row, r.l = t ∧ C Tryz.prog 49 [.agg (dg k), vi .u8 (to.toNat : Int), rowV b] [] (.tup [rowV r, vi .i64 0]) [] := by
  have cl := close_len k n to t (by omega)
  have og := openGood_C k to b (by rw [hb, cl]; omega) (by rw [hb, cl]; omega) (by rw [hb]; exact close_fits k n hn to t h)
  refine ⟨_, ?_, og⟩
  rw [hb]; exact close_text k n hn to t h
attribute [local irreducible] sealF hidF markF textF keyedF twoF streamF sumF closeF innerF numF
end Go.Proofs.YtfpoebmihjbknaaGreat.VA
