/- Numbers out of bytes. -/
import Derived.Test.YtehinkckdeodhaaCbase
import Derived.Test.YtehinkckdeodhaaVC
set_option linter.unusedVariables false
set_option linter.unusedSimpArgs false
namespace Go.Proofs.Ytehinkckdeodhaa.VA
open Go
attribute [local irreducible] WK NK XK TK RK FK CK CFK CallRel C

theorem shl_u64z (yk : IntKind) (x : Int) (h0 : 0 ≤ x) : evBin .shl (.sc (.int .u64 0)) (.sc (.int yk x)) = some (.sc (.int .u64 0)) := by
  rw [bin_shl .u64 yk _ _ h0, Int.zero_mul]; rfl
theorem or64z (b : UInt8) : evBin .or (.sc (.int .u64 0)) (.sc (.int .u64 (b.toNat : Int))) = some (.sc (.int .u64 (b.toNat : Int))) := by
  have hb := b.toNat_lt
  rw [bin_or]
  have e : (BitVec.ofInt IntKind.u64.bits 0 ||| BitVec.ofInt IntKind.u64.bits (b.toNat : Int)).toNat = b.toNat := by
    rw [BitVec.toNat_or, ofInt_nat]
    have h0 : (BitVec.ofInt IntKind.u64.bits 0).toNat = 0 := by decide
    have h1 : (2 : Nat) ^ IntKind.u64.bits = 18446744073709551616 := by decide
    rw [h0, h1, Nat.zero_or, Nat.mod_eq_of_lt (by omega)]
  rw [e, u64_id _ (by omega) (by omega)]
theorem or64 (v : Nat) (b : UInt8) : evBin .or (.sc (.int .u64 ((v * 256 % 18446744073709551616 : Nat) : Int))) (.sc (.int .u64 (b.toNat : Int))) = some (.sc (.int .u64 ((v * 256 % 18446744073709551616 + b.toNat : Nat) : Int))) := by
  have hb := b.toNat_lt
  rw [bin_or]
  have e : (BitVec.ofInt IntKind.u64.bits ((v * 256 % 18446744073709551616 : Nat) : Int) ||| BitVec.ofInt IntKind.u64.bits (b.toNat : Int)).toNat = v * 256 % 18446744073709551616 + b.toNat := by
    rw [BitVec.toNat_or, ofInt_nat, ofInt_nat]
    have h1 : (2 : Nat) ^ IntKind.u64.bits = 18446744073709551616 := by decide
    have h2 : v * 256 % 18446744073709551616 = (v % 72057594037927936) * 2 ^ 8 := by omega
    rw [h1, Nat.mod_mod, Nat.mod_eq_of_lt (show b.toNat < 18446744073709551616 by omega), h2, ← Nat.shiftLeft_eq, Nat.shiftLeft_add_eq_or_of_lt (show b.toNat < 2 ^ 8 by omega)]
  rw [e, u64_id _ (by omega) (by omega)]

/-- A number, the highest byte first. -/
def numB (l : List UInt8) : Nat := l.foldl (fun n b => n * 256 + b.toNat) 0
theorem numB_snoc (l : List UInt8) (b : UInt8) : numB (l ++ [b]) = numB l * 256 + b.toNat := by simp [numB]
theorem numB_lt (l : List UInt8) : numB l < 256 ^ l.length := by
  have key : ∀ (l : List UInt8) (n k : Nat), n < 256 ^ k → l.foldl (fun n b => n * 256 + b.toNat) n < 256 ^ (k + l.length) := by
    intro l
    induction l with
    | nil => intro n k h; simpa using h
    | cons b l ih =>
      intro n k h
      have hb := b.toNat_lt
      have := ih (n * 256 + b.toNat) (k + 1) (by rw [Nat.pow_succ]; omega)
      rw [List.foldl_cons, List.length_cons, show k + (l.length + 1) = k + 1 + l.length by omega]
      exact this
  have := key l 0 0 (by decide)
  simpa [numB] using this
theorem numB_nil : numB [] = 0 := rfl
theorem w64_b (b : UInt8) : IntKind.i64.wrap (b.toNat : Int) = (b.toNat : Int) := by
  have := b.toNat_lt
  exact wrap_id _ (by omega) (by omega)

end Go.Proofs.Ytehinkckdeodhaa.VA
