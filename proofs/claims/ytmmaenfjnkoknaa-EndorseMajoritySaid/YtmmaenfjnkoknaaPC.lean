/- Texts of this proof, one behind the other: Tapi, Lcodec, Ccodec, Dcodec, Ecodec. -/
import Derived.Test.YtmmaenfjnkoknaaVC
import Derived.Test.YtmmaenfjnkoknaaPB
/- The cells of some struct types. -/
set_option linter.unusedVariables false
set_option linter.unusedSimpArgs false
set_option maxRecDepth 10000
namespace Go.Proofs.Ytmmaenfjnkoknaa.VA
open Go
structure Vlt where
  id : Bn 4
  gen : Int
  pin : Bn 16
  secret : Row
  limit : Int
  used : Int
  owner : Bn 16
  gone : Bool
  wiped : Bool
def Vlt.zero : Vlt := ⟨Bn.zero 4, 0, Bn.zero 16, .nil, 0, 0, Bn.zero 16, false, false⟩
instance : Inhabited Vlt := ⟨Vlt.zero⟩
structure Req where
  op : Int
  id : Bn 4
  pin : Bn 16
  secret : Row
  limit : Int
  owner : Bn 16
  key : Bn 16
  client : Int
  num : Int
def Req.zero : Req := ⟨0, Bn.zero 4, Bn.zero 16, .nil, 0, Bn.zero 16, Bn.zero 16, 0, 0⟩
instance : Inhabited Req := ⟨Req.zero⟩
structure Rpl where
  why : Int
  id : Bn 4
  gen : Int
  left : Int
  secret : Row
  client : Int
  num : Int
def Rpl.zero : Rpl := ⟨0, Bn.zero 4, 0, 0, .nil, 0, 0⟩
instance : Inhabited Rpl := ⟨Rpl.zero⟩
structure Rec where
  kind : Int
  shard : Int
  to : Int
  epoch : Int
  vault : Vlt
  vaults : Lst Vlt
def Rec.zero : Rec := ⟨0, 0, 0, 0, Vlt.zero, .nil⟩
instance : Inhabited Rec := ⟨Rec.zero⟩
structure Rd where
  b : Row
  bad : Bool
def Rd.zero : Rd := ⟨.nil, false⟩
instance : Inhabited Rd := ⟨Rd.zero⟩
end Go.Proofs.Ytmmaenfjnkoknaa.VA

/- The compact code of codec. -/
set_option linter.unusedVariables false
set_option maxRecDepth 100000
namespace Go.Proofs.Ytmmaenfjnkoknaa.VA
open Go
noncomputable section
end
end Go.Proofs.Ytmmaenfjnkoknaa.VA

/- Values that are right: the program's. -/
set_option linter.unusedVariables false
set_option linter.unusedSimpArgs false
set_option maxRecDepth 100000
namespace Go.Proofs.Ytmmaenfjnkoknaa.VA
open Go
attribute [local irreducible] WK NK XK TK RK FK CK CFK CallRel C
end Go.Proofs.Ytmmaenfjnkoknaa.VA

/- Vaults, requests, replies, records are written: the program's. -/
set_option linter.unusedVariables false
set_option linter.unusedSimpArgs false
set_option maxRecDepth 100000
namespace Go.Proofs.Ytmmaenfjnkoknaa.VA
open Go
attribute [local irreducible] WK NK XK TK RK FK CK CFK CallRel C
def b8 (i : Int) : UInt8 := by8 (IntKind.u8.wrap i)
end Go.Proofs.Ytmmaenfjnkoknaa.VA

/- Vaults, requests, replies, records are written: the program's exported functions. -/
set_option linter.unusedVariables false
set_option linter.unusedSimpArgs false
set_option maxRecDepth 100000
namespace Go.Proofs.Ytmmaenfjnkoknaa.VA
open Go
attribute [local irreducible] WK NK XK TK RK FK CK CFK CallRel C
theorem take_snoc {α : Type} [Inhabited α] (l : List α) (i : Nat) (h : i < l.length) : l.take (i + 1) = l.take i ++ [l.getD i default] := by
  rw [List.take_add_one]; simp [List.getElem?_eq_getElem h]
end Go.Proofs.Ytmmaenfjnkoknaa.VA
