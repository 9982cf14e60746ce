/- Texts of this proof, one behind the other: Tkeep, Lkeep, Lshard3, Tids, Ckeep, Dkeep, Ekeep. -/
import Derived.Test.YtmmaenfjnkoknaaPC
import Derived.Test.YtmmaenfjnkoknaaVC
import Derived.Test.YtmmaenfjnkoknaaPB
/- The cells of some struct types. -/
set_option linter.unusedVariables false
set_option linter.unusedSimpArgs false
set_option maxRecDepth 10000
namespace Go.Proofs.Ytmmaenfjnkoknaa.VA
open Go
structure KV where
  id : Int
  pin : Int
  owner : Int
  limit : Int
  used : Int
  how : Int
  gen : Int
  secret : Row
def KV.zero : KV := ⟨0, 0, 0, 0, 0, 0, 0, .nil⟩
instance : Inhabited KV := ⟨KV.zero⟩
structure KQ where
  op : Int
  id : Int
  pin : Int
  owner : Int
  limit : Int
  client : Int
  num : Int
  secret : Row
def KQ.zero : KQ := ⟨0, 0, 0, 0, 0, 0, 0, .nil⟩
instance : Inhabited KQ := ⟨KQ.zero⟩
structure KR where
  kind : Int
  shard : Int
  to : Int
  epoch : Int
  v : KV
  l : Lst KV
def KR.zero : KR := ⟨0, 0, 0, 0, KV.zero, .nil⟩
instance : Inhabited KR := ⟨KR.zero⟩
set_option linter.defProp false in
def lr_keep := trivial
end Go.Proofs.Ytmmaenfjnkoknaa.VA

/- The compact code of what is drawn. -/
set_option linter.unusedVariables false
set_option maxRecDepth 100000
namespace Go.Proofs.Ytmmaenfjnkoknaa.VA
open Go
noncomputable section
end
end Go.Proofs.Ytmmaenfjnkoknaa.VA

/- The compact code of ShardOf. -/
set_option linter.unusedVariables false
set_option maxRecDepth 100000
namespace Go.Proofs.Ytmmaenfjnkoknaa.VA
open Go
noncomputable section
end
end Go.Proofs.Ytmmaenfjnkoknaa.VA

/- Which owned rows structs name. -/
set_option linter.unusedVariables false
namespace Go.Proofs.Ytmmaenfjnkoknaa.VA
open Go
theorem gVlt_ids (x : Vlt) (s : V) : idsInL (gVlt_secret x s) = idsIn s := gVlt_secret_ids x s
end Go.Proofs.Ytmmaenfjnkoknaa.VA

/- What is drawn: IDs, digests, vaults, requests. -/
set_option linter.unusedVariables false
set_option linter.unusedSimpArgs false
set_option maxRecDepth 100000
namespace Go.Proofs.Ytmmaenfjnkoknaa.VA
open Go
attribute [local irreducible] WK NK XK TK RK FK CK CFK CallRel C
def kd (n : Int) : Bn 16 := (((Bn.zero 16).set 0 (b8 n)).set 1 (b8 (n.fdiv 256))).set 2 3
abbrev c4 : Bn 4 → List V := dg
end Go.Proofs.Ytmmaenfjnkoknaa.VA

/- What is drawn: vaults of a shard, requests, records. -/
set_option linter.unusedVariables false
set_option linter.unusedSimpArgs false
set_option maxRecDepth 100000
namespace Go.Proofs.Ytmmaenfjnkoknaa.VA
open Go
attribute [local irreducible] WK NK XK TK RK FK CK CFK CallRel C
instance : Inhabited (Bn 4) := ⟨Bn.zero 4⟩
end Go.Proofs.Ytmmaenfjnkoknaa.VA

/- What is drawn is right. -/
set_option linter.unusedVariables false
set_option linter.unusedSimpArgs false
set_option maxRecDepth 100000
namespace Go.Proofs.Ytmmaenfjnkoknaa.VA
open Go
attribute [local irreducible] putV
end Go.Proofs.Ytmmaenfjnkoknaa.VA
