/- Texts of this proof, one behind the other: Lblend, Lbase, Cbase, Cblend, Dblend, Eblend, Drblend, Rblend, Lconcat, Cconcat. -/
import Derived.Test.YtmmaenfjnkoknaaVC
/- The compact code of the functions that sum up. -/
set_option linter.unusedVariables false
set_option maxRecDepth 100000
namespace Go.Proofs.Ytmmaenfjnkoknaa.VA
open Go
noncomputable section
end
end Go.Proofs.Ytmmaenfjnkoknaa.VA

/- The compact code of Within. -/
set_option linter.unusedVariables false
set_option maxRecDepth 100000
namespace Go.Proofs.Ytmmaenfjnkoknaa.VA
open Go
noncomputable section
end
end Go.Proofs.Ytmmaenfjnkoknaa.VA

/- What Within does. -/
set_option linter.unusedVariables false
set_option linter.unusedSimpArgs false
set_option maxRecDepth 100000
namespace Go.Proofs.Ytmmaenfjnkoknaa.VA
open Go
attribute [local irreducible] WK NK XK TK RK FK CK CFK CallRel C
theorem mixed : Try.prog.follows .mixedOrders = true := by kernel_rfl
end Go.Proofs.Ytmmaenfjnkoknaa.VA

/- What the functions that sum up do: words. -/
set_option linter.unusedVariables false
set_option linter.unusedSimpArgs false
set_option maxRecDepth 100000
namespace Go.Proofs.Ytmmaenfjnkoknaa.VA
open Go
attribute [local irreducible] WK NK XK TK RK FK CK CFK CallRel C
structure W4 where
  a : Nat
  b : Nat
  c : Nat
  d : Nat
end Go.Proofs.Ytmmaenfjnkoknaa.VA

/- Sums. -/
set_option linter.unusedVariables false
set_option linter.unusedSimpArgs false
set_option maxRecDepth 100000
namespace Go.Proofs.Ytmmaenfjnkoknaa.VA
open Go
attribute [local irreducible] WK NK XK TK RK FK CK CFK CallRel C
def w0 : W4 := ⟨1668047222, 1768383858, 1801807216, 1935763045⟩
end Go.Proofs.Ytmmaenfjnkoknaa.VA

/- Keyed sums, streams. -/
set_option linter.unusedVariables false
set_option linter.unusedSimpArgs false
set_option maxRecDepth 100000
namespace Go.Proofs.Ytmmaenfjnkoknaa.VA
open Go
attribute [local irreducible] WK NK XK TK RK FK CK CFK CallRel C
end Go.Proofs.Ytmmaenfjnkoknaa.VA

/- The document's own sums. -/
set_option linter.unusedVariables false
set_option linter.unusedSimpArgs false
set_option maxRecDepth 100000
namespace Go.Proofs.Ytmmaenfjnkoknaa.VA
open Go
attribute [local irreducible] WK NK XK TK RK FK CK CFK CallRel C
def W4.ok (x : W4) : Prop := x.a < 4294967296 ∧ x.b < 4294967296 ∧ x.c < 4294967296 ∧ x.d < 4294967296
end Go.Proofs.Ytmmaenfjnkoknaa.VA

/- The document's own keyed sums and streams. -/
set_option linter.unusedVariables false
set_option linter.unusedSimpArgs false
set_option maxRecDepth 100000
namespace Go.Proofs.Ytmmaenfjnkoknaa.VA
open Go
attribute [local irreducible] WK NK XK TK RK FK CK CFK CallRel C
end Go.Proofs.Ytmmaenfjnkoknaa.VA

/- The compact code of slices.Concat. -/
set_option linter.unusedVariables false
set_option maxRecDepth 100000
namespace Go.Proofs.Ytmmaenfjnkoknaa.VA
open Go
noncomputable section
end
end Go.Proofs.Ytmmaenfjnkoknaa.VA

/- slices.Concat, of rows of bytes. -/
set_option linter.unusedVariables false
set_option linter.unusedSimpArgs false
set_option maxRecDepth 100000
namespace Go.Proofs.Ytmmaenfjnkoknaa.VA
open Go
attribute [local irreducible] WK NK XK TK RK FK CK CFK CallRel C
end Go.Proofs.Ytmmaenfjnkoknaa.VA
