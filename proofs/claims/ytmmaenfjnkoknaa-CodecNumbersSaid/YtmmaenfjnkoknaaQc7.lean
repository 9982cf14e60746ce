/- CodecNumbers: a round. -/
import Derived.Test.YtmmaenfjnkoknaaNlaw6
import Derived.Test.YtmmaenfjnkoknaaVC
set_option linter.unusedVariables false
set_option maxRecDepth 100000
namespace Go.Proofs.Ytmmaenfjnkoknaa.VA
open Go
attribute [local irreducible] WK NK XK TK RK FK CK CFK CallRel C
theorem n6c_7 : stepB O6 400 A_clavigerlaw6_CodecNumbers_L3 (s36 7) h06 (s36 (7 + 1)) h06 = true := by kernel_rfl
end Go.Proofs.Ytmmaenfjnkoknaa.VA
