/- Votes of bits; layer 15's laws. -/
import Derived.Test.YtmmaenfjnkoknaaDend
import Derived.Test.YtmmaenfjnkoknaaVC
set_option linter.unusedVariables false
set_option linter.unusedSimpArgs false
set_option maxRecDepth 100000
namespace Go.Proofs.Ytmmaenfjnkoknaa.VA
open Go
attribute [local irreducible] WK NK XK TK RK FK CK CFK CallRel C
attribute [local irreducible] RosP majL bitX listF
end Go.Proofs.Ytmmaenfjnkoknaa.VA
