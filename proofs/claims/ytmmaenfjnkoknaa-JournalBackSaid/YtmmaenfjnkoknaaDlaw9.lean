/- FrameChain. -/
import Derived.Test.YtmmaenfjnkoknaaClaw9
import Derived.Test.YtmmaenfjnkoknaaVC
set_option linter.unusedVariables false
set_option linter.unusedSimpArgs false
set_option maxRecDepth 100000
namespace Go.Proofs.Ytmmaenfjnkoknaa.VA
open Go
attribute [local irreducible] WK NK XK TK RK FK CK CFK CallRel C
attribute [local irreducible] putR sealF textF fits recS RightR twoF sumF keepR frameF headF frec
end Go.Proofs.Ytmmaenfjnkoknaa.VA
