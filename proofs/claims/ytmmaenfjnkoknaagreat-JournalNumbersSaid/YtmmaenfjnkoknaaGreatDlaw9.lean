/- FrameChain. -/
import Derived.Test.YtmmaenfjnkoknaaGreatClaw9
import Derived.Test.YtmmaenfjnkoknaaGreatVC
set_option linter.unusedVariables false
set_option linter.unusedSimpArgs false
set_option maxRecDepth 100000
namespace Go.Proofs.YtmmaenfjnkoknaaGreat.VA
open Go
attribute [local irreducible] WK NK XK TK RK FK CK CFK CallRel C
attribute [local irreducible] putR sealF textF fits recS RightR twoF sumF keepR frameF headF frec
end Go.Proofs.YtmmaenfjnkoknaaGreat.VA
