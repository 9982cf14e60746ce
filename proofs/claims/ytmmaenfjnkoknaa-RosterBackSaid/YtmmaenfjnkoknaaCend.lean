/- Lists are marked, and stood for: the program's and the document's. -/
import Derived.Test.YtmmaenfjnkoknaaCros
import Derived.Test.YtmmaenfjnkoknaaLlaw15
import Derived.Test.YtmmaenfjnkoknaaPB
import Derived.Test.YtmmaenfjnkoknaaPC
import Derived.Test.YtmmaenfjnkoknaaVC
set_option linter.unusedVariables false
set_option linter.unusedSimpArgs false
set_option maxRecDepth 100000
namespace Go.Proofs.Ytmmaenfjnkoknaa.VA
open Go
attribute [local irreducible] WK NK XK TK RK FK CK CFK CallRel C
attribute [local irreducible] RosP
end Go.Proofs.Ytmmaenfjnkoknaa.VA
