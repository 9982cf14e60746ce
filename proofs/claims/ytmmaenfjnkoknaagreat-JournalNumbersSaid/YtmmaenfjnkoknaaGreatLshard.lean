/- The compact code of the shards' functions. -/
import Derived.Test.YtmmaenfjnkoknaaGreatVC
set_option linter.unusedVariables false
set_option maxRecDepth 100000
namespace Go.Proofs.YtmmaenfjnkoknaaGreat.VA
open Go
noncomputable section
end
end Go.Proofs.YtmmaenfjnkoknaaGreat.VA
