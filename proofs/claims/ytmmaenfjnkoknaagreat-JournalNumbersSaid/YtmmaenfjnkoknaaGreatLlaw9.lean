/- The compact code of layer 9's laws. -/
import Derived.Test.YtmmaenfjnkoknaaGreatPK
set_option linter.unusedVariables false
set_option maxRecDepth 100000
namespace Go.Proofs.YtmmaenfjnkoknaaGreat.VA
open Go
noncomputable section
end
end Go.Proofs.YtmmaenfjnkoknaaGreat.VA
