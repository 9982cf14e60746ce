/- The compact code of layer 9's laws. -/
import Derived.Test.YtmmaenfjnkoknaaPK
set_option linter.unusedVariables false
set_option maxRecDepth 100000
namespace Go.Proofs.Ytmmaenfjnkoknaa.VA
open Go
noncomputable section
end
end Go.Proofs.Ytmmaenfjnkoknaa.VA
