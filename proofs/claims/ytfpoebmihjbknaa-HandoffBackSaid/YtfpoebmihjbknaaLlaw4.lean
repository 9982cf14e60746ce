/- The compact code of layer 4's laws. -/
import Derived.Test.YtfpoebmihjbknaaVC
set_option linter.unusedVariables false
set_option maxRecDepth 100000
namespace Go.Proofs.Ytfpoebmihjbknaa.VA
open Go
noncomputable section
end
end Go.Proofs.Ytfpoebmihjbknaa.VA
