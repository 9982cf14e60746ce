/- The compact code of layer 4's laws. -/
import Derived.Test.YtfpoebmihjbknaaGreatVC
set_option linter.unusedVariables false
set_option maxRecDepth 100000
namespace Go.Proofs.YtfpoebmihjbknaaGreat.VA
open Go
noncomputable section
end
end Go.Proofs.YtfpoebmihjbknaaGreat.VA
