/- The compact code of frames. -/
import Derived.Test.YtfpoebmihjbknaaGreatPK
set_option linter.unusedVariables false
set_option maxRecDepth 100000
namespace Go.Proofs.YtfpoebmihjbknaaGreat.VA
open Go
noncomputable section
end
end Go.Proofs.YtfpoebmihjbknaaGreat.VA
