/- Layer 6's laws: what their arguments are. -/
import Derived.Test.YtfpoebmihjbknaaPK
set_option linter.unusedVariables false
namespace Go.Proofs.Ytfpoebmihjbknaa.VA
open Go
theorem kv_gen {x : KV} (h : KV.ok x) : 0 ≤ x.gen := (wf_u64 h.2.2.2.2.2.2.1).1
end Go.Proofs.Ytfpoebmihjbknaa.VA
