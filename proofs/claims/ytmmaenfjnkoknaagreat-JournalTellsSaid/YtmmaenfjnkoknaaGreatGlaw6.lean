/- Layer 6's laws: what their arguments are. -/
import Derived.Test.YtmmaenfjnkoknaaGreatPK
set_option linter.unusedVariables false
namespace Go.Proofs.YtmmaenfjnkoknaaGreat.VA
open Go
theorem kv_gen {x : KV} (h : KV.ok x) : 0 ≤ x.gen := (wf_u64 h.2.2.2.2.2.2.1).1
theorem kr_fine {x : KR} (h : KR.ok x) : x.fine := ⟨(wf_u64 h.2.2.2.1).1, kv_gen h.2.2.2.2.1, h.2.2.2.2.2.1, fun y hy => kv_gen (h.2.2.2.2.2.2 y hy)⟩
end Go.Proofs.YtmmaenfjnkoknaaGreat.VA
