/- Layer 6's laws: what their arguments are. -/
import Derived.Test.YtehinkckdeodhaaPK
set_option linter.unusedVariables false
namespace Go.Proofs.Ytehinkckdeodhaa.VA
open Go
theorem kv_gen {x : KV} (h : KV.ok x) : 0 ≤ x.gen := (wf_u64 h.2.2.2.2.2.2.1).1
theorem kq_num {x : KQ} (h : KQ.ok x) : 0 ≤ x.num := (wf_u64 h.2.2.2.2.2.2.1).1
theorem kr_fine {x : KR} (h : KR.ok x) : x.fine := ⟨(wf_u64 h.2.2.2.1).1, kv_gen h.2.2.2.2.1, h.2.2.2.2.2.1, fun y hy => kv_gen (h.2.2.2.2.2.2 y hy)⟩
theorem req_num {x : Req} (h : Req.ok x) : 0 ≤ x.num := (wf_u64 h.2.2.2.2).1
theorem rpl_num {x : Rpl} (h : Rpl.ok x) : 0 ≤ x.num := (wf_u64 h.2.2.2.2.2).1
theorem rpl_gen {x : Rpl} (h : Rpl.ok x) : 0 ≤ x.gen := (wf_u64 h.2.1).1
theorem rec_epoch {x : Rec} (h : Rec.ok x) : 0 ≤ x.epoch := (wf_u64 h.2.2.2.1).1
end Go.Proofs.Ytehinkckdeodhaa.VA
