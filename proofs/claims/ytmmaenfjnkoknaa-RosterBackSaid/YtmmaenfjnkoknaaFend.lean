/- Layer 15: adopt gives a new row; known; EndorseNumbers. -/
import Derived.Test.YtmmaenfjnkoknaaEend
import Derived.Test.YtmmaenfjnkoknaaVC
set_option linter.unusedVariables false
set_option linter.unusedSimpArgs false
set_option maxRecDepth 100000
namespace Go.Proofs.Ytmmaenfjnkoknaa.VA
open Go
attribute [local irreducible] WK NK XK TK RK FK CK CFK CallRel C
attribute [local irreducible] RosP majL bitX listF
@[simp] theorem gRos_ids (x : Ros) (s : V) : idsInL (gRos_members x s) = idsIn s := gRos_members_ids x s
theorem call_inA {P : Program} {f : Nat} {args' : List V} {n sz : Nat} {x x0 : V} {out : List V} (hC : C P f args' [] (.tup [.agg [x0, .sref 0 0 n sz], x]) [some out]) {H : Heap} {args : List V} (hbs : ∀ id ∈ idsInL args, ∃ cells, blkAt H id = some cells)
    (hrel : ArgRelL H [] (idsInL args) args args') (hx : Closed x) (hrx : NoRO x) (hc : ClosedL out) (hro : NoROL out) (hx0 : Closed x0 := by exact cl) (hr0 : NoRO x0 := by first | exact nr | trivial) : CallRel P f H args (.tup [.agg [x0, .sref H.length 0 n sz], x]) (H ++ [some out]) (idsInL args) [] := by
  have := call_in hC (H := H) _ (fun id h => ⟨h, hbs id h⟩) hrel (fun _ => ⟨⟨⟨hr0, trivial, trivial⟩, hrx, trivial⟩, fun i cs h => by
    cases i with
    | zero => simp at h; subst h; exact hro
    | succ i => simp at h⟩)
  simpa [renV, renL, renL_closed _ out hc, renV_closed _ x hx, renV_closed _ x0 hx0] using this
theorem out_rowA2 {H : Heap} {id n sz : Nat} {x x0 : V} {cells : List V} (hb : blkAt H id = some cells) (hx : Closed x) (hx0 : Closed x0) (hc : ClosedL cells) : OutOK 0 H (.tup [.agg [x0, .sref id 0 n sz], x]) (.tup [.agg [x0, .sref 0 0 n sz], x]) [some cells] := by
  refine ⟨[id], [], by simp, rfl, Nat.zero_le _, fun k h => by omega, (fun _ h => by cases h), ?_, fun k c h => ?_⟩
  · simp only [ArgRel]
    refine ⟨_, rfl, ?_⟩
    simp only [ArgRelL]
    refine ⟨_, _, rfl, ?_, _, _, rfl, arg_closed x hx, rfl⟩
    simp only [ArgRel]
    refine ⟨_, rfl, ?_⟩
    simp only [ArgRelL]
    refine ⟨_, _, rfl, arg_closed x0 hx0, _, _, rfl, ?_, rfl⟩
    simp only [ArgRel]
    exact .inl ⟨0, rfl, rfl⟩
  · cases k with
    | zero => simp at h; subst h; exact ⟨id, cells, rfl, hb, argL_closed cells hc⟩
    | succ k => simp at h
instance (a b : Vot) : ClL (cVot a ++ cVot b) := ⟨closedL_app (cVot_closed a) (cVot_closed b)⟩
theorem nrl_ints (k : IntKind) : ∀ l : List Int, NoROL (l.map (vi k))
  | [] => trivial
  | _ :: l => ⟨trivial, nrl_ints k l⟩
instance (k : IntKind) (l : List Int) : NrL (l.map (vi k)) := ⟨nrl_ints k l⟩
end Go.Proofs.Ytmmaenfjnkoknaa.VA
