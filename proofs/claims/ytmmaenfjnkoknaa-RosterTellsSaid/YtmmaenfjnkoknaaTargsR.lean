/- What arguments of some struct types are. -/
import Derived.Test.YtmmaenfjnkoknaaTros
import Derived.Test.YtmmaenfjnkoknaaVC
set_option linter.unusedVariables false
set_option maxRecDepth 100000
namespace Go.Proofs.Ytmmaenfjnkoknaa.VA
open Go
def Ros.ok (x : Ros) : Prop := (Lit.int .u64 x.version).wf = true ∧ (x.members.l.length ≤ maxLen ∧ ∀ y ∈ x.members.l, (Lit.int .i64 y).wf = true)
theorem argT_Ros {n : Nat} {vs : List V} (h : ArgT Try.prog n 44 vs) : ∃ x : Ros, Ros.ok x ∧ vs = cRos x := by
  obtain ⟨m, h⟩ := argT_struct (ts := [42, 22]) (by kernel_rfl) h
  simp only [ArgTs] at h
  obtain ⟨a0, r0, rfl, p0, ⟨a1, r1, rfl, p1, rfl⟩⟩ := h
  obtain ⟨x0, h0, rfl⟩ := argT_int (k := .u64) (by kernel_rfl) p0
  obtain ⟨x1, h1, g1, rfl⟩ := argT_ints (k := .i64) (e := 3) (by kernel_rfl) (by kernel_rfl) p1
  exact ⟨⟨x0, x1⟩, ⟨h0, ⟨h1, g1⟩⟩, by simp [cRos]⟩
def Vot.ok (x : Vot) : Prop := (Lit.int .i64 x.member).wf = true
end Go.Proofs.Ytmmaenfjnkoknaa.VA
