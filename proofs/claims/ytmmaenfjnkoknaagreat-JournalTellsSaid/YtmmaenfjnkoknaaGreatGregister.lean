/- What arguments of some struct types are. -/
import Derived.Test.YtmmaenfjnkoknaaGreatTregister
import Derived.Test.YtmmaenfjnkoknaaGreatVC
set_option linter.unusedVariables false
set_option maxRecDepth 100000
namespace Go.Proofs.YtmmaenfjnkoknaaGreat.VA
open Go
def Rgr.ok (x : Rgr) : Prop := (Lit.int .u64 x.boot).wf = true ∧ (Lit.int .u64 x.count).wf = true ∧ (Lit.int .u64 x.base).wf = true ∧ (Lit.int .i64 x.point).wf = true
theorem argT_Rgr {n : Nat} {vs : List V} (h : ArgT Tryz.prog n 32 vs) : ∃ x : Rgr, Rgr.ok x ∧ vs = cRgr x := by
  obtain ⟨m, h⟩ := argT_struct (ts := [30, 30, 30, 23, 3]) (by kernel_rfl) h
  simp only [ArgTs] at h
  obtain ⟨a0, r0, rfl, p0, ⟨a1, r1, rfl, p1, ⟨a2, r2, rfl, p2, ⟨a3, r3, rfl, p3, ⟨a4, r4, rfl, p4, rfl⟩⟩⟩⟩⟩ := h
  obtain ⟨x0, h0, rfl⟩ := argT_int (k := .u64) (by kernel_rfl) p0
  obtain ⟨x1, h1, rfl⟩ := argT_int (k := .u64) (by kernel_rfl) p1
  obtain ⟨x2, h2, rfl⟩ := argT_int (k := .u64) (by kernel_rfl) p2
  obtain ⟨x3, rfl⟩ := argT_bn (m := 16) (e := 5) (by kernel_rfl) (by kernel_rfl) p3
  obtain ⟨x4, h4, rfl⟩ := argT_int (k := .i64) (by kernel_rfl) p4
  exact ⟨⟨x0, x1, x2, x3, x4⟩, ⟨h0, h1, h2, h4⟩, by simp [cRgr]⟩
end Go.Proofs.YtmmaenfjnkoknaaGreat.VA
