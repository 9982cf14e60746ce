/- The row of BlendNumber: whatever the arguments, the law answers true, and its arguments read as they did. -/
import Derived.Test.YtlahigboaeadmaaMlaw2
import Derived.Test.YtlahigboaeadmaaV24
import Derived.ChangeOld
set_option linter.unusedVariables false
set_option maxRecDepth 100000
namespace Go.Proofs.Ytlahigboaeadmaa.rowBlendNumber
open Go Go.ChangeShapes Go.WideShapes Go.ChangeAt Go.RowKit Go.Proofs.Ytlahigboaeadmaa.VA

theorem own : ownKnob Try.prog.godebug = none := by kernel_rfl
theorem laidOut : laidOutB Try.prog = true := by kernel_rfl
theorem args_are (vs : List V) (h : ArgsT Try.prog Try.f15.params.toList vs) : ∃ x0 : Int, ∃ x1 : Int, vs = [vi .u64 x0, vi .u64 x1] ∧ ((Lit.int .u64 x0).wf = true) ∧ ((Lit.int .u64 x1).wf = true) := by
  have hp : Try.f15.params.toList = [31, 31] := by kernel_rfl
  rw [hp] at h
  simp only [ArgsT] at h
  obtain ⟨v0, u0, rfl, a0, ⟨v1, u1, rfl, a1, rfl⟩⟩ := h
  obtain ⟨n0, b0⟩ := argV_one (by kernel_rfl) a0
  obtain ⟨x0, h0, e0⟩ := argT_int (k := .u64) (by kernel_rfl) b0
  cases e0
  obtain ⟨n1, b1⟩ := argV_one (by kernel_rfl) a1
  obtain ⟨x1, h1, e1⟩ := argT_int (k := .u64) (by kernel_rfl) b1
  cases e1
  exact ⟨x0, x1, rfl, h0, h1⟩

theorem lifted (os : Os) (started : os.Started) (H : Type) (enc : TypeId × Value → H) :
    ReturnsInHanded {} Try.checked os 15 .any (Rows.blendNumberSpec.pre6 enc Try.prog Try.f15 Rows.blendNumberRow.domain false) (Rows.blendNumberSpec.post enc Try.prog Try.f15 false true false false) := by
  refine returnsInHanded_of_change_sized (C := Try.checked) own started (by kernel_rfl) Try.func15
    (ChangeSpec.witness6 (enc := enc) (C := Try.checked) false ⟨#[], #[.int .u64 0, .int .u64 0], []⟩ 8 (by kernel_rfl) (by kernel_rfl) (by kernel_rfl) (by kernel_rfl)) ?_
  intro W base args ds gs before hval hW hcnd hsz _
  refine row_calls (P := Try.prog) (fn := Try.f15) (s := Rows.blendNumberSpec) (tb := 4) (m := 40) (by kernel_rfl) (by kernel_rfl) laidOut (by kernel_rfl) (by kernel_rfl) rfl ?_ hval hW ?_
  · intro ds hl
    have hp : Try.f15.params.toList.length = 2 := by kernel_rfl
    rw [hp] at hl
    match ds, hl with
    | [d0, d1], _ => rfl
  · intro vs hvs _
    obtain ⟨x0, x1, rfl, h0, h1⟩ := args_are vs hvs
    obtain ⟨n, rfl⟩ : ∃ n : Nat, x0 = n := ⟨x0.toNat, by have := wf_u64 h0; omega⟩
    obtain ⟨m, rfl⟩ : ∃ m : Nat, x1 = m := ⟨x1.toNat, by have := wf_u64 h1; omega⟩
    exact blendNumber_C n m (by have := wf_u64 h0; omega) (by have := wf_u64 h1; omega)

theorem proved : Rows.BlendNumberSaid :=
  OpenClaim.holds_of_wide 15 Try.f15 rfl rfl rfl rfl rfl rfl rfl ⟨rfl, rfl, rfl, rfl, rfl⟩ rfl rfl rfl rfl rfl (by kernel_rfl) Try.func15 (by kernel_rfl)
    (of_decide_eq_true (by kernel_rfl)) (by unfold Func.isWrapper; first | (rw [if_pos (by decide +kernel)]; kernel_rfl) | (rw [if_neg (by decide +kernel)]; exact ⟨rfl, rfl⟩))
    (fun os started H enc _ => lifted os started H enc)
#print axioms proved
end Go.Proofs.Ytlahigboaeadmaa.rowBlendNumber
namespace Go.Proofs.Ytlahigboaeadmaa
/-- The row, under a short name, for the claim. -/
theorem blendNumber_va : Rows.BlendNumberSaid := rowBlendNumber.proved
end Go.Proofs.Ytlahigboaeadmaa
