/- The row of BlendNumbers: whatever the arguments, the law answers true, and its arguments read as they did. -/
import Derived.Test.YtlahigboaeadmaaNlaw2
import Derived.Test.YtlahigboaeadmaaV24
import Derived.ChangeOld
set_option linter.unusedVariables false
set_option maxRecDepth 100000
namespace Go.Proofs.Ytlahigboaeadmaa.rowBlendNumbers
open Go Go.ChangeShapes Go.WideShapes Go.ChangeAt Go.RowKit Go.Proofs.Ytlahigboaeadmaa.VA

theorem own : ownKnob Try.prog.godebug = none := by kernel_rfl
theorem laidOut : laidOutB Try.prog = true := by kernel_rfl
theorem args_are (vs : List V) (h : ArgsT Try.prog Try.f11.params.toList vs) : vs = [] := by
  have hp : Try.f11.params.toList = [] := by kernel_rfl
  rw [hp] at h
  simp only [ArgsT] at h
  subst h
  rfl

theorem lifted (os : Os) (started : os.Started) (H : Type) (enc : TypeId × Value → H) :
    ReturnsInHanded {} Try.checked os 11 .any (Rows.blendNumbersSpec.pre6 enc Try.prog Try.f11 Rows.blendNumbersRow.domain false) (Rows.blendNumbersSpec.post enc Try.prog Try.f11 false true false false) := by
  refine returnsInHanded_of_change_sized (C := Try.checked) own started (by kernel_rfl) Try.func11
    (ChangeSpec.witness6 (enc := enc) (C := Try.checked) false ⟨#[], #[], []⟩ 8 (by kernel_rfl) (by kernel_rfl) (by kernel_rfl) (by kernel_rfl)) ?_
  intro W base args ds gs before hval hW hcnd hsz _
  refine row_calls (P := Try.prog) (fn := Try.f11) (s := Rows.blendNumbersSpec) (tb := 4) (m := 40) (by kernel_rfl) (by kernel_rfl) laidOut (by kernel_rfl) (by kernel_rfl) rfl ?_ hval hW ?_
  · intro ds hl
    have hp : Try.f11.params.toList.length = 0 := by kernel_rfl
    rw [hp] at hl
    match ds, hl with
    | [], _ => rfl
  · intro vs hvs _
    obtain rfl := args_are vs hvs
    exact blendNumbers_C

theorem proved : Rows.BlendNumbersSaid :=
  OpenClaim.holds_of_wide 11 Try.f11 rfl rfl rfl rfl rfl rfl rfl ⟨rfl, rfl, rfl, rfl, rfl⟩ rfl rfl rfl rfl rfl (by kernel_rfl) Try.func11 (by kernel_rfl)
    (of_decide_eq_true (by kernel_rfl)) (by unfold Func.isWrapper; first | (rw [if_pos (by decide +kernel)]; kernel_rfl) | (rw [if_neg (by decide +kernel)]; exact ⟨rfl, rfl⟩))
    (fun os started H enc _ => lifted os started H enc)
#print axioms proved
end Go.Proofs.Ytlahigboaeadmaa.rowBlendNumbers
namespace Go.Proofs.Ytlahigboaeadmaa
/-- The row, under a short name, for the claim. -/
theorem blendNumbers_va : Rows.BlendNumbersSaid := rowBlendNumbers.proved
end Go.Proofs.Ytlahigboaeadmaa
