/- The row of RegisterFolds: whatever the arguments, the law answers true, and its arguments read as they did. -/
import Derived.Test.YtlahigboaeadmaaHregister
import Derived.Test.YtlahigboaeadmaaV24
import Derived.ChangeOld
set_option linter.unusedVariables false
set_option maxRecDepth 100000
namespace Go.Proofs.Ytlahigboaeadmaa.rowRegisterFolds
open Go Go.ChangeShapes Go.WideShapes Go.ChangeAt Go.RowKit Go.Proofs.Ytlahigboaeadmaa.VA

theorem own : ownKnob Try.prog.godebug = none := by kernel_rfl
theorem laidOut : laidOutB Try.prog = true := by kernel_rfl
theorem args_are (vs : List V) (h : ArgsT Try.prog Try.f5.params.toList vs) : ∃ x0 : Int, ∃ x1 : Bn 16, vs = [vi .i64 x0, .agg (dg x1)] ∧ ((Lit.int .i64 x0).wf = true) := by
  have hp : Try.f5.params.toList = [3, 30] := by kernel_rfl
  rw [hp] at h
  simp only [ArgsT] at h
  obtain ⟨v0, u0, rfl, a0, ⟨v1, u1, rfl, a1, rfl⟩⟩ := h
  obtain ⟨n0, b0⟩ := argV_one (by kernel_rfl) a0
  obtain ⟨x0, h0, e0⟩ := argT_int (k := .i64) (by kernel_rfl) b0
  cases e0
  obtain ⟨n1, c1, b1, rfl⟩ := argV_agg (by kernel_rfl) a1
  obtain ⟨x1, rfl⟩ := argT_bn (m := 16) (e := 5) (by kernel_rfl) (by kernel_rfl) b1
  exact ⟨x0, x1, rfl, h0⟩

theorem lifted (os : Os) (started : os.Started) (H : Type) (enc : TypeId × Value → H) :
    ReturnsInHanded {} Try.checked os 5 .any (Rows.registerFoldsSpec.pre6 enc Try.prog Try.f5 Rows.registerFoldsRow.domain false) (Rows.registerFoldsSpec.post enc Try.prog Try.f5 false true false false) := by
  refine returnsInHanded_of_change_sized (C := Try.checked) own started (by kernel_rfl) Try.func5
    (ChangeSpec.witness6 (enc := enc) (C := Try.checked) false ⟨#[], #[.int .i64 0, .agg #[.int .u8 0, .int .u8 0, .int .u8 0, .int .u8 0, .int .u8 0, .int .u8 0, .int .u8 0, .int .u8 0, .int .u8 0, .int .u8 0, .int .u8 0, .int .u8 0, .int .u8 0, .int .u8 0, .int .u8 0, .int .u8 0]], []⟩ 8 (by kernel_rfl) (by kernel_rfl) (by kernel_rfl) (by kernel_rfl)) ?_
  intro W base args ds gs before hval hW hcnd hsz _
  refine row_calls (P := Try.prog) (fn := Try.f5) (s := Rows.registerFoldsSpec) (tb := 4) (m := 40) (by kernel_rfl) (by kernel_rfl) laidOut (by kernel_rfl) (by kernel_rfl) rfl ?_ hval hW ?_
  · intro ds hl
    have hp : Try.f5.params.toList.length = 2 := by kernel_rfl
    rw [hp] at hl
    match ds, hl with
    | [d0, d1], _ => rfl
  · intro vs hvs _
    obtain ⟨x0, x1, rfl, h0⟩ := args_are vs hvs
    exact registerFolds_C x0 x1

theorem proved : Rows.RegisterFoldsSaid :=
  OpenClaim.holds_of_wide 5 Try.f5 rfl rfl rfl rfl rfl rfl rfl ⟨rfl, rfl, rfl, rfl, rfl⟩ rfl rfl rfl rfl rfl (by kernel_rfl) Try.func5 (by kernel_rfl)
    (of_decide_eq_true (by kernel_rfl)) (by unfold Func.isWrapper; first | (rw [if_pos (by decide +kernel)]; kernel_rfl) | (rw [if_neg (by decide +kernel)]; exact ⟨rfl, rfl⟩))
    (fun os started H enc _ => lifted os started H enc)
#print axioms proved
end Go.Proofs.Ytlahigboaeadmaa.rowRegisterFolds
namespace Go.Proofs.Ytlahigboaeadmaa
/-- The row, under a short name, for the claim. -/
theorem registerFolds_va : Rows.RegisterFoldsSaid := rowRegisterFolds.proved
end Go.Proofs.Ytlahigboaeadmaa
