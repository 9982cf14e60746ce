/- The row of BlendTells: whatever the arguments, the law answers true, and its arguments read as they did. -/
import Derived.Test.YtlahigboaeadmaaTlaw2
import Derived.Test.YtlahigboaeadmaaV24
import Derived.ChangeOld
set_option linter.unusedVariables false
set_option maxRecDepth 100000
namespace Go.Proofs.Ytlahigboaeadmaa.rowBlendTells
open Go Go.ChangeShapes Go.WideShapes Go.ChangeAt Go.RowKit Go.Proofs.Ytlahigboaeadmaa.VA

theorem own : ownKnob Try.prog.godebug = none := by kernel_rfl
theorem laidOut : laidOutB Try.prog = true := by kernel_rfl
theorem args_are (vs : List V) (h : ArgsT Try.prog Try.f12.params.toList vs) : ∃ x0 : Bn 16, ∃ x1 : Bn 16, ∃ x2 : Int, ∃ x3 : Int, ∃ x4 : Row, ∃ x5 : Row, vs = [.agg (dg x0), .agg (dg x1), vi .u64 x2, vi .i64 x3, rowV x4, rowV x5] ∧ ((Lit.int .u64 x2).wf = true) ∧ ((Lit.int .i64 x3).wf = true) ∧ (x4.l.length ≤ maxLen) ∧ (x5.l.length ≤ maxLen) := by
  have hp : Try.f12.params.toList = [30, 30, 31, 3, 52, 52] := by kernel_rfl
  rw [hp] at h
  simp only [ArgsT] at h
  obtain ⟨v0, u0, rfl, a0, ⟨v1, u1, rfl, a1, ⟨v2, u2, rfl, a2, ⟨v3, u3, rfl, a3, ⟨v4, u4, rfl, a4, ⟨v5, u5, rfl, a5, rfl⟩⟩⟩⟩⟩⟩ := h
  obtain ⟨n0, c0, b0, rfl⟩ := argV_agg (by kernel_rfl) a0
  obtain ⟨x0, rfl⟩ := argT_bn (m := 16) (e := 5) (by kernel_rfl) (by kernel_rfl) b0
  obtain ⟨n1, c1, b1, rfl⟩ := argV_agg (by kernel_rfl) a1
  obtain ⟨x1, rfl⟩ := argT_bn (m := 16) (e := 5) (by kernel_rfl) (by kernel_rfl) b1
  obtain ⟨n2, b2⟩ := argV_one (by kernel_rfl) a2
  obtain ⟨x2, h2, e2⟩ := argT_int (k := .u64) (by kernel_rfl) b2
  cases e2
  obtain ⟨n3, b3⟩ := argV_one (by kernel_rfl) a3
  obtain ⟨x3, h3, e3⟩ := argT_int (k := .i64) (by kernel_rfl) b3
  cases e3
  obtain ⟨n4, b4⟩ := argV_one (by kernel_rfl) a4
  obtain ⟨x4, h4, e4⟩ := argT_bytes (e := 5) (by kernel_rfl) (by kernel_rfl) b4
  cases e4
  obtain ⟨n5, b5⟩ := argV_one (by kernel_rfl) a5
  obtain ⟨x5, h5, e5⟩ := argT_bytes (e := 5) (by kernel_rfl) (by kernel_rfl) b5
  cases e5
  exact ⟨x0, x1, x2, x3, x4, x5, rfl, h2, h3, h4, h5⟩

theorem lifted (os : Os) (started : os.Started) (H : Type) (enc : TypeId × Value → H) :
    ReturnsInHanded {} Try.checked os 12 .any (Rows.blendTellsSpec.pre6 enc Try.prog Try.f12 Rows.blendTellsRow.domain false) (Rows.blendTellsSpec.post enc Try.prog Try.f12 false true false false) := by
  refine returnsInHanded_of_change_sized (C := Try.checked) own started (by kernel_rfl) Try.func12
    (ChangeSpec.witness6 (enc := enc) (C := Try.checked) false ⟨#[], #[.agg #[.int .u8 0, .int .u8 0, .int .u8 0, .int .u8 0, .int .u8 0, .int .u8 0, .int .u8 0, .int .u8 0, .int .u8 0, .int .u8 0, .int .u8 0, .int .u8 0, .int .u8 0, .int .u8 0, .int .u8 0, .int .u8 0], .agg #[.int .u8 0, .int .u8 0, .int .u8 0, .int .u8 0, .int .u8 0, .int .u8 0, .int .u8 0, .int .u8 0, .int .u8 0, .int .u8 0, .int .u8 0, .int .u8 0, .int .u8 0, .int .u8 0, .int .u8 0, .int .u8 0], .int .u64 0, .int .i64 0, .slice none 0 0, .slice none 0 0], []⟩ 8 (by kernel_rfl) (by kernel_rfl) (by kernel_rfl) (by kernel_rfl)) ?_
  intro W base args ds gs before hval hW hcnd hsz _
  refine row_calls (P := Try.prog) (fn := Try.f12) (s := Rows.blendTellsSpec) (tb := 4) (m := 40) (by kernel_rfl) (by kernel_rfl) laidOut (by kernel_rfl) (by kernel_rfl) rfl ?_ hval hW ?_
  · intro ds hl
    have hp : Try.f12.params.toList.length = 6 := by kernel_rfl
    rw [hp] at hl
    match ds, hl with
    | [d0, d1, d2, d3, d4, d5], _ => rfl
  · intro vs hvs _
    obtain ⟨x0, x1, x2, x3, x4, x5, rfl, h2, h3, h4, h5⟩ := args_are vs hvs
    obtain ⟨n, rfl⟩ : ∃ n : Nat, x2 = n := ⟨x2.toNat, by have := wf_u64 h2; omega⟩
    exact blendTells_C x0 x1 n (by have := wf_u64 h2; omega) x3 x4 x5

theorem proved : Rows.BlendTellsSaid :=
  OpenClaim.holds_of_wide 12 Try.f12 rfl rfl rfl rfl rfl rfl rfl ⟨rfl, rfl, rfl, rfl, rfl⟩ rfl rfl rfl rfl rfl (by kernel_rfl) Try.func12 (by kernel_rfl)
    (of_decide_eq_true (by kernel_rfl)) (by unfold Func.isWrapper; first | (rw [if_pos (by decide +kernel)]; kernel_rfl) | (rw [if_neg (by decide +kernel)]; exact ⟨rfl, rfl⟩))
    (fun os started H enc _ => lifted os started H enc)
#print axioms proved
end Go.Proofs.Ytlahigboaeadmaa.rowBlendTells
namespace Go.Proofs.Ytlahigboaeadmaa
/-- The row, under a short name, for the claim. -/
theorem blendTells_va : Rows.BlendTellsSaid := rowBlendTells.proved
end Go.Proofs.Ytlahigboaeadmaa
