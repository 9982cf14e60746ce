/- The row of ShardTells: whatever the arguments, the law answers true, and its arguments read as they did. -/
import Derived.Test.YtlahigboaeadmaaEshard
import Derived.Test.YtlahigboaeadmaaV24
import Derived.ChangeOld
set_option linter.unusedVariables false
set_option maxRecDepth 100000
namespace Go.Proofs.Ytlahigboaeadmaa.rowShardTells
open Go Go.ChangeShapes Go.WideShapes Go.ChangeAt Go.RowKit Go.Proofs.Ytlahigboaeadmaa.VA

theorem own : ownKnob Try.prog.godebug = none := by kernel_rfl
theorem laidOut : laidOutB Try.prog = true := by kernel_rfl
theorem args_are (vs : List V) (h : ArgsT Try.prog Try.f10.params.toList vs) : ∃ x0 : Bn 4, ∃ x1 : Int, ∃ x2 : Int, vs = [.agg (dg x0), vi .i64 x1, vi .i64 x2] ∧ ((Lit.int .i64 x1).wf = true) ∧ ((Lit.int .i64 x2).wf = true) := by
  have hp : Try.f10.params.toList = [49, 3, 3] := by kernel_rfl
  rw [hp] at h
  simp only [ArgsT] at h
  obtain ⟨v0, u0, rfl, a0, ⟨v1, u1, rfl, a1, ⟨v2, u2, rfl, a2, rfl⟩⟩⟩ := h
  obtain ⟨n0, c0, b0, rfl⟩ := argV_agg (by kernel_rfl) a0
  obtain ⟨x0, rfl⟩ := argT_bn (m := 4) (e := 5) (by kernel_rfl) (by kernel_rfl) b0
  obtain ⟨n1, b1⟩ := argV_one (by kernel_rfl) a1
  obtain ⟨x1, h1, e1⟩ := argT_int (k := .i64) (by kernel_rfl) b1
  cases e1
  obtain ⟨n2, b2⟩ := argV_one (by kernel_rfl) a2
  obtain ⟨x2, h2, e2⟩ := argT_int (k := .i64) (by kernel_rfl) b2
  cases e2
  exact ⟨x0, x1, x2, rfl, h1, h2⟩

theorem lifted (os : Os) (started : os.Started) (H : Type) (enc : TypeId × Value → H) :
    ReturnsInHanded {} Try.checked os 10 .any (Rows.shardTellsSpec.pre6 enc Try.prog Try.f10 Rows.shardTellsRow.domain false) (Rows.shardTellsSpec.post enc Try.prog Try.f10 false true false false) := by
  refine returnsInHanded_of_change_sized (C := Try.checked) own started (by kernel_rfl) Try.func10
    (ChangeSpec.witness6 (enc := enc) (C := Try.checked) false ⟨#[], #[.agg #[.int .u8 0, .int .u8 0, .int .u8 0, .int .u8 0], .int .i64 0, .int .i64 0], []⟩ 8 (by kernel_rfl) (by kernel_rfl) (by kernel_rfl) (by kernel_rfl)) ?_
  intro W base args ds gs before hval hW hcnd hsz _
  refine row_calls (P := Try.prog) (fn := Try.f10) (s := Rows.shardTellsSpec) (tb := 4) (m := 40) (by kernel_rfl) (by kernel_rfl) laidOut (by kernel_rfl) (by kernel_rfl) rfl ?_ hval hW ?_
  · intro ds hl
    have hp : Try.f10.params.toList.length = 3 := by kernel_rfl
    rw [hp] at hl
    match ds, hl with
    | [d0, d1, d2], _ => rfl
  · intro vs hvs _
    obtain ⟨x0, x1, x2, rfl, h1, h2⟩ := args_are vs hvs
    exact shardTells_C x0 x1 x2

theorem proved : Rows.ShardTellsSaid :=
  OpenClaim.holds_of_wide 10 Try.f10 rfl rfl rfl rfl rfl rfl rfl ⟨rfl, rfl, rfl, rfl, rfl⟩ rfl rfl rfl rfl rfl (by kernel_rfl) Try.func10 (by kernel_rfl)
    (of_decide_eq_true (by kernel_rfl)) (by unfold Func.isWrapper; first | (rw [if_pos (by decide +kernel)]; kernel_rfl) | (rw [if_neg (by decide +kernel)]; exact ⟨rfl, rfl⟩))
    (fun os started H enc _ => lifted os started H enc)
#print axioms proved
end Go.Proofs.Ytlahigboaeadmaa.rowShardTells
namespace Go.Proofs.Ytlahigboaeadmaa
/-- The row, under a short name, for the claim. -/
theorem shardTells_va : Rows.ShardTellsSaid := rowShardTells.proved
end Go.Proofs.Ytlahigboaeadmaa
