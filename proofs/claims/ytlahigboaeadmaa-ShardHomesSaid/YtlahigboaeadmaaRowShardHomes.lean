/- The row of ShardHomes: whatever the number, the law answers true, and its argument reads as it did. -/
import Derived.Test.YtlahigboaeadmaaDshard
import Derived.Test.YtlahigboaeadmaaV16
import Derived.ChangeOld
set_option linter.unusedVariables false
set_option maxRecDepth 100000
namespace Go.Proofs.Ytlahigboaeadmaa.rowShardHomes
open Go Go.ChangeShapes Go.WideShapes Go.ChangeAt Go.RowKit Go.Proofs.Ytlahigboaeadmaa.VA

theorem own : ownKnob Try.prog.godebug = none := by kernel_rfl
theorem laidOut : laidOutB Try.prog = true := by kernel_rfl

theorem args_one (vs : List V) (h : ArgsT Try.prog Try.f3.params.toList vs) : ∃ a, vs = [vi .i64 a] := by
  have hp : Try.f3.params.toList = [3] := by kernel_rfl
  have hu : Try.prog.underlying 3 = some (.int .i64) := by kernel_rfl
  rw [hp] at h
  simp only [ArgsT, ArgV, hu] at h
  obtain ⟨v, us, rfl, ⟨n, h1⟩, rfl⟩ := h
  cases n with
  | zero => exact h1.elim
  | succ n =>
    unfold ArgT at h1
    rw [hu] at h1
    obtain ⟨i, hw, h1⟩ := h1
    cases h1
    exact ⟨i, rfl⟩

theorem lifted (os : Os) (started : os.Started) (H : Type) (enc : TypeId × Value → H) :
    ReturnsInHanded {} Try.checked os 3 .any (Rows.shardHomesSpec.pre6 enc Try.prog Try.f3 Rows.shardHomesRow.domain false) (Rows.shardHomesSpec.post enc Try.prog Try.f3 false true false false) := by
  refine returnsInHanded_of_change_sized (C := Try.checked) own started (by kernel_rfl) Try.func3
    (ChangeSpec.witness6 (enc := enc) (C := Try.checked) false ⟨#[], #[.int .i64 0], []⟩ 8 (by kernel_rfl) (by kernel_rfl) (by kernel_rfl) (by kernel_rfl)) ?_
  intro W base args ds gs before hval hW hcnd hsz _
  refine row_calls (P := Try.prog) (fn := Try.f3) (s := Rows.shardHomesSpec) (tb := 4) (m := 40) (by kernel_rfl) (by kernel_rfl) laidOut (by kernel_rfl) (by kernel_rfl) rfl ?_ hval hW ?_
  · intro ds hl
    have hp : Try.f3.params.toList.length = 1 := by kernel_rfl
    rw [hp] at hl
    match ds, hl with
    | [d], _ => rfl
  · intro vs hvs _
    obtain ⟨a, rfl⟩ := args_one vs hvs
    exact shardHomes_C a

theorem proved : Rows.ShardHomesSaid :=
  OpenClaim.holds_of_wide 3 Try.f3 rfl rfl rfl rfl rfl rfl rfl ⟨rfl, rfl, rfl, rfl, rfl⟩ rfl rfl rfl rfl rfl (by kernel_rfl) Try.func3 (by kernel_rfl)
    (of_decide_eq_true (by kernel_rfl)) (by unfold Func.isWrapper; first | (rw [if_pos (by decide +kernel)]; kernel_rfl) | (rw [if_neg (by decide +kernel)]; exact ⟨rfl, rfl⟩))
    (fun os started H enc _ => lifted os started H enc)
#print axioms proved
end Go.Proofs.Ytlahigboaeadmaa.rowShardHomes
namespace Go.Proofs.Ytlahigboaeadmaa
/-- The row, under a short name, for the claim. -/
theorem shardHomes_va : Rows.ShardHomesSaid := rowShardHomes.proved
end Go.Proofs.Ytlahigboaeadmaa
