/- The row of HandoffNumbers: whatever the arguments, the law answers true, and its arguments read as they did. -/
import Derived.Test.YtfpoebmihjbknaaGreatHhand
import Derived.Test.YtfpoebmihjbknaaGreatVC
import Derived.Test.YtfpoebmihjbknaaGreatFactsHZ
import Derived.ChangeOld
set_option linter.unusedVariables false
set_option maxRecDepth 100000
namespace Go.Proofs.YtfpoebmihjbknaaGreat.rowHandoffNumbers
open Go Go.ChangeShapes Go.WideShapes Go.ChangeAt Go.RowKit Go.Proofs.YtfpoebmihjbknaaGreat.VA
theorem own : ownKnob Tryz.prog.godebug = none := own_ok
theorem laidOut : laidOutB Tryz.prog = true := laidOut_ok
theorem k9 : (Rows.handoffNumbersRow.inPlace == Tryz.prog.inPlace 3) = true := by kernel_rfl
theorem k10 : (Rows.handoffNumbersRow.unfollowed == Tryz.prog.unfollowed 3) = true := by kernel_rfl
theorem k11 : (Rows.handoffNumbersRow.recurses == Tryz.prog.recurses 3) = true := by kernel_rfl
theorem k12 : (Rows.handoffNumbersRow.named == Tryz.prog.varsNamed 3) = true := by kernel_rfl
theorem closed : joinedFacts Tryz.prog 3 Tryz.f3 Rows.handoffNumbersSpec Rows.handoffNumbersRow = true :=
  joined_all (by kernel_rfl) laidOut_ok mapsRowed_ok (by kernel_rfl) (by kernel_rfl) (by kernel_rfl) (by kernel_rfl) (by kernel_rfl) (by kernel_rfl) k9 k10 k11 k12 (by kernel_rfl) (by kernel_rfl) (by kernel_rfl) (by kernel_rfl) (by kernel_rfl) (by kernel_rfl) (by kernel_rfl) (by kernel_rfl) (by kernel_rfl) (by rw [plainKeys_ok]; rfl) (by kernel_rfl) stopsHeard_ok mayEnter_ok (by rw [liftsFinal_ok]; rfl) (by rw [make_ok]; rfl) (by kernel_rfl) (by kernel_rfl) (by kernel_rfl) (by kernel_rfl)
theorem args_are (vs : List V) (h : ArgsT Tryz.prog Tryz.f3.params.toList vs) : vs = [] := by
  have hp : Tryz.f3.params.toList = [] := by kernel_rfl
  rw [hp] at h
  simp only [ArgsT] at h
  subst h
  rfl
theorem lifted (os : Os) (started : os.Started) (H : Type) (enc : TypeId × Value → H) :
    ReturnsInHanded {} Tryz.checked os 3 .any (Rows.handoffNumbersSpec.pre6 enc Tryz.prog Tryz.f3 Rows.handoffNumbersRow.domain false) (Rows.handoffNumbersSpec.post enc Tryz.prog Tryz.f3 false true false false) := by
  refine returnsInHanded_of_change_sized (C := Tryz.checked) own started (by kernel_rfl) Tryz.func3
    (ChangeSpec.witness6 (enc := enc) (C := Tryz.checked) false ⟨#[], #[], []⟩ 8 (by kernel_rfl) (by kernel_rfl) (by kernel_rfl) (by kernel_rfl)) ?_
  intro W base args ds gs before hval hW hcnd hsz _
  refine row_calls (P := Tryz.prog) (fn := Tryz.f3) (s := Rows.handoffNumbersSpec) (tb := 4) (m := 40) (by kernel_rfl) (by kernel_rfl) laidOut (by kernel_rfl) (by kernel_rfl) rfl ?_ hval hW ?_
  · intro ds hl
    have hp : Tryz.f3.params.toList.length = 0 := by kernel_rfl
    rw [hp] at hl
    match ds, hl with
    | [], _ => rfl
  · intro vs hvs _
    obtain rfl := args_are vs hvs
    exact handoffNumbers_C
theorem proved : Rows.HandoffNumbersSaid :=
  OpenClaim.holds_of_wide 3 Tryz.f3 rfl rfl rfl rfl rfl rfl rfl ⟨rfl, rfl, rfl, rfl, rfl⟩ rfl rfl rfl rfl rfl (by kernel_rfl) Tryz.func3 closed
    (of_decide_eq_true (by kernel_rfl)) (by unfold Func.isWrapper; first | (rw [if_pos (by decide +kernel)]; kernel_rfl) | (rw [if_neg (by decide +kernel)]; exact ⟨rfl, rfl⟩))
    (fun os started H enc _ => lifted os started H enc)
#print axioms proved
end Go.Proofs.YtfpoebmihjbknaaGreat.rowHandoffNumbers
namespace Go.Proofs.YtfpoebmihjbknaaGreat
theorem handoffNumbers_va : Rows.HandoffNumbersSaid := rowHandoffNumbers.proved
end Go.Proofs.YtfpoebmihjbknaaGreat
