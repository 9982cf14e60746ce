/- The row of FrameNumbers: whatever the arguments, the law answers true, and its arguments read as they did. -/
import Derived.Test.YtehinkckdeodhaaElaw9
import Derived.Test.YtehinkckdeodhaaVC
import Derived.Test.YtehinkckdeodhaaFacts
import Derived.ChangeOld
set_option linter.unusedVariables false
set_option maxRecDepth 100000
namespace Go.Proofs.Ytehinkckdeodhaa.rowFrameNumbers
open Go Go.ChangeShapes Go.WideShapes Go.ChangeAt Go.RowKit Go.Proofs.Ytehinkckdeodhaa.VA
theorem own : ownKnob Try.prog.godebug = none := own_ok
theorem laidOut : laidOutB Try.prog = true := laidOut_ok
theorem k9 : (Rows.frameNumbersRow.inPlace == Try.prog.inPlace 23) = true := by kernel_rfl
theorem k10 : (Rows.frameNumbersRow.unfollowed == Try.prog.unfollowed 23) = true := by kernel_rfl
theorem k11 : (Rows.frameNumbersRow.recurses == Try.prog.recurses 23) = true := by kernel_rfl
theorem k12 : (Rows.frameNumbersRow.named == Try.prog.varsNamed 23) = true := by kernel_rfl
theorem closed : joinedFacts Try.prog 23 Try.f23 Rows.frameNumbersSpec Rows.frameNumbersRow = true :=
  joined_all (by kernel_rfl) laidOut_ok mapsRowed_ok (by kernel_rfl) (by kernel_rfl) (by kernel_rfl) (by kernel_rfl) (by kernel_rfl) (by kernel_rfl) k9 k10 k11 k12 (by kernel_rfl) (by kernel_rfl) (by kernel_rfl) (by kernel_rfl) (by kernel_rfl) (by kernel_rfl) (by kernel_rfl) (by kernel_rfl) (by kernel_rfl) (by rw [plainKeys_ok]; rfl) (by kernel_rfl) stopsHeard_ok mayEnter_ok (by rw [liftsFinal_ok]; rfl) (by rw [make_ok]; rfl) (by kernel_rfl) (by kernel_rfl) (by kernel_rfl) (by kernel_rfl)
theorem args_are (vs : List V) (h : ArgsT Try.prog Try.f23.params.toList vs) : vs = [] := by
  have hp : Try.f23.params.toList = [] := by kernel_rfl
  rw [hp] at h
  simp only [ArgsT] at h
  subst h
  rfl
theorem lifted (os : Os) (started : os.Started) (H : Type) (enc : TypeId × Value → H) :
    ReturnsInHanded {} Try.checked os 23 .any (Rows.frameNumbersSpec.pre6 enc Try.prog Try.f23 Rows.frameNumbersRow.domain false) (Rows.frameNumbersSpec.post enc Try.prog Try.f23 false true false false) := by
  refine returnsInHanded_of_change_sized (C := Try.checked) own started (by kernel_rfl) Try.func23
    (ChangeSpec.witness6 (enc := enc) (C := Try.checked) false ⟨#[], #[], []⟩ 8 (by kernel_rfl) (by kernel_rfl) (by kernel_rfl) (by kernel_rfl)) ?_
  intro W base args ds gs before hval hW hcnd hsz _
  refine row_calls (P := Try.prog) (fn := Try.f23) (s := Rows.frameNumbersSpec) (tb := 4) (m := 40) (by kernel_rfl) (by kernel_rfl) laidOut (by kernel_rfl) (by kernel_rfl) rfl ?_ hval hW ?_
  · intro ds hl
    have hp : Try.f23.params.toList.length = 0 := by kernel_rfl
    rw [hp] at hl
    match ds, hl with
    | [], _ => rfl
  · intro vs hvs _
    obtain rfl := args_are vs hvs
    exact frameNumbers_C
theorem proved : Rows.FrameNumbersSaid :=
  OpenClaim.holds_of_wide 23 Try.f23 rfl rfl rfl rfl rfl rfl rfl ⟨rfl, rfl, rfl, rfl, rfl⟩ rfl rfl rfl rfl rfl (by kernel_rfl) Try.func23 closed
    (of_decide_eq_true (by kernel_rfl)) (by unfold Func.isWrapper; first | (rw [if_pos (by decide +kernel)]; kernel_rfl) | (rw [if_neg (by decide +kernel)]; exact ⟨rfl, rfl⟩))
    (fun os started H enc _ => lifted os started H enc)
#print axioms proved
end Go.Proofs.Ytehinkckdeodhaa.rowFrameNumbers
namespace Go.Proofs.Ytehinkckdeodhaa
theorem frameNumbers_va : Rows.FrameNumbersSaid := rowFrameNumbers.proved
end Go.Proofs.Ytehinkckdeodhaa
