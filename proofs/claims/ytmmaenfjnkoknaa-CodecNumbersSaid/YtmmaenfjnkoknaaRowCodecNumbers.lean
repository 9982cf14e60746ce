/- The row of CodecNumbers: whatever the arguments, the law answers true, and its arguments read as they did. -/
import Derived.Test.YtmmaenfjnkoknaaOlaw6
import Derived.Test.YtmmaenfjnkoknaaVC
import Derived.Test.YtmmaenfjnkoknaaFacts
import Derived.ChangeOld
set_option linter.unusedVariables false
set_option maxRecDepth 100000
namespace Go.Proofs.Ytmmaenfjnkoknaa.rowCodecNumbers
open Go Go.ChangeShapes Go.WideShapes Go.ChangeAt Go.RowKit Go.Proofs.Ytmmaenfjnkoknaa.VA
theorem own : ownKnob Try.prog.godebug = none := own_ok
theorem laidOut : laidOutB Try.prog = true := laidOut_ok
theorem k9 : (Rows.codecNumbersRow.inPlace == Try.prog.inPlace 8) = true := by kernel_rfl
theorem k10 : (Rows.codecNumbersRow.unfollowed == Try.prog.unfollowed 8) = true := by kernel_rfl
theorem k11 : (Rows.codecNumbersRow.recurses == Try.prog.recurses 8) = true := by kernel_rfl
theorem k12 : (Rows.codecNumbersRow.named == Try.prog.varsNamed 8) = true := by kernel_rfl
theorem closed : joinedFacts Try.prog 8 Try.f8 Rows.codecNumbersSpec Rows.codecNumbersRow = true :=
  joined_all (by kernel_rfl) laidOut_ok mapsRowed_ok (by kernel_rfl) (by kernel_rfl) (by kernel_rfl) (by kernel_rfl) (by kernel_rfl) (by kernel_rfl) k9 k10 k11 k12 (by kernel_rfl) (by kernel_rfl) (by kernel_rfl) (by kernel_rfl) (by kernel_rfl) (by kernel_rfl) (by kernel_rfl) (by kernel_rfl) (by kernel_rfl) (by rw [plainKeys_ok]; rfl) (by kernel_rfl) stopsHeard_ok mayEnter_ok (by rw [liftsFinal_ok]; rfl) (by rw [make_ok]; rfl) (by kernel_rfl) (by kernel_rfl) (by kernel_rfl) (by kernel_rfl)
theorem args_are (vs : List V) (h : ArgsT Try.prog Try.f8.params.toList vs) : vs = [] := by
  have hp : Try.f8.params.toList = [] := by kernel_rfl
  rw [hp] at h
  simp only [ArgsT] at h
  subst h
  rfl
theorem lifted (os : Os) (started : os.Started) (H : Type) (enc : TypeId × Value → H) :
    ReturnsInHanded {} Try.checked os 8 .any (Rows.codecNumbersSpec.pre6 enc Try.prog Try.f8 Rows.codecNumbersRow.domain false) (Rows.codecNumbersSpec.post enc Try.prog Try.f8 false true false false) := by
  refine returnsInHanded_of_change_sized (C := Try.checked) own started (by kernel_rfl) Try.func8
    (ChangeSpec.witness6 (enc := enc) (C := Try.checked) false ⟨#[], #[], []⟩ 8 (by kernel_rfl) (by kernel_rfl) (by kernel_rfl) (by kernel_rfl)) ?_
  intro W base args ds gs before hval hW hcnd hsz _
  refine row_calls (P := Try.prog) (fn := Try.f8) (s := Rows.codecNumbersSpec) (tb := 4) (m := 40) (by kernel_rfl) (by kernel_rfl) laidOut (by kernel_rfl) (by kernel_rfl) rfl ?_ hval hW ?_
  · intro ds hl
    have hp : Try.f8.params.toList.length = 0 := by kernel_rfl
    rw [hp] at hl
    match ds, hl with
    | [], _ => rfl
  · intro vs hvs _
    obtain rfl := args_are vs hvs
    exact codecNumbers_C
theorem proved : Rows.CodecNumbersSaid :=
  OpenClaim.holds_of_wide 8 Try.f8 rfl rfl rfl rfl rfl rfl rfl ⟨rfl, rfl, rfl, rfl, rfl⟩ rfl rfl rfl rfl rfl (by kernel_rfl) Try.func8 closed
    (of_decide_eq_true (by kernel_rfl)) (by unfold Func.isWrapper; first | (rw [if_pos (by decide +kernel)]; kernel_rfl) | (rw [if_neg (by decide +kernel)]; exact ⟨rfl, rfl⟩))
    (fun os started H enc _ => lifted os started H enc)
#print axioms proved
end Go.Proofs.Ytmmaenfjnkoknaa.rowCodecNumbers
namespace Go.Proofs.Ytmmaenfjnkoknaa
theorem codecNumbers_va : Rows.CodecNumbersSaid := rowCodecNumbers.proved
end Go.Proofs.Ytmmaenfjnkoknaa
