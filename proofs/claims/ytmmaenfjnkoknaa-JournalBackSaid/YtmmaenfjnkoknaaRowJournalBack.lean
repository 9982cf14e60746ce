/- The row of JournalBack: whatever the arguments, the law answers true, and its arguments read as they did. -/
import Derived.Test.YtmmaenfjnkoknaaGlaw6
import Derived.Test.YtmmaenfjnkoknaaHjou
import Derived.Test.YtmmaenfjnkoknaaVC
import Derived.Test.YtmmaenfjnkoknaaFacts
import Derived.ChangeOld
set_option linter.unusedVariables false
set_option maxRecDepth 100000
namespace Go.Proofs.Ytmmaenfjnkoknaa.rowJournalBack
open Go Go.ChangeShapes Go.WideShapes Go.ChangeAt Go.RowKit Go.Proofs.Ytmmaenfjnkoknaa.VA
theorem own : ownKnob Try.prog.godebug = none := own_ok
theorem laidOut : laidOutB Try.prog = true := laidOut_ok
theorem k9 : (Rows.journalBackRow.inPlace == Try.prog.inPlace 15) = true := by kernel_rfl
theorem k10 : (Rows.journalBackRow.unfollowed == Try.prog.unfollowed 15) = true := by kernel_rfl
theorem k11 : (Rows.journalBackRow.recurses == Try.prog.recurses 15) = true := by kernel_rfl
theorem k12 : (Rows.journalBackRow.named == Try.prog.varsNamed 15) = true := by kernel_rfl
theorem closed : joinedFacts Try.prog 15 Try.f15 Rows.journalBackSpec Rows.journalBackRow = true :=
  joined_all (by kernel_rfl) laidOut_ok mapsRowed_ok (by kernel_rfl) (by kernel_rfl) (by kernel_rfl) (by kernel_rfl) (by kernel_rfl) (by kernel_rfl) k9 k10 k11 k12 (by kernel_rfl) (by kernel_rfl) (by kernel_rfl) (by kernel_rfl) (by kernel_rfl) (by kernel_rfl) (by kernel_rfl) (by kernel_rfl) (by kernel_rfl) (by rw [plainKeys_ok]; rfl) (by kernel_rfl) stopsHeard_ok mayEnter_ok (by rw [liftsFinal_ok]; rfl) (by rw [make_ok]; rfl) (by kernel_rfl) (by kernel_rfl) (by kernel_rfl) (by kernel_rfl)
theorem args_are (vs : List V) (h : ArgsT Try.prog Try.f15.params.toList vs) : ∃ x0 : Bn 16, ∃ x1 : Lst KR, vs = [.agg (dg x0), lstV cKR x1] ∧ (x1.l.length ≤ maxLen ∧ ∀ y ∈ x1.l, KR.ok y) := by
  have hp : Try.f15.params.toList = [24, 107] := by kernel_rfl
  rw [hp] at h
  simp only [ArgsT] at h
  obtain ⟨v0, u0, rfl, a0, ⟨v1, u1, rfl, a1, rfl⟩⟩ := h
  obtain ⟨n0, c0, b0, rfl⟩ := argV_agg (by kernel_rfl) a0
  obtain ⟨x0, rfl⟩ := argT_bn (m := 16) (e := 5) (by kernel_rfl) (by kernel_rfl) b0
  obtain ⟨n1, b1⟩ := argV_one (by kernel_rfl) a1
  obtain ⟨x1, h1, h1', e1⟩ := argT_lst (e := 76) cKR KR.ok (by kernel_rfl) (fun n vs h => argT_KR h) b1
  cases e1
  exact ⟨x0, x1, rfl, ⟨h1, h1'⟩⟩
theorem lifted (os : Os) (started : os.Started) (H : Type) (enc : TypeId × Value → H) :
    ReturnsInHanded {} Try.checked os 15 .any (Rows.journalBackSpec.pre6 enc Try.prog Try.f15 Rows.journalBackRow.domain false) (Rows.journalBackSpec.post enc Try.prog Try.f15 false true false false) := by
  refine returnsInHanded_of_change_sized (C := Try.checked) own started (by kernel_rfl) Try.func15
    (ChangeSpec.witness6 (enc := enc) (C := Try.checked) false ⟨#[], #[.agg #[.int .u8 0, .int .u8 0, .int .u8 0, .int .u8 0, .int .u8 0, .int .u8 0, .int .u8 0, .int .u8 0, .int .u8 0, .int .u8 0, .int .u8 0, .int .u8 0, .int .u8 0, .int .u8 0, .int .u8 0, .int .u8 0], .slice none 0 0], []⟩ 8 (by kernel_rfl) (by kernel_rfl) (by kernel_rfl) (by kernel_rfl)) ?_
  intro W base args ds gs before hval hW hcnd hsz _
  refine row_calls (P := Try.prog) (fn := Try.f15) (s := Rows.journalBackSpec) (tb := 4) (m := 40) (by kernel_rfl) (by kernel_rfl) laidOut (by kernel_rfl) (by kernel_rfl) rfl ?_ hval hW ?_
  · intro ds hl
    have hp : Try.f15.params.toList.length = 2 := by kernel_rfl
    rw [hp] at hl
    match ds, hl with
    | [d0, d1], _ => rfl
  · intro vs hvs _
    obtain ⟨x0, x1, rfl, h1⟩ := args_are vs hvs
    exact journalBack_C x0 x1 fun y hy => kr_fine (h1.2 y hy)
theorem proved : Rows.JournalBackSaid :=
  OpenClaim.holds_of_wide 15 Try.f15 rfl rfl rfl rfl rfl rfl rfl ⟨rfl, rfl, rfl, rfl, rfl⟩ rfl rfl rfl rfl rfl (by kernel_rfl) Try.func15 closed
    (of_decide_eq_true (by kernel_rfl)) (by unfold Func.isWrapper; first | (rw [if_pos (by decide +kernel)]; kernel_rfl) | (rw [if_neg (by decide +kernel)]; exact ⟨rfl, rfl⟩))
    (fun os started H enc _ => lifted os started H enc)
#print axioms proved
end Go.Proofs.Ytmmaenfjnkoknaa.rowJournalBack
namespace Go.Proofs.Ytmmaenfjnkoknaa
theorem journalBack_va : Rows.JournalBackSaid := rowJournalBack.proved
end Go.Proofs.Ytmmaenfjnkoknaa
