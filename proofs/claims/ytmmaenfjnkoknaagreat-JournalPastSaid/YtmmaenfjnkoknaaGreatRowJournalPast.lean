/- The row of JournalPast: whatever the arguments, the law answers true, and its arguments read as they did. -/
import Derived.Test.YtmmaenfjnkoknaaGreatGlaw6
import Derived.Test.YtmmaenfjnkoknaaGreatAjou
import Derived.Test.YtmmaenfjnkoknaaGreatVC
import Derived.Test.YtmmaenfjnkoknaaGreatFactsZ
import Derived.ChangeOld
set_option linter.unusedVariables false
set_option maxRecDepth 100000
namespace Go.Proofs.YtmmaenfjnkoknaaGreat.rowJournalPast
open Go Go.ChangeShapes Go.WideShapes Go.ChangeAt Go.RowKit Go.Proofs.YtmmaenfjnkoknaaGreat.VA
theorem own : ownKnob Tryz.prog.godebug = none := own_ok
theorem laidOut : laidOutB Tryz.prog = true := laidOut_ok
theorem k9 : (Rows.journalPastRow.inPlace == Tryz.prog.inPlace 3) = true := by kernel_rfl
theorem k10 : (Rows.journalPastRow.unfollowed == Tryz.prog.unfollowed 3) = true := by kernel_rfl
theorem k11 : (Rows.journalPastRow.recurses == Tryz.prog.recurses 3) = true := by kernel_rfl
theorem k12 : (Rows.journalPastRow.named == Tryz.prog.varsNamed 3) = true := by kernel_rfl
theorem closed : joinedFacts Tryz.prog 3 Tryz.f3 Rows.journalPastSpec Rows.journalPastRow = true :=
  joined_all (by kernel_rfl) laidOut_ok mapsRowed_ok (by kernel_rfl) (by kernel_rfl) (by kernel_rfl) (by kernel_rfl) (by kernel_rfl) (by kernel_rfl) k9 k10 k11 k12 (by kernel_rfl) (by kernel_rfl) (by kernel_rfl) (by kernel_rfl) (by kernel_rfl) (by kernel_rfl) (by kernel_rfl) (by kernel_rfl) (by kernel_rfl) (by rw [plainKeys_ok]; rfl) (by kernel_rfl) stopsHeard_ok mayEnter_ok (by rw [liftsFinal_ok]; rfl) (by rw [make_ok]; rfl) (by kernel_rfl) (by kernel_rfl) (by kernel_rfl) (by kernel_rfl)
theorem args_are (vs : List V) (h : ArgsT Tryz.prog Tryz.f3.params.toList vs) : ∃ x0 : Bn 16, ∃ x1 : Lst KR, ∃ x2 : Row, vs = [.agg (dg x0), lstV cKR x1, rowV x2] ∧ (x1.l.length ≤ maxLen ∧ ∀ y ∈ x1.l, KR.ok y) ∧ (x2.l.length ≤ maxLen) := by
  have hp : Tryz.f3.params.toList = [23, 24, 25] := by kernel_rfl
  rw [hp] at h
  simp only [ArgsT] at h
  obtain ⟨v0, u0, rfl, a0, ⟨v1, u1, rfl, a1, ⟨v2, u2, rfl, a2, rfl⟩⟩⟩ := h
  obtain ⟨n0, c0, b0, rfl⟩ := argV_agg (by kernel_rfl) a0
  obtain ⟨x0, rfl⟩ := argT_bn (m := 16) (e := 5) (by kernel_rfl) (by kernel_rfl) b0
  obtain ⟨n1, b1⟩ := argV_one (by kernel_rfl) a1
  obtain ⟨x1, h1, h1', e1⟩ := argT_lst (e := 59) cKR KR.ok (by kernel_rfl) (fun n vs h => argT_KR h) b1
  cases e1
  obtain ⟨n2, b2⟩ := argV_one (by kernel_rfl) a2
  obtain ⟨x2, h2, e2⟩ := argT_bytes (e := 5) (by kernel_rfl) (by kernel_rfl) b2
  cases e2
  exact ⟨x0, x1, x2, rfl, ⟨h1, h1'⟩, h2⟩
theorem lifted (os : Os) (started : os.Started) (H : Type) (enc : TypeId × Value → H) :
    ReturnsInHanded {} Tryz.checked os 3 .any (Rows.journalPastSpec.pre6 enc Tryz.prog Tryz.f3 Rows.journalPastRow.domain false) (Rows.journalPastSpec.post enc Tryz.prog Tryz.f3 false true false false) := by
  refine returnsInHanded_of_change_sized (C := Tryz.checked) own started (by kernel_rfl) Tryz.func3
    (ChangeSpec.witness6 (enc := enc) (C := Tryz.checked) false ⟨#[], #[.agg #[.int .u8 0, .int .u8 0, .int .u8 0, .int .u8 0, .int .u8 0, .int .u8 0, .int .u8 0, .int .u8 0, .int .u8 0, .int .u8 0, .int .u8 0, .int .u8 0, .int .u8 0, .int .u8 0, .int .u8 0, .int .u8 0], .slice none 0 0, .slice none 0 0], []⟩ 8 (by kernel_rfl) (by kernel_rfl) (by kernel_rfl) (by kernel_rfl)) ?_
  intro W base args ds gs before hval hW hcnd hsz _
  refine row_calls (P := Tryz.prog) (fn := Tryz.f3) (s := Rows.journalPastSpec) (tb := 4) (m := 40) (by kernel_rfl) (by kernel_rfl) laidOut (by kernel_rfl) (by kernel_rfl) rfl ?_ hval hW ?_
  · intro ds hl
    have hp : Tryz.f3.params.toList.length = 3 := by kernel_rfl
    rw [hp] at hl
    match ds, hl with
    | [d0, d1, d2], _ => rfl
  · intro vs hvs _
    obtain ⟨x0, x1, x2, rfl, h1, h2⟩ := args_are vs hvs
    exact journalPast_C x0 x1 (fun y hy => kr_fine (h1.2 y hy)) x2
theorem proved : Rows.JournalPastSaid :=
  OpenClaim.holds_of_wide 3 Tryz.f3 rfl rfl rfl rfl rfl rfl rfl ⟨rfl, rfl, rfl, rfl, rfl⟩ rfl rfl rfl rfl rfl (by kernel_rfl) Tryz.func3 closed
    (of_decide_eq_true (by kernel_rfl)) (by unfold Func.isWrapper; first | (rw [if_pos (by decide +kernel)]; kernel_rfl) | (rw [if_neg (by decide +kernel)]; exact ⟨rfl, rfl⟩))
    (fun os started H enc _ => lifted os started H enc)
#print axioms proved
end Go.Proofs.YtmmaenfjnkoknaaGreat.rowJournalPast
namespace Go.Proofs.YtmmaenfjnkoknaaGreat
theorem journalPast_va : Rows.JournalPastSaid := rowJournalPast.proved
end Go.Proofs.YtmmaenfjnkoknaaGreat
