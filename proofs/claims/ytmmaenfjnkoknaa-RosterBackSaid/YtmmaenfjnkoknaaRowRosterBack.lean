/- The row of RosterBack: whatever the arguments, the law answers true, and its arguments read as they did. -/
import Derived.Test.YtmmaenfjnkoknaaNros
import Derived.Test.YtmmaenfjnkoknaaVC
import Derived.Test.YtmmaenfjnkoknaaFacts
import Derived.ChangeOld
set_option linter.unusedVariables false
set_option maxRecDepth 100000
namespace Go.Proofs.Ytmmaenfjnkoknaa.rowRosterBack
open Go Go.ChangeShapes Go.WideShapes Go.ChangeAt Go.RowKit Go.Proofs.Ytmmaenfjnkoknaa.VA
theorem own : ownKnob Try.prog.godebug = none := own_ok
theorem laidOut : laidOutB Try.prog = true := laidOut_ok
theorem k9 : (Rows.rosterBackRow.inPlace == Try.prog.inPlace 17) = true := by kernel_rfl
theorem k10 : (Rows.rosterBackRow.unfollowed == Try.prog.unfollowed 17) = true := by kernel_rfl
theorem k11 : (Rows.rosterBackRow.recurses == Try.prog.recurses 17) = true := by kernel_rfl
theorem k12 : (Rows.rosterBackRow.named == Try.prog.varsNamed 17) = true := by kernel_rfl
theorem closed : joinedFacts Try.prog 17 Try.f17 Rows.rosterBackSpec Rows.rosterBackRow = true :=
  joined_all (by kernel_rfl) laidOut_ok mapsRowed_ok (by kernel_rfl) (by kernel_rfl) (by kernel_rfl) (by kernel_rfl) (by kernel_rfl) (by kernel_rfl) k9 k10 k11 k12 (by kernel_rfl) (by kernel_rfl) (by kernel_rfl) (by kernel_rfl) (by kernel_rfl) (by kernel_rfl) (by kernel_rfl) (by kernel_rfl) (by kernel_rfl) (by rw [plainKeys_ok]; rfl) (by kernel_rfl) stopsHeard_ok mayEnter_ok (by rw [liftsFinal_ok]; rfl) (by rw [make_ok]; rfl) (by kernel_rfl) (by kernel_rfl) (by kernel_rfl) (by kernel_rfl)
theorem args_are (vs : List V) (h : ArgsT Try.prog Try.f17.params.toList vs) : ∃ x0 : Int, ∃ x1 : Int, ∃ x2 : Int, vs = [vi .i64 x0, vi .i64 x1, vi .u64 x2] ∧ ((Lit.int .i64 x0).wf = true) ∧ ((Lit.int .i64 x1).wf = true) ∧ ((Lit.int .u64 x2).wf = true) := by
  have hp : Try.f17.params.toList = [3, 3, 42] := by kernel_rfl
  rw [hp] at h
  simp only [ArgsT] at h
  obtain ⟨v0, u0, rfl, a0, ⟨v1, u1, rfl, a1, ⟨v2, u2, rfl, a2, rfl⟩⟩⟩ := h
  obtain ⟨n0, b0⟩ := argV_one (by kernel_rfl) a0
  obtain ⟨x0, h0, e0⟩ := argT_int (k := .i64) (by kernel_rfl) b0
  cases e0
  obtain ⟨n1, b1⟩ := argV_one (by kernel_rfl) a1
  obtain ⟨x1, h1, e1⟩ := argT_int (k := .i64) (by kernel_rfl) b1
  cases e1
  obtain ⟨n2, b2⟩ := argV_one (by kernel_rfl) a2
  obtain ⟨x2, h2, e2⟩ := argT_int (k := .u64) (by kernel_rfl) b2
  cases e2
  exact ⟨x0, x1, x2, rfl, h0, h1, h2⟩
theorem lifted (os : Os) (started : os.Started) (H : Type) (enc : TypeId × Value → H) :
    ReturnsInHanded {} Try.checked os 17 .any (Rows.rosterBackSpec.pre6 enc Try.prog Try.f17 Rows.rosterBackRow.domain false) (Rows.rosterBackSpec.post enc Try.prog Try.f17 false true false false) := by
  refine returnsInHanded_of_change_sized (C := Try.checked) own started (by kernel_rfl) Try.func17
    (ChangeSpec.witness6 (enc := enc) (C := Try.checked) false ⟨#[], #[.int .i64 0, .int .i64 0, .int .u64 0], []⟩ 8 (by kernel_rfl) (by kernel_rfl) (by kernel_rfl) (by kernel_rfl)) ?_
  intro W base args ds gs before hval hW hcnd hsz _
  refine row_calls (P := Try.prog) (fn := Try.f17) (s := Rows.rosterBackSpec) (tb := 4) (m := 40) (by kernel_rfl) (by kernel_rfl) laidOut (by kernel_rfl) (by kernel_rfl) rfl ?_ hval hW ?_
  · intro ds hl
    have hp : Try.f17.params.toList.length = 3 := by kernel_rfl
    rw [hp] at hl
    match ds, hl with
    | [d0, d1, d2], _ => rfl
  · intro vs hvs _
    obtain ⟨x0, x1, x2, rfl, h0, h1, h2⟩ := args_are vs hvs
    exact rosterBack_C x0 x1 x2 (wf_u64 h2)
theorem proved : Rows.RosterBackSaid :=
  OpenClaim.holds_of_wide 17 Try.f17 rfl rfl rfl rfl rfl rfl rfl ⟨rfl, rfl, rfl, rfl, rfl⟩ rfl rfl rfl rfl rfl (by kernel_rfl) Try.func17 closed
    (of_decide_eq_true (by kernel_rfl)) (by unfold Func.isWrapper; first | (rw [if_pos (by decide +kernel)]; kernel_rfl) | (rw [if_neg (by decide +kernel)]; exact ⟨rfl, rfl⟩))
    (fun os started H enc _ => lifted os started H enc)
#print axioms proved
end Go.Proofs.Ytmmaenfjnkoknaa.rowRosterBack
namespace Go.Proofs.Ytmmaenfjnkoknaa
theorem rosterBack_va : Rows.RosterBackSaid := rowRosterBack.proved
end Go.Proofs.Ytmmaenfjnkoknaa
