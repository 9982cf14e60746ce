/- The row of RosterTells: whatever the arguments, the law answers true, and its arguments read as they did. -/
import Derived.Test.YtmmaenfjnkoknaaOros
import Derived.Test.YtmmaenfjnkoknaaTargsR
import Derived.Test.YtmmaenfjnkoknaaVC
import Derived.Test.YtmmaenfjnkoknaaFacts
import Derived.ChangeOld
set_option linter.unusedVariables false
set_option maxRecDepth 100000
namespace Go.Proofs.Ytmmaenfjnkoknaa.rowRosterTells
open Go Go.ChangeShapes Go.WideShapes Go.ChangeAt Go.RowKit Go.Proofs.Ytmmaenfjnkoknaa.VA
theorem own : ownKnob Try.prog.godebug = none := own_ok
theorem laidOut : laidOutB Try.prog = true := laidOut_ok
theorem k9 : (Rows.rosterTellsRow.inPlace == Try.prog.inPlace 19) = true := by kernel_rfl
theorem k10 : (Rows.rosterTellsRow.unfollowed == Try.prog.unfollowed 19) = true := by kernel_rfl
theorem k11 : (Rows.rosterTellsRow.recurses == Try.prog.recurses 19) = true := by kernel_rfl
theorem k12 : (Rows.rosterTellsRow.named == Try.prog.varsNamed 19) = true := by kernel_rfl
theorem closed : joinedFacts Try.prog 19 Try.f19 Rows.rosterTellsSpec Rows.rosterTellsRow = true :=
  joined_all (by kernel_rfl) laidOut_ok mapsRowed_ok (by kernel_rfl) (by kernel_rfl) (by kernel_rfl) (by kernel_rfl) (by kernel_rfl) (by kernel_rfl) k9 k10 k11 k12 (by kernel_rfl) (by kernel_rfl) (by kernel_rfl) (by kernel_rfl) (by kernel_rfl) (by kernel_rfl) (by kernel_rfl) (by kernel_rfl) (by kernel_rfl) (by rw [plainKeys_ok]; rfl) (by kernel_rfl) stopsHeard_ok mayEnter_ok (by rw [liftsFinal_ok]; rfl) (by rw [make_ok]; rfl) (by kernel_rfl) (by kernel_rfl) (by kernel_rfl) (by kernel_rfl)
theorem args_are (vs : List V) (h : ArgsT Try.prog Try.f19.params.toList vs) : ∃ x0 : Ros, ∃ x1 : Ros, ∃ x2 : Int, ∃ x3 : Int, ∃ x4 : Int, ∃ x5 : Int, vs = [.agg (cRos x0), .agg (cRos x1), vi .i64 x2, vi .i64 x3, vi .i64 x4, vi .u64 x5] ∧ (Ros.ok x0) ∧ (Ros.ok x1) ∧ ((Lit.int .i64 x2).wf = true) ∧ ((Lit.int .i64 x3).wf = true) ∧ ((Lit.int .i64 x4).wf = true) ∧ ((Lit.int .u64 x5).wf = true) := by
  have hp : Try.f19.params.toList = [44, 44, 3, 3, 3, 42] := by kernel_rfl
  rw [hp] at h
  simp only [ArgsT] at h
  obtain ⟨v0, u0, rfl, a0, ⟨v1, u1, rfl, a1, ⟨v2, u2, rfl, a2, ⟨v3, u3, rfl, a3, ⟨v4, u4, rfl, a4, ⟨v5, u5, rfl, a5, rfl⟩⟩⟩⟩⟩⟩ := h
  obtain ⟨n0, c0, b0, rfl⟩ := argV_agg (by kernel_rfl) a0
  obtain ⟨x0, h0, rfl⟩ := argT_Ros b0
  obtain ⟨n1, c1, b1, rfl⟩ := argV_agg (by kernel_rfl) a1
  obtain ⟨x1, h1, rfl⟩ := argT_Ros b1
  obtain ⟨n2, b2⟩ := argV_one (by kernel_rfl) a2
  obtain ⟨x2, h2, e2⟩ := argT_int (k := .i64) (by kernel_rfl) b2
  cases e2
  obtain ⟨n3, b3⟩ := argV_one (by kernel_rfl) a3
  obtain ⟨x3, h3, e3⟩ := argT_int (k := .i64) (by kernel_rfl) b3
  cases e3
  obtain ⟨n4, b4⟩ := argV_one (by kernel_rfl) a4
  obtain ⟨x4, h4, e4⟩ := argT_int (k := .i64) (by kernel_rfl) b4
  cases e4
  obtain ⟨n5, b5⟩ := argV_one (by kernel_rfl) a5
  obtain ⟨x5, h5, e5⟩ := argT_int (k := .u64) (by kernel_rfl) b5
  cases e5
  exact ⟨x0, x1, x2, x3, x4, x5, rfl, h0, h1, h2, h3, h4, h5⟩
theorem lifted (os : Os) (started : os.Started) (H : Type) (enc : TypeId × Value → H) :
    ReturnsInHanded {} Try.checked os 19 .any (Rows.rosterTellsSpec.pre6 enc Try.prog Try.f19 Rows.rosterTellsRow.domain false) (Rows.rosterTellsSpec.post enc Try.prog Try.f19 false true false false) := by
  refine returnsInHanded_of_change_sized (C := Try.checked) own started (by kernel_rfl) Try.func19
    (ChangeSpec.witness6 (enc := enc) (C := Try.checked) false ⟨#[], #[.agg #[.int .u64 0, .slice none 0 0], .agg #[.int .u64 0, .slice none 0 0], .int .i64 0, .int .i64 0, .int .i64 0, .int .u64 0], []⟩ 8 (by kernel_rfl) (by kernel_rfl) (by kernel_rfl) (by kernel_rfl)) ?_
  intro W base args ds gs before hval hW hcnd hsz _
  refine row_calls (P := Try.prog) (fn := Try.f19) (s := Rows.rosterTellsSpec) (tb := 4) (m := 40) (by kernel_rfl) (by kernel_rfl) laidOut (by kernel_rfl) (by kernel_rfl) rfl ?_ hval hW ?_
  · intro ds hl
    have hp : Try.f19.params.toList.length = 6 := by kernel_rfl
    rw [hp] at hl
    match ds, hl with
    | [d0, d1, d2, d3, d4, d5], _ => rfl
  · intro vs hvs _
    obtain ⟨x0, x1, x2, x3, x4, x5, rfl, h0, h1, h2, h3, h4, h5⟩ := args_are vs hvs
    exact rosterTells_C x0 x1 x2 x3 x4 x5 (by have := h0.2.1; unfold maxLen at this; omega) (by have := h1.2.1; unfold maxLen at this; omega) (wf_u64 h0.1) (wf_u64 h5)
theorem proved : Rows.RosterTellsSaid :=
  OpenClaim.holds_of_wide 19 Try.f19 rfl rfl rfl rfl rfl rfl rfl ⟨rfl, rfl, rfl, rfl, rfl⟩ rfl rfl rfl rfl rfl (by kernel_rfl) Try.func19 closed
    (of_decide_eq_true (by kernel_rfl)) (by unfold Func.isWrapper; first | (rw [if_pos (by decide +kernel)]; kernel_rfl) | (rw [if_neg (by decide +kernel)]; exact ⟨rfl, rfl⟩))
    (fun os started H enc _ => lifted os started H enc)
#print axioms proved
end Go.Proofs.Ytmmaenfjnkoknaa.rowRosterTells
namespace Go.Proofs.Ytmmaenfjnkoknaa
theorem rosterTells_va : Rows.RosterTellsSaid := rowRosterTells.proved
end Go.Proofs.Ytmmaenfjnkoknaa
