/- The row of StretchRounds: whatever the arguments, the law answers true, and its arguments read as they did. -/
import Derived.Test.YtmmaenfjnkoknaaFpin
import Derived.Test.YtmmaenfjnkoknaaVC
import Derived.Test.YtmmaenfjnkoknaaFacts
import Derived.ChangeOld
set_option linter.unusedVariables false
set_option maxRecDepth 100000
namespace Go.Proofs.Ytmmaenfjnkoknaa.rowStretchRounds
open Go Go.ChangeShapes Go.WideShapes Go.ChangeAt Go.RowKit Go.Proofs.Ytmmaenfjnkoknaa.VA
theorem own : ownKnob Try.prog.godebug = none := own_ok
theorem laidOut : laidOutB Try.prog = true := laidOut_ok
theorem k9 : (Rows.stretchRoundsRow.inPlace == Try.prog.inPlace 5) = true := by kernel_rfl
theorem k10 : (Rows.stretchRoundsRow.unfollowed == Try.prog.unfollowed 5) = true := by kernel_rfl
theorem k11 : (Rows.stretchRoundsRow.recurses == Try.prog.recurses 5) = true := by kernel_rfl
theorem k12 : (Rows.stretchRoundsRow.named == Try.prog.varsNamed 5) = true := by kernel_rfl
theorem closed : joinedFacts Try.prog 5 Try.f5 Rows.stretchRoundsSpec Rows.stretchRoundsRow = true :=
  joined_all (by kernel_rfl) laidOut_ok mapsRowed_ok (by kernel_rfl) (by kernel_rfl) (by kernel_rfl) (by kernel_rfl) (by kernel_rfl) (by kernel_rfl) k9 k10 k11 k12 (by kernel_rfl) (by kernel_rfl) (by kernel_rfl) (by kernel_rfl) (by kernel_rfl) (by kernel_rfl) (by kernel_rfl) (by kernel_rfl) (by kernel_rfl) (by rw [plainKeys_ok]; rfl) (by kernel_rfl) stopsHeard_ok mayEnter_ok (by rw [liftsFinal_ok]; rfl) (by rw [make_ok]; rfl) (by kernel_rfl) (by kernel_rfl) (by kernel_rfl) (by kernel_rfl)
theorem args_are (vs : List V) (h : ArgsT Try.prog Try.f5.params.toList vs) : ∃ x0 : List UInt8, ∃ x1 : Bn 16, ∃ x2 : Int, vs = [st x0, .agg (dg x1), vi .i64 x2] ∧ (x0.length ≤ maxLen) ∧ ((Lit.int .i64 x2).wf = true) := by
  have hp : Try.f5.params.toList = [9, 24, 3] := by kernel_rfl
  rw [hp] at h
  simp only [ArgsT] at h
  obtain ⟨v0, u0, rfl, a0, ⟨v1, u1, rfl, a1, ⟨v2, u2, rfl, a2, rfl⟩⟩⟩ := h
  obtain ⟨n0, b0⟩ := argV_one (by kernel_rfl) a0
  obtain ⟨x0, h0, e0⟩ := argT_str (by kernel_rfl) b0
  cases e0
  obtain ⟨n1, c1, b1, rfl⟩ := argV_agg (by kernel_rfl) a1
  obtain ⟨x1, rfl⟩ := argT_bn (m := 16) (e := 5) (by kernel_rfl) (by kernel_rfl) b1
  obtain ⟨n2, b2⟩ := argV_one (by kernel_rfl) a2
  obtain ⟨x2, h2, e2⟩ := argT_int (k := .i64) (by kernel_rfl) b2
  cases e2
  exact ⟨x0, x1, x2, rfl, h0, h2⟩
theorem lifted (os : Os) (started : os.Started) (H : Type) (enc : TypeId × Value → H) :
    ReturnsInHanded {} Try.checked os 5 .any (Rows.stretchRoundsSpec.pre6 enc Try.prog Try.f5 Rows.stretchRoundsRow.domain false) (Rows.stretchRoundsSpec.post enc Try.prog Try.f5 false true false false) := by
  refine returnsInHanded_of_change_sized (C := Try.checked) own started (by kernel_rfl) Try.func5
    (ChangeSpec.witness6 (enc := enc) (C := Try.checked) false ⟨#[], #[.string ⟨#[]⟩, .agg #[.int .u8 0, .int .u8 0, .int .u8 0, .int .u8 0, .int .u8 0, .int .u8 0, .int .u8 0, .int .u8 0, .int .u8 0, .int .u8 0, .int .u8 0, .int .u8 0, .int .u8 0, .int .u8 0, .int .u8 0, .int .u8 0], .int .i64 0], []⟩ 8 (by kernel_rfl) (by kernel_rfl) (by kernel_rfl) (by kernel_rfl)) ?_
  intro W base args ds gs before hval hW hcnd hsz _
  refine row_calls (P := Try.prog) (fn := Try.f5) (s := Rows.stretchRoundsSpec) (tb := 4) (m := 40) (by kernel_rfl) (by kernel_rfl) laidOut (by kernel_rfl) (by kernel_rfl) rfl ?_ hval hW ?_
  · intro ds hl
    have hp : Try.f5.params.toList.length = 3 := by kernel_rfl
    rw [hp] at hl
    match ds, hl with
    | [d0, d1, d2], _ => rfl
  · intro vs hvs _
    obtain ⟨x0, x1, x2, rfl, h0, h2⟩ := args_are vs hvs
    exact rounds3_C x0 x1 x2
theorem proved : Rows.StretchRoundsSaid :=
  OpenClaim.holds_of_wide 5 Try.f5 rfl rfl rfl rfl rfl rfl rfl ⟨rfl, rfl, rfl, rfl, rfl⟩ rfl rfl rfl rfl rfl (by kernel_rfl) Try.func5 closed
    (of_decide_eq_true (by kernel_rfl)) (by unfold Func.isWrapper; first | (rw [if_pos (by decide +kernel)]; kernel_rfl) | (rw [if_neg (by decide +kernel)]; exact ⟨rfl, rfl⟩))
    (fun os started H enc _ => lifted os started H enc)
#print axioms proved
end Go.Proofs.Ytmmaenfjnkoknaa.rowStretchRounds
namespace Go.Proofs.Ytmmaenfjnkoknaa
theorem stretchRounds_va : Rows.StretchRoundsSaid := rowStretchRounds.proved
end Go.Proofs.Ytmmaenfjnkoknaa
