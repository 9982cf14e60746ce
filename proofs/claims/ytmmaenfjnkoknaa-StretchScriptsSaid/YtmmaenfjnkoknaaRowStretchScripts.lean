/- The row of StretchScripts: whatever the arguments, the law answers true, and its arguments read as they did. -/
import Derived.Test.YtmmaenfjnkoknaaFpin
import Derived.Test.YtmmaenfjnkoknaaVC
import Derived.Test.YtmmaenfjnkoknaaFacts
import Derived.ChangeOld
set_option linter.unusedVariables false
set_option maxRecDepth 100000
namespace Go.Proofs.Ytmmaenfjnkoknaa.rowStretchScripts
open Go Go.ChangeShapes Go.WideShapes Go.ChangeAt Go.RowKit Go.Proofs.Ytmmaenfjnkoknaa.VA
theorem own : ownKnob Try.prog.godebug = none := own_ok
theorem laidOut : laidOutB Try.prog = true := laidOut_ok
theorem k9 : (Rows.stretchScriptsRow.inPlace == Try.prog.inPlace 6) = true := by kernel_rfl
theorem k10 : (Rows.stretchScriptsRow.unfollowed == Try.prog.unfollowed 6) = true := by kernel_rfl
theorem k11 : (Rows.stretchScriptsRow.recurses == Try.prog.recurses 6) = true := by kernel_rfl
theorem k12 : (Rows.stretchScriptsRow.named == Try.prog.varsNamed 6) = true := by kernel_rfl
theorem closed : joinedFacts Try.prog 6 Try.f6 Rows.stretchScriptsSpec Rows.stretchScriptsRow = true :=
  joined_all (by kernel_rfl) laidOut_ok mapsRowed_ok (by kernel_rfl) (by kernel_rfl) (by kernel_rfl) (by kernel_rfl) (by kernel_rfl) (by kernel_rfl) k9 k10 k11 k12 (by kernel_rfl) (by kernel_rfl) (by kernel_rfl) (by kernel_rfl) (by kernel_rfl) (by kernel_rfl) (by kernel_rfl) (by kernel_rfl) (by kernel_rfl) (by rw [plainKeys_ok]; rfl) (by kernel_rfl) stopsHeard_ok mayEnter_ok (by rw [liftsFinal_ok]; rfl) (by rw [make_ok]; rfl) (by kernel_rfl) (by kernel_rfl) (by kernel_rfl) (by kernel_rfl)
theorem args_are (vs : List V) (h : ArgsT Try.prog Try.f6.params.toList vs) : ∃ x0 : Int, ∃ x1 : Bn 4, ∃ x2 : Bn 4, ∃ x3 : Int, vs = [vi .u32 x0, .agg (dg x1), .agg (dg x2), vi .i64 x3] ∧ ((Lit.int .u32 x0).wf = true) ∧ ((Lit.int .i64 x3).wf = true) := by
  have hp : Try.f6.params.toList = [31, 29, 29, 3] := by kernel_rfl
  rw [hp] at h
  simp only [ArgsT] at h
  obtain ⟨v0, u0, rfl, a0, ⟨v1, u1, rfl, a1, ⟨v2, u2, rfl, a2, ⟨v3, u3, rfl, a3, rfl⟩⟩⟩⟩ := h
  obtain ⟨n0, b0⟩ := argV_one (by kernel_rfl) a0
  obtain ⟨x0, h0, e0⟩ := argT_int (k := .u32) (by kernel_rfl) b0
  cases e0
  obtain ⟨n1, c1, b1, rfl⟩ := argV_agg (by kernel_rfl) a1
  obtain ⟨x1, rfl⟩ := argT_bn (m := 4) (e := 5) (by kernel_rfl) (by kernel_rfl) b1
  obtain ⟨n2, c2, b2, rfl⟩ := argV_agg (by kernel_rfl) a2
  obtain ⟨x2, rfl⟩ := argT_bn (m := 4) (e := 5) (by kernel_rfl) (by kernel_rfl) b2
  obtain ⟨n3, b3⟩ := argV_one (by kernel_rfl) a3
  obtain ⟨x3, h3, e3⟩ := argT_int (k := .i64) (by kernel_rfl) b3
  cases e3
  exact ⟨x0, x1, x2, x3, rfl, h0, h3⟩
theorem lifted (os : Os) (started : os.Started) (H : Type) (enc : TypeId × Value → H) :
    ReturnsInHanded {} Try.checked os 6 .any (Rows.stretchScriptsSpec.pre6 enc Try.prog Try.f6 Rows.stretchScriptsRow.domain false) (Rows.stretchScriptsSpec.post enc Try.prog Try.f6 false true false false) := by
  refine returnsInHanded_of_change_sized (C := Try.checked) own started (by kernel_rfl) Try.func6
    (ChangeSpec.witness6 (enc := enc) (C := Try.checked) false ⟨#[], #[.int .u32 0, .agg #[.int .u8 0, .int .u8 0, .int .u8 0, .int .u8 0], .agg #[.int .u8 0, .int .u8 0, .int .u8 0, .int .u8 0], .int .i64 0], []⟩ 8 (by kernel_rfl) (by kernel_rfl) (by kernel_rfl) (by kernel_rfl)) ?_
  intro W base args ds gs before hval hW hcnd hsz _
  refine row_calls (P := Try.prog) (fn := Try.f6) (s := Rows.stretchScriptsSpec) (tb := 4) (m := 40) (by kernel_rfl) (by kernel_rfl) laidOut (by kernel_rfl) (by kernel_rfl) rfl ?_ hval hW ?_
  · intro ds hl
    have hp : Try.f6.params.toList.length = 4 := by kernel_rfl
    rw [hp] at hl
    match ds, hl with
    | [d0, d1, d2, d3], _ => rfl
  · intro vs hvs _
    obtain ⟨x0, x1, x2, x3, rfl, h0, h3⟩ := args_are vs hvs
    exact scripts3_C x0 x1 x2 x3 (wf_u32 h0)
theorem proved : Rows.StretchScriptsSaid :=
  OpenClaim.holds_of_wide 6 Try.f6 rfl rfl rfl rfl rfl rfl rfl ⟨rfl, rfl, rfl, rfl, rfl⟩ rfl rfl rfl rfl rfl (by kernel_rfl) Try.func6 closed
    (of_decide_eq_true (by kernel_rfl)) (by unfold Func.isWrapper; first | (rw [if_pos (by decide +kernel)]; kernel_rfl) | (rw [if_neg (by decide +kernel)]; exact ⟨rfl, rfl⟩))
    (fun os started H enc _ => lifted os started H enc)
#print axioms proved
end Go.Proofs.Ytmmaenfjnkoknaa.rowStretchScripts
namespace Go.Proofs.Ytmmaenfjnkoknaa
theorem stretchScripts_va : Rows.StretchScriptsSaid := rowStretchScripts.proved
end Go.Proofs.Ytmmaenfjnkoknaa
