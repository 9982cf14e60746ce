/- The row of EndorseMajority: whatever the arguments, the law answers true, and its arguments read as they did. -/
import Derived.Test.YtmmaenfjnkoknaaSros
import Derived.Test.YtmmaenfjnkoknaaVC
import Derived.Test.YtmmaenfjnkoknaaFacts
import Derived.ChangeOld
set_option linter.unusedVariables false
set_option maxRecDepth 100000
namespace Go.Proofs.Ytmmaenfjnkoknaa.rowEndorseMajority
open Go Go.ChangeShapes Go.WideShapes Go.ChangeAt Go.RowKit Go.Proofs.Ytmmaenfjnkoknaa.VA
theorem own : ownKnob Try.prog.godebug = none := own_ok
theorem laidOut : laidOutB Try.prog = true := laidOut_ok
theorem k9 : (Rows.endorseMajorityRow.inPlace == Try.prog.inPlace 20) = true := by kernel_rfl
theorem k10 : (Rows.endorseMajorityRow.unfollowed == Try.prog.unfollowed 20) = true := by kernel_rfl
theorem k11 : (Rows.endorseMajorityRow.recurses == Try.prog.recurses 20) = true := by kernel_rfl
theorem k12 : (Rows.endorseMajorityRow.named == Try.prog.varsNamed 20) = true := by kernel_rfl
theorem closed : joinedFacts Try.prog 20 Try.f20 Rows.endorseMajoritySpec Rows.endorseMajorityRow = true :=
  joined_all (by kernel_rfl) laidOut_ok mapsRowed_ok (by kernel_rfl) (by kernel_rfl) (by kernel_rfl) (by kernel_rfl) (by kernel_rfl) (by kernel_rfl) k9 k10 k11 k12 (by kernel_rfl) (by kernel_rfl) (by kernel_rfl) (by kernel_rfl) (by kernel_rfl) (by kernel_rfl) (by kernel_rfl) (by kernel_rfl) (by kernel_rfl) (by rw [plainKeys_ok]; rfl) (by kernel_rfl) stopsHeard_ok mayEnter_ok (by rw [liftsFinal_ok]; rfl) (by rw [make_ok]; rfl) (by kernel_rfl) (by kernel_rfl) (by kernel_rfl) (by kernel_rfl)
theorem args_are (vs : List V) (h : ArgsT Try.prog Try.f20.params.toList vs) : ∃ x0 : Bn 16, ∃ x1 : Int, ∃ x2 : Int, ∃ x3 : Int, vs = [.agg (dg x0), vi .i64 x1, vi .i64 x2, vi .i64 x3] ∧ ((Lit.int .i64 x1).wf = true) ∧ ((Lit.int .i64 x2).wf = true) ∧ ((Lit.int .i64 x3).wf = true) := by
  have hp : Try.f20.params.toList = [24, 3, 3, 3] := by kernel_rfl
  rw [hp] at h
  simp only [ArgsT] at h
  obtain ⟨v0, u0, rfl, a0, ⟨v1, u1, rfl, a1, ⟨v2, u2, rfl, a2, ⟨v3, u3, rfl, a3, rfl⟩⟩⟩⟩ := h
  obtain ⟨n0, c0, b0, rfl⟩ := argV_agg (by kernel_rfl) a0
  obtain ⟨x0, rfl⟩ := argT_bn (m := 16) (e := 5) (by kernel_rfl) (by kernel_rfl) b0
  obtain ⟨n1, b1⟩ := argV_one (by kernel_rfl) a1
  obtain ⟨x1, h1, e1⟩ := argT_int (k := .i64) (by kernel_rfl) b1
  cases e1
  obtain ⟨n2, b2⟩ := argV_one (by kernel_rfl) a2
  obtain ⟨x2, h2, e2⟩ := argT_int (k := .i64) (by kernel_rfl) b2
  cases e2
  obtain ⟨n3, b3⟩ := argV_one (by kernel_rfl) a3
  obtain ⟨x3, h3, e3⟩ := argT_int (k := .i64) (by kernel_rfl) b3
  cases e3
  exact ⟨x0, x1, x2, x3, rfl, h1, h2, h3⟩
theorem lifted (os : Os) (started : os.Started) (H : Type) (enc : TypeId × Value → H) :
    ReturnsInHanded {} Try.checked os 20 .any (Rows.endorseMajoritySpec.pre6 enc Try.prog Try.f20 Rows.endorseMajorityRow.domain false) (Rows.endorseMajoritySpec.post enc Try.prog Try.f20 false true false false) := by
  refine returnsInHanded_of_change_sized (C := Try.checked) own started (by kernel_rfl) Try.func20
    (ChangeSpec.witness6 (enc := enc) (C := Try.checked) false ⟨#[], #[.agg #[.int .u8 0, .int .u8 0, .int .u8 0, .int .u8 0, .int .u8 0, .int .u8 0, .int .u8 0, .int .u8 0, .int .u8 0, .int .u8 0, .int .u8 0, .int .u8 0, .int .u8 0, .int .u8 0, .int .u8 0, .int .u8 0], .int .i64 0, .int .i64 0, .int .i64 0], []⟩ 8 (by kernel_rfl) (by kernel_rfl) (by kernel_rfl) (by kernel_rfl)) ?_
  intro W base args ds gs before hval hW hcnd hsz _
  refine row_calls (P := Try.prog) (fn := Try.f20) (s := Rows.endorseMajoritySpec) (tb := 4) (m := 40) (by kernel_rfl) (by kernel_rfl) laidOut (by kernel_rfl) (by kernel_rfl) rfl ?_ hval hW ?_
  · intro ds hl
    have hp : Try.f20.params.toList.length = 4 := by kernel_rfl
    rw [hp] at hl
    match ds, hl with
    | [d0, d1, d2, d3], _ => rfl
  · intro vs hvs _
    obtain ⟨x0, x1, x2, x3, rfl, h1, h2, h3⟩ := args_are vs hvs
    exact endorseMajority_C x0 x1 x2 x3
theorem proved : Rows.EndorseMajoritySaid :=
  OpenClaim.holds_of_wide 20 Try.f20 rfl rfl rfl rfl rfl rfl rfl ⟨rfl, rfl, rfl, rfl, rfl⟩ rfl rfl rfl rfl rfl (by kernel_rfl) Try.func20 closed
    (of_decide_eq_true (by kernel_rfl)) (by unfold Func.isWrapper; first | (rw [if_pos (by decide +kernel)]; kernel_rfl) | (rw [if_neg (by decide +kernel)]; exact ⟨rfl, rfl⟩))
    (fun os started H enc _ => lifted os started H enc)
#print axioms proved
end Go.Proofs.Ytmmaenfjnkoknaa.rowEndorseMajority
namespace Go.Proofs.Ytmmaenfjnkoknaa
theorem endorseMajority_va : Rows.EndorseMajoritySaid := rowEndorseMajority.proved
end Go.Proofs.Ytmmaenfjnkoknaa
