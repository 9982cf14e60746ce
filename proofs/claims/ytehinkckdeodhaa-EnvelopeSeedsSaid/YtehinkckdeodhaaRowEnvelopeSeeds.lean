/- The row of EnvelopeSeeds: whatever the arguments, the law answers true, and its arguments read as they did. -/
import Derived.Test.YtehinkckdeodhaaSlaw5
import Derived.Test.YtehinkckdeodhaaVC
import Derived.Test.YtehinkckdeodhaaFacts
import Derived.ChangeOld
set_option linter.unusedVariables false
set_option maxRecDepth 100000
namespace Go.Proofs.Ytehinkckdeodhaa.rowEnvelopeSeeds
open Go Go.ChangeShapes Go.WideShapes Go.ChangeAt Go.RowKit Go.Proofs.Ytehinkckdeodhaa.VA

theorem own : ownKnob Try.prog.godebug = none := own_ok
theorem laidOut : laidOutB Try.prog = true := laidOut_ok
theorem k9 : (Rows.envelopeSeedsRow.inPlace == Try.prog.inPlace 17) = true := by kernel_rfl
theorem k10 : (Rows.envelopeSeedsRow.unfollowed == Try.prog.unfollowed 17) = true := by kernel_rfl
theorem k11 : (Rows.envelopeSeedsRow.recurses == Try.prog.recurses 17) = true := by kernel_rfl
theorem k12 : (Rows.envelopeSeedsRow.named == Try.prog.varsNamed 17) = true := by kernel_rfl
theorem closed : joinedFacts Try.prog 17 Try.f17 Rows.envelopeSeedsSpec Rows.envelopeSeedsRow = true :=
  joined_all (by kernel_rfl) laidOut_ok mapsRowed_ok (by kernel_rfl) (by kernel_rfl) (by kernel_rfl) (by kernel_rfl) (by kernel_rfl) (by kernel_rfl) k9 k10 k11 k12 (by kernel_rfl) (by kernel_rfl) (by kernel_rfl) (by kernel_rfl) (by kernel_rfl) (by kernel_rfl) (by kernel_rfl) (by kernel_rfl) (by kernel_rfl) (by rw [plainKeys_ok]; rfl) (by kernel_rfl) stopsHeard_ok mayEnter_ok (by rw [liftsFinal_ok]; rfl) (by rw [make_ok]; rfl) (by kernel_rfl) (by kernel_rfl) (by kernel_rfl) (by kernel_rfl)
theorem args_are (vs : List V) (h : ArgsT Try.prog Try.f17.params.toList vs) : ∃ x0 : Bn 16, ∃ x1 : Ints, ∃ x2 : Row, vs = [.agg (dg x0), intsV .u64 x1, rowV x2] ∧ (x1.l.length ≤ maxLen ∧ ∀ y ∈ x1.l, (Lit.int .u64 y).wf = true) ∧ (x2.l.length ≤ maxLen) := by
  have hp : Try.f17.params.toList = [24, 86, 42] := by kernel_rfl
  rw [hp] at h
  simp only [ArgsT] at h
  obtain ⟨v0, u0, rfl, a0, ⟨v1, u1, rfl, a1, ⟨v2, u2, rfl, a2, rfl⟩⟩⟩ := h
  obtain ⟨n0, c0, b0, rfl⟩ := argV_agg (by kernel_rfl) a0
  obtain ⟨x0, rfl⟩ := argT_bn (m := 16) (e := 5) (by kernel_rfl) (by kernel_rfl) b0
  obtain ⟨n1, b1⟩ := argV_one (by kernel_rfl) a1
  obtain ⟨x1, h1, h1', e1⟩ := argT_ints (k := .u64) (e := 44) (by kernel_rfl) (by kernel_rfl) b1
  cases e1
  obtain ⟨n2, b2⟩ := argV_one (by kernel_rfl) a2
  obtain ⟨x2, h2, e2⟩ := argT_bytes (e := 5) (by kernel_rfl) (by kernel_rfl) b2
  cases e2
  exact ⟨x0, x1, x2, rfl, ⟨h1, h1'⟩, h2⟩

theorem lifted (os : Os) (started : os.Started) (H : Type) (enc : TypeId × Value → H) :
    ReturnsInHanded {} Try.checked os 17 .any (Rows.envelopeSeedsSpec.pre6 enc Try.prog Try.f17 Rows.envelopeSeedsRow.domain false) (Rows.envelopeSeedsSpec.post enc Try.prog Try.f17 false true false false) := by
  refine returnsInHanded_of_change_sized (C := Try.checked) own started (by kernel_rfl) Try.func17
    (ChangeSpec.witness6 (enc := enc) (C := Try.checked) false ⟨#[], #[.agg #[.int .u8 0, .int .u8 0, .int .u8 0, .int .u8 0, .int .u8 0, .int .u8 0, .int .u8 0, .int .u8 0, .int .u8 0, .int .u8 0, .int .u8 0, .int .u8 0, .int .u8 0, .int .u8 0, .int .u8 0, .int .u8 0], .slice none 0 0, .slice none 0 0], []⟩ 8 (by kernel_rfl) (by kernel_rfl) (by kernel_rfl) (by kernel_rfl)) ?_
  intro W base args ds gs before hval hW hcnd hsz _
  refine row_calls (P := Try.prog) (fn := Try.f17) (s := Rows.envelopeSeedsSpec) (tb := 4) (m := 40) (by kernel_rfl) (by kernel_rfl) laidOut (by kernel_rfl) (by kernel_rfl) rfl ?_ hval hW ?_
  · intro ds hl
    have hp : Try.f17.params.toList.length = 3 := by kernel_rfl
    rw [hp] at hl
    match ds, hl with
    | [d0, d1, d2], _ => rfl
  · intro vs hvs _
    obtain ⟨x0, x1, x2, rfl, h1, h2⟩ := args_are vs hvs
    exact envelopeSeeds_C x0 x1 (fun y hy => by have := wf_u64 (h1.2 y hy); omega) x2

theorem proved : Rows.EnvelopeSeedsSaid :=
  OpenClaim.holds_of_wide 17 Try.f17 rfl rfl rfl rfl rfl rfl rfl ⟨rfl, rfl, rfl, rfl, rfl⟩ rfl rfl rfl rfl rfl (by kernel_rfl) Try.func17 closed
    (of_decide_eq_true (by kernel_rfl)) (by unfold Func.isWrapper; first | (rw [if_pos (by decide +kernel)]; kernel_rfl) | (rw [if_neg (by decide +kernel)]; exact ⟨rfl, rfl⟩))
    (fun os started H enc _ => lifted os started H enc)
#print axioms proved
end Go.Proofs.Ytehinkckdeodhaa.rowEnvelopeSeeds
namespace Go.Proofs.Ytehinkckdeodhaa
/-- The row, under a short name, for the claim. -/
theorem envelopeSeeds_va : Rows.EnvelopeSeedsSaid := rowEnvelopeSeeds.proved
end Go.Proofs.Ytehinkckdeodhaa
