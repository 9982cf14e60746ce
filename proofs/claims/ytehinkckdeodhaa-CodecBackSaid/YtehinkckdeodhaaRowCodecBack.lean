/- The row of CodecBack: whatever the arguments, the law answers true, and its arguments read as they did. -/
import Derived.Test.YtehinkckdeodhaaGlaw6
import Derived.Test.YtehinkckdeodhaaHlaw6
import Derived.Test.YtehinkckdeodhaaVC
import Derived.Test.YtehinkckdeodhaaFacts
import Derived.ChangeOld
set_option linter.unusedVariables false
set_option maxRecDepth 100000
namespace Go.Proofs.Ytehinkckdeodhaa.rowCodecBack
open Go Go.ChangeShapes Go.WideShapes Go.ChangeAt Go.RowKit Go.Proofs.Ytehinkckdeodhaa.VA

theorem own : ownKnob Try.prog.godebug = none := own_ok
theorem laidOut : laidOutB Try.prog = true := laidOut_ok
theorem k9 : (Rows.codecBackRow.inPlace == Try.prog.inPlace 19) = true := by kernel_rfl
theorem k10 : (Rows.codecBackRow.unfollowed == Try.prog.unfollowed 19) = true := by kernel_rfl
theorem k11 : (Rows.codecBackRow.recurses == Try.prog.recurses 19) = true := by kernel_rfl
theorem k12 : (Rows.codecBackRow.named == Try.prog.varsNamed 19) = true := by kernel_rfl
theorem closed : joinedFacts Try.prog 19 Try.f19 Rows.codecBackSpec Rows.codecBackRow = true :=
  joined_all (by kernel_rfl) laidOut_ok mapsRowed_ok (by kernel_rfl) (by kernel_rfl) (by kernel_rfl) (by kernel_rfl) (by kernel_rfl) (by kernel_rfl) k9 k10 k11 k12 (by kernel_rfl) (by kernel_rfl) (by kernel_rfl) (by kernel_rfl) (by kernel_rfl) (by kernel_rfl) (by kernel_rfl) (by kernel_rfl) (by kernel_rfl) (by rw [plainKeys_ok]; rfl) (by kernel_rfl) stopsHeard_ok mayEnter_ok (by rw [liftsFinal_ok]; rfl) (by rw [make_ok]; rfl) (by kernel_rfl) (by kernel_rfl) (by kernel_rfl) (by kernel_rfl)
theorem args_are (vs : List V) (h : ArgsT Try.prog Try.f19.params.toList vs) : ∃ x0 : KV, ∃ x1 : KV, ∃ x2 : KQ, ∃ x3 : KR, vs = [.agg (cKV x0), .agg (cKV x1), .agg (cKQ x2), .agg (cKR x3)] ∧ (KV.ok x0) ∧ (KV.ok x1) ∧ (KQ.ok x2) ∧ (KR.ok x3) := by
  have hp : Try.f19.params.toList = [54, 54, 56, 90] := by kernel_rfl
  rw [hp] at h
  simp only [ArgsT] at h
  obtain ⟨v0, u0, rfl, a0, ⟨v1, u1, rfl, a1, ⟨v2, u2, rfl, a2, ⟨v3, u3, rfl, a3, rfl⟩⟩⟩⟩ := h
  obtain ⟨n0, c0, b0, rfl⟩ := argV_agg (by kernel_rfl) a0
  obtain ⟨x0, h0, rfl⟩ := argT_KV b0
  obtain ⟨n1, c1, b1, rfl⟩ := argV_agg (by kernel_rfl) a1
  obtain ⟨x1, h1, rfl⟩ := argT_KV b1
  obtain ⟨n2, c2, b2, rfl⟩ := argV_agg (by kernel_rfl) a2
  obtain ⟨x2, h2, rfl⟩ := argT_KQ b2
  obtain ⟨n3, c3, b3, rfl⟩ := argV_agg (by kernel_rfl) a3
  obtain ⟨x3, h3, rfl⟩ := argT_KR b3
  exact ⟨x0, x1, x2, x3, rfl, h0, h1, h2, h3⟩

theorem lifted (os : Os) (started : os.Started) (H : Type) (enc : TypeId × Value → H) :
    ReturnsInHanded {} Try.checked os 19 .any (Rows.codecBackSpec.pre6 enc Try.prog Try.f19 Rows.codecBackRow.domain false) (Rows.codecBackSpec.post enc Try.prog Try.f19 false true false false) := by
  refine returnsInHanded_of_change_sized (C := Try.checked) own started (by kernel_rfl) Try.func19
    (ChangeSpec.witness6 (enc := enc) (C := Try.checked) false ⟨#[], #[.agg #[.int .i64 0, .int .i64 0, .int .i64 0, .int .i64 0, .int .i64 0, .int .i64 0, .int .u64 0, .slice none 0 0], .agg #[.int .i64 0, .int .i64 0, .int .i64 0, .int .i64 0, .int .i64 0, .int .i64 0, .int .u64 0, .slice none 0 0], .agg #[.int .i64 0, .int .i64 0, .int .i64 0, .int .i64 0, .int .i64 0, .int .i64 0, .int .u64 0, .slice none 0 0], .agg #[.int .i64 0, .int .i64 0, .int .i64 0, .int .u64 0, .int .i64 0, .int .i64 0, .int .i64 0, .int .i64 0, .int .i64 0, .int .i64 0, .int .u64 0, .slice none 0 0, .slice none 0 0]], []⟩ 8 (by kernel_rfl) (by kernel_rfl) (by kernel_rfl) (by kernel_rfl)) ?_
  intro W base args ds gs before hval hW hcnd hsz _
  refine row_calls (P := Try.prog) (fn := Try.f19) (s := Rows.codecBackSpec) (tb := 4) (m := 40) (by kernel_rfl) (by kernel_rfl) laidOut (by kernel_rfl) (by kernel_rfl) rfl ?_ hval hW ?_
  · intro ds hl
    have hp : Try.f19.params.toList.length = 4 := by kernel_rfl
    rw [hp] at hl
    match ds, hl with
    | [d0, d1, d2, d3], _ => rfl
  · intro vs hvs _
    obtain ⟨x0, x1, x2, x3, rfl, h0, h1, h2, h3⟩ := args_are vs hvs
    exact codecBack_C x0 x1 x2 x3 (kv_gen h0) (kv_gen h1) (kq_num h2) (kr_fine h3)

theorem proved : Rows.CodecBackSaid :=
  OpenClaim.holds_of_wide 19 Try.f19 rfl rfl rfl rfl rfl rfl rfl ⟨rfl, rfl, rfl, rfl, rfl⟩ rfl rfl rfl rfl rfl (by kernel_rfl) Try.func19 closed
    (of_decide_eq_true (by kernel_rfl)) (by unfold Func.isWrapper; first | (rw [if_pos (by decide +kernel)]; kernel_rfl) | (rw [if_neg (by decide +kernel)]; exact ⟨rfl, rfl⟩))
    (fun os started H enc _ => lifted os started H enc)
#print axioms proved
end Go.Proofs.Ytehinkckdeodhaa.rowCodecBack
namespace Go.Proofs.Ytehinkckdeodhaa
/-- The row, under a short name, for the claim. -/
theorem codecBack_va : Rows.CodecBackSaid := rowCodecBack.proved
end Go.Proofs.Ytehinkckdeodhaa
