/- The row of CodecTells: whatever the arguments, the law answers true, and its arguments read as they did. -/
import Derived.Test.YtehinkckdeodhaaGlaw6
import Derived.Test.YtehinkckdeodhaaFlaw6
import Derived.Test.YtehinkckdeodhaaVC
import Derived.Test.YtehinkckdeodhaaFacts
import Derived.ChangeOld
set_option linter.unusedVariables false
set_option maxRecDepth 100000
namespace Go.Proofs.Ytehinkckdeodhaa.rowCodecTells
open Go Go.ChangeShapes Go.WideShapes Go.ChangeAt Go.RowKit Go.Proofs.Ytehinkckdeodhaa.VA

theorem own : ownKnob Try.prog.godebug = none := own_ok
theorem laidOut : laidOutB Try.prog = true := laidOut_ok
theorem k9 : (Rows.codecTellsRow.inPlace == Try.prog.inPlace 21) = true := by kernel_rfl
theorem k10 : (Rows.codecTellsRow.unfollowed == Try.prog.unfollowed 21) = true := by kernel_rfl
theorem k11 : (Rows.codecTellsRow.recurses == Try.prog.recurses 21) = true := by kernel_rfl
theorem k12 : (Rows.codecTellsRow.named == Try.prog.varsNamed 21) = true := by kernel_rfl
theorem closed : joinedFacts Try.prog 21 Try.f21 Rows.codecTellsSpec Rows.codecTellsRow = true :=
  joined_all (by kernel_rfl) laidOut_ok mapsRowed_ok (by kernel_rfl) (by kernel_rfl) (by kernel_rfl) (by kernel_rfl) (by kernel_rfl) (by kernel_rfl) k9 k10 k11 k12 (by kernel_rfl) (by kernel_rfl) (by kernel_rfl) (by kernel_rfl) (by kernel_rfl) (by kernel_rfl) (by kernel_rfl) (by kernel_rfl) (by kernel_rfl) (by rw [plainKeys_ok]; rfl) (by kernel_rfl) stopsHeard_ok mayEnter_ok (by rw [liftsFinal_ok]; rfl) (by rw [make_ok]; rfl) (by kernel_rfl) (by kernel_rfl) (by kernel_rfl) (by kernel_rfl)
theorem args_are (vs : List V) (h : ArgsT Try.prog Try.f21.params.toList vs) : ∃ x0 : KV, ∃ x1 : KQ, ∃ x2 : KR, ∃ x3 : Vlt, ∃ x4 : Req, ∃ x5 : Rpl, ∃ x6 : Rec, ∃ x7 : Row, vs = [.agg (cKV x0), .agg (cKQ x1), .agg (cKR x2), .agg (cVlt x3), .agg (cReq x4), .agg (cRpl x5), .agg (cRec x6), rowV x7] ∧ (KV.ok x0) ∧ (KQ.ok x1) ∧ (KR.ok x2) ∧ (Vlt.ok x3) ∧ (Req.ok x4) ∧ (Rpl.ok x5) ∧ (Rec.ok x6) ∧ (x7.l.length ≤ maxLen) := by
  have hp : Try.f21.params.toList = [54, 56, 90, 58, 63, 68, 96, 42] := by kernel_rfl
  rw [hp] at h
  simp only [ArgsT] at h
  obtain ⟨v0, u0, rfl, a0, ⟨v1, u1, rfl, a1, ⟨v2, u2, rfl, a2, ⟨v3, u3, rfl, a3, ⟨v4, u4, rfl, a4, ⟨v5, u5, rfl, a5, ⟨v6, u6, rfl, a6, ⟨v7, u7, rfl, a7, rfl⟩⟩⟩⟩⟩⟩⟩⟩ := h
  obtain ⟨n0, c0, b0, rfl⟩ := argV_agg (by kernel_rfl) a0
  obtain ⟨x0, h0, rfl⟩ := argT_KV b0
  obtain ⟨n1, c1, b1, rfl⟩ := argV_agg (by kernel_rfl) a1
  obtain ⟨x1, h1, rfl⟩ := argT_KQ b1
  obtain ⟨n2, c2, b2, rfl⟩ := argV_agg (by kernel_rfl) a2
  obtain ⟨x2, h2, rfl⟩ := argT_KR b2
  obtain ⟨n3, c3, b3, rfl⟩ := argV_agg (by kernel_rfl) a3
  obtain ⟨x3, h3, rfl⟩ := argT_Vlt b3
  obtain ⟨n4, c4, b4, rfl⟩ := argV_agg (by kernel_rfl) a4
  obtain ⟨x4, h4, rfl⟩ := argT_Req b4
  obtain ⟨n5, c5, b5, rfl⟩ := argV_agg (by kernel_rfl) a5
  obtain ⟨x5, h5, rfl⟩ := argT_Rpl b5
  obtain ⟨n6, c6, b6, rfl⟩ := argV_agg (by kernel_rfl) a6
  obtain ⟨x6, h6, rfl⟩ := argT_Rec b6
  obtain ⟨n7, b7⟩ := argV_one (by kernel_rfl) a7
  obtain ⟨x7, h7, e7⟩ := argT_bytes (e := 5) (by kernel_rfl) (by kernel_rfl) b7
  cases e7
  exact ⟨x0, x1, x2, x3, x4, x5, x6, x7, rfl, h0, h1, h2, h3, h4, h5, h6, h7⟩

theorem lifted (os : Os) (started : os.Started) (H : Type) (enc : TypeId × Value → H) :
    ReturnsInHanded {} Try.checked os 21 .any (Rows.codecTellsSpec.pre6 enc Try.prog Try.f21 Rows.codecTellsRow.domain false) (Rows.codecTellsSpec.post enc Try.prog Try.f21 false true false false) := by
  refine returnsInHanded_of_change_sized (C := Try.checked) own started (by kernel_rfl) Try.func21
    (ChangeSpec.witness6 (enc := enc) (C := Try.checked) false ⟨#[], #[.agg #[.int .i64 0, .int .i64 0, .int .i64 0, .int .i64 0, .int .i64 0, .int .i64 0, .int .u64 0, .slice none 0 0], .agg #[.int .i64 0, .int .i64 0, .int .i64 0, .int .i64 0, .int .i64 0, .int .i64 0, .int .u64 0, .slice none 0 0], .agg #[.int .i64 0, .int .i64 0, .int .i64 0, .int .u64 0, .int .i64 0, .int .i64 0, .int .i64 0, .int .i64 0, .int .i64 0, .int .i64 0, .int .u64 0, .slice none 0 0, .slice none 0 0], .agg #[.int .u8 0, .int .u8 0, .int .u8 0, .int .u8 0, .int .u64 0, .int .u8 0, .int .u8 0, .int .u8 0, .int .u8 0, .int .u8 0, .int .u8 0, .int .u8 0, .int .u8 0, .int .u8 0, .int .u8 0, .int .u8 0, .int .u8 0, .int .u8 0, .int .u8 0, .int .u8 0, .int .u8 0, .slice none 0 0, .int .i64 0, .int .i64 0, .int .u8 0, .int .u8 0, .int .u8 0, .int .u8 0, .int .u8 0, .int .u8 0, .int .u8 0, .int .u8 0, .int .u8 0, .int .u8 0, .int .u8 0, .int .u8 0, .int .u8 0, .int .u8 0, .int .u8 0, .int .u8 0, .bool false, .bool false], .agg #[.int .i64 0, .int .u8 0, .int .u8 0, .int .u8 0, .int .u8 0, .int .u8 0, .int .u8 0, .int .u8 0, .int .u8 0, .int .u8 0, .int .u8 0, .int .u8 0, .int .u8 0, .int .u8 0, .int .u8 0, .int .u8 0, .int .u8 0, .int .u8 0, .int .u8 0, .int .u8 0, .int .u8 0, .slice none 0 0, .int .i64 0, .int .u8 0, .int .u8 0, .int .u8 0, .int .u8 0, .int .u8 0, .int .u8 0, .int .u8 0, .int .u8 0, .int .u8 0, .int .u8 0, .int .u8 0, .int .u8 0, .int .u8 0, .int .u8 0, .int .u8 0, .int .u8 0, .int .u8 0, .int .u8 0, .int .u8 0, .int .u8 0, .int .u8 0, .int .u8 0, .int .u8 0, .int .u8 0, .int .u8 0, .int .u8 0, .int .u8 0, .int .u8 0, .int .u8 0, .int .u8 0, .int .u8 0, .int .u8 0, .int .i64 0, .int .u64 0], .agg #[.int .i64 0, .int .u8 0, .int .u8 0, .int .u8 0, .int .u8 0, .int .u64 0, .int .i64 0, .slice none 0 0, .int .i64 0, .int .u64 0], .agg #[.int .i64 0, .int .i64 0, .int .i64 0, .int .u64 0, .int .u8 0, .int .u8 0, .int .u8 0, .int .u8 0, .int .u64 0, .int .u8 0, .int .u8 0, .int .u8 0, .int .u8 0, .int .u8 0, .int .u8 0, .int .u8 0, .int .u8 0, .int .u8 0, .int .u8 0, .int .u8 0, .int .u8 0, .int .u8 0, .int .u8 0, .int .u8 0, .int .u8 0, .slice none 0 0, .int .i64 0, .int .i64 0, .int .u8 0, .int .u8 0, .int .u8 0, .int .u8 0, .int .u8 0, .int .u8 0, .int .u8 0, .int .u8 0, .int .u8 0, .int .u8 0, .int .u8 0, .int .u8 0, .int .u8 0, .int .u8 0, .int .u8 0, .int .u8 0, .bool false, .bool false, .slice none 0 0], .slice none 0 0], []⟩ 8 (by kernel_rfl) (by kernel_rfl) (by kernel_rfl) (by kernel_rfl)) ?_
  intro W base args ds gs before hval hW hcnd hsz _
  refine row_calls (P := Try.prog) (fn := Try.f21) (s := Rows.codecTellsSpec) (tb := 4) (m := 40) (by kernel_rfl) (by kernel_rfl) laidOut (by kernel_rfl) (by kernel_rfl) rfl ?_ hval hW ?_
  · intro ds hl
    have hp : Try.f21.params.toList.length = 8 := by kernel_rfl
    rw [hp] at hl
    match ds, hl with
    | [d0, d1, d2, d3, d4, d5, d6, d7], _ => rfl
  · intro vs hvs _
    obtain ⟨x0, x1, x2, x3, x4, x5, x6, x7, rfl, h0, h1, h2, h3, h4, h5, h6, h7⟩ := args_are vs hvs
    exact codecTells_C x0 x1 x2 x3 x4 x5 x6 x7 (kv_gen h0) (kq_num h1) (kr_fine h2) (req_num h4) (rpl_num h5) (rpl_gen h5) (rec_epoch h6)

theorem proved : Rows.CodecTellsSaid :=
  OpenClaim.holds_of_wide 21 Try.f21 rfl rfl rfl rfl rfl rfl rfl ⟨rfl, rfl, rfl, rfl, rfl⟩ rfl rfl rfl rfl rfl (by kernel_rfl) Try.func21 closed
    (of_decide_eq_true (by kernel_rfl)) (by unfold Func.isWrapper; first | (rw [if_pos (by decide +kernel)]; kernel_rfl) | (rw [if_neg (by decide +kernel)]; exact ⟨rfl, rfl⟩))
    (fun os started H enc _ => lifted os started H enc)
#print axioms proved
end Go.Proofs.Ytehinkckdeodhaa.rowCodecTells
namespace Go.Proofs.Ytehinkckdeodhaa
/-- The row, under a short name, for the claim. -/
theorem codecTells_va : Rows.CodecTellsSaid := rowCodecTells.proved
end Go.Proofs.Ytehinkckdeodhaa
