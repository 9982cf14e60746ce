/- The row of CodecReads: whatever the arguments, the law answers true, and its arguments read as they did. -/
import Derived.Test.YtehinkckdeodhaaGlaw6
import Derived.Test.YtehinkckdeodhaaRlaw6
import Derived.Test.YtehinkckdeodhaaVC
import Derived.Test.YtehinkckdeodhaaFacts
import Derived.ChangeOld
set_option linter.unusedVariables false
set_option maxRecDepth 100000
namespace Go.Proofs.Ytehinkckdeodhaa.rowCodecReads
open Go Go.ChangeShapes Go.WideShapes Go.ChangeAt Go.RowKit Go.Proofs.Ytehinkckdeodhaa.VA

theorem own : ownKnob Try.prog.godebug = none := own_ok
theorem laidOut : laidOutB Try.prog = true := laidOut_ok
theorem k9 : (Rows.codecReadsRow.inPlace == Try.prog.inPlace 18) = true := by kernel_rfl
theorem k10 : (Rows.codecReadsRow.unfollowed == Try.prog.unfollowed 18) = true := by kernel_rfl
theorem k11 : (Rows.codecReadsRow.recurses == Try.prog.recurses 18) = true := by kernel_rfl
theorem k12 : (Rows.codecReadsRow.named == Try.prog.varsNamed 18) = true := by kernel_rfl
theorem closed : joinedFacts Try.prog 18 Try.f18 Rows.codecReadsSpec Rows.codecReadsRow = true :=
  joined_all (by kernel_rfl) laidOut_ok mapsRowed_ok (by kernel_rfl) (by kernel_rfl) (by kernel_rfl) (by kernel_rfl) (by kernel_rfl) (by kernel_rfl) k9 k10 k11 k12 (by kernel_rfl) (by kernel_rfl) (by kernel_rfl) (by kernel_rfl) (by kernel_rfl) (by kernel_rfl) (by kernel_rfl) (by kernel_rfl) (by kernel_rfl) (by rw [plainKeys_ok]; rfl) (by kernel_rfl) stopsHeard_ok mayEnter_ok (by rw [liftsFinal_ok]; rfl) (by rw [make_ok]; rfl) (by kernel_rfl) (by kernel_rfl) (by kernel_rfl) (by kernel_rfl)
theorem args_are (vs : List V) (h : ArgsT Try.prog Try.f18.params.toList vs) : ∃ x0 : KV, ∃ x1 : KQ, ∃ x2 : KR, ∃ x3 : Int, ∃ x4 : Int, ∃ x5 : Row, vs = [.agg (cKV x0), .agg (cKQ x1), .agg (cKR x2), vi .i64 x3, vi .u8 x4, rowV x5] ∧ (KV.ok x0) ∧ (KQ.ok x1) ∧ (KR.ok x2) ∧ ((Lit.int .i64 x3).wf = true) ∧ ((Lit.int .u8 x4).wf = true) ∧ (x5.l.length ≤ maxLen) := by
  have hp : Try.f18.params.toList = [54, 56, 90, 3, 5, 42] := by kernel_rfl
  rw [hp] at h
  simp only [ArgsT] at h
  obtain ⟨v0, u0, rfl, a0, ⟨v1, u1, rfl, a1, ⟨v2, u2, rfl, a2, ⟨v3, u3, rfl, a3, ⟨v4, u4, rfl, a4, ⟨v5, u5, rfl, a5, rfl⟩⟩⟩⟩⟩⟩ := h
  obtain ⟨n0, c0, b0, rfl⟩ := argV_agg (by kernel_rfl) a0
  obtain ⟨x0, h0, rfl⟩ := argT_KV b0
  obtain ⟨n1, c1, b1, rfl⟩ := argV_agg (by kernel_rfl) a1
  obtain ⟨x1, h1, rfl⟩ := argT_KQ b1
  obtain ⟨n2, c2, b2, rfl⟩ := argV_agg (by kernel_rfl) a2
  obtain ⟨x2, h2, rfl⟩ := argT_KR b2
  obtain ⟨n3, b3⟩ := argV_one (by kernel_rfl) a3
  obtain ⟨x3, h3, e3⟩ := argT_int (k := .i64) (by kernel_rfl) b3
  cases e3
  obtain ⟨n4, b4⟩ := argV_one (by kernel_rfl) a4
  obtain ⟨x4, h4, e4⟩ := argT_int (k := .u8) (by kernel_rfl) b4
  cases e4
  obtain ⟨n5, b5⟩ := argV_one (by kernel_rfl) a5
  obtain ⟨x5, h5, e5⟩ := argT_bytes (e := 5) (by kernel_rfl) (by kernel_rfl) b5
  cases e5
  exact ⟨x0, x1, x2, x3, x4, x5, rfl, h0, h1, h2, h3, h4, h5⟩

theorem lifted (os : Os) (started : os.Started) (H : Type) (enc : TypeId × Value → H) :
    ReturnsInHanded {} Try.checked os 18 .any (Rows.codecReadsSpec.pre6 enc Try.prog Try.f18 Rows.codecReadsRow.domain false) (Rows.codecReadsSpec.post enc Try.prog Try.f18 false true false false) := by
  refine returnsInHanded_of_change_sized (C := Try.checked) own started (by kernel_rfl) Try.func18
    (ChangeSpec.witness6 (enc := enc) (C := Try.checked) false ⟨#[], #[.agg #[.int .i64 0, .int .i64 0, .int .i64 0, .int .i64 0, .int .i64 0, .int .i64 0, .int .u64 0, .slice none 0 0], .agg #[.int .i64 0, .int .i64 0, .int .i64 0, .int .i64 0, .int .i64 0, .int .i64 0, .int .u64 0, .slice none 0 0], .agg #[.int .i64 0, .int .i64 0, .int .i64 0, .int .u64 0, .int .i64 0, .int .i64 0, .int .i64 0, .int .i64 0, .int .i64 0, .int .i64 0, .int .u64 0, .slice none 0 0, .slice none 0 0], .int .i64 0, .int .u8 0, .slice none 0 0], []⟩ 8 (by kernel_rfl) (by kernel_rfl) (by kernel_rfl) (by kernel_rfl)) ?_
  intro W base args ds gs before hval hW hcnd hsz _
  refine row_calls (P := Try.prog) (fn := Try.f18) (s := Rows.codecReadsSpec) (tb := 4) (m := 40) (by kernel_rfl) (by kernel_rfl) laidOut (by kernel_rfl) (by kernel_rfl) rfl ?_ hval hW ?_
  · intro ds hl
    have hp : Try.f18.params.toList.length = 6 := by kernel_rfl
    rw [hp] at hl
    match ds, hl with
    | [d0, d1, d2, d3, d4, d5], _ => rfl
  · intro vs hvs _
    obtain ⟨x0, x1, x2, x3, x4, x5, rfl, h0, h1, h2, h3, h4, h5⟩ := args_are vs hvs
    obtain ⟨tu, e⟩ := u8_of h4; rw [e]; exact codecReads_C x0 x1 x2 x3 tu x5 (kv_gen h0) (kq_num h1) (kr_fine h2)

theorem proved : Rows.CodecReadsSaid :=
  OpenClaim.holds_of_wide 18 Try.f18 rfl rfl rfl rfl rfl rfl rfl ⟨rfl, rfl, rfl, rfl, rfl⟩ rfl rfl rfl rfl rfl (by kernel_rfl) Try.func18 closed
    (of_decide_eq_true (by kernel_rfl)) (by unfold Func.isWrapper; first | (rw [if_pos (by decide +kernel)]; kernel_rfl) | (rw [if_neg (by decide +kernel)]; exact ⟨rfl, rfl⟩))
    (fun os started H enc _ => lifted os started H enc)
#print axioms proved
end Go.Proofs.Ytehinkckdeodhaa.rowCodecReads
namespace Go.Proofs.Ytehinkckdeodhaa
/-- The row, under a short name, for the claim. -/
theorem codecReads_va : Rows.CodecReadsSaid := rowCodecReads.proved
end Go.Proofs.Ytehinkckdeodhaa
