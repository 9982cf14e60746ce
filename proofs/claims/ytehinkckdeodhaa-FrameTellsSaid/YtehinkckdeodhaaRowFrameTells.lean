/- The row of FrameTells: whatever the arguments, the law answers true, and its arguments read as they did. -/
import Derived.Test.YtehinkckdeodhaaGlaw6
import Derived.Test.YtehinkckdeodhaaClaw9
import Derived.Test.YtehinkckdeodhaaVC
import Derived.Test.YtehinkckdeodhaaFacts
import Derived.ChangeOld
set_option linter.unusedVariables false
set_option maxRecDepth 100000
namespace Go.Proofs.Ytehinkckdeodhaa.rowFrameTells
open Go Go.ChangeShapes Go.WideShapes Go.ChangeAt Go.RowKit Go.Proofs.Ytehinkckdeodhaa.VA
theorem own : ownKnob Try.prog.godebug = none := own_ok
theorem laidOut : laidOutB Try.prog = true := laidOut_ok
theorem k9 : (Rows.frameTellsRow.inPlace == Try.prog.inPlace 24) = true := by kernel_rfl
theorem k10 : (Rows.frameTellsRow.unfollowed == Try.prog.unfollowed 24) = true := by kernel_rfl
theorem k11 : (Rows.frameTellsRow.recurses == Try.prog.recurses 24) = true := by kernel_rfl
theorem k12 : (Rows.frameTellsRow.named == Try.prog.varsNamed 24) = true := by kernel_rfl
theorem closed : joinedFacts Try.prog 24 Try.f24 Rows.frameTellsSpec Rows.frameTellsRow = true :=
  joined_all (by kernel_rfl) laidOut_ok mapsRowed_ok (by kernel_rfl) (by kernel_rfl) (by kernel_rfl) (by kernel_rfl) (by kernel_rfl) (by kernel_rfl) k9 k10 k11 k12 (by kernel_rfl) (by kernel_rfl) (by kernel_rfl) (by kernel_rfl) (by kernel_rfl) (by kernel_rfl) (by kernel_rfl) (by kernel_rfl) (by kernel_rfl) (by rw [plainKeys_ok]; rfl) (by kernel_rfl) stopsHeard_ok mayEnter_ok (by rw [liftsFinal_ok]; rfl) (by rw [make_ok]; rfl) (by kernel_rfl) (by kernel_rfl) (by kernel_rfl) (by kernel_rfl)
theorem args_are (vs : List V) (h : ArgsT Try.prog Try.f24.params.toList vs) : ∃ x0 : Bn 16, ∃ x1 : Bn 16, ∃ x2 : Bn 16, ∃ x3 : Int, ∃ x4 : KR, ∃ x5 : Rec, ∃ x6 : Row, ∃ x7 : Int, ∃ x8 : Int, vs = [.agg (dg x0), .agg (dg x1), .agg (dg x2), vi .u64 x3, .agg (cKR x4), .agg (cRec x5), rowV x6, vi .i64 x7, vi .u8 x8] ∧ ((Lit.int .u64 x3).wf = true) ∧ (KR.ok x4) ∧ (Rec.ok x5) ∧ (x6.l.length ≤ maxLen) ∧ ((Lit.int .i64 x7).wf = true) ∧ ((Lit.int .u8 x8).wf = true) := by
  have hp : Try.f24.params.toList = [24, 24, 24, 44, 90, 96, 42, 3, 5] := by kernel_rfl
  rw [hp] at h
  simp only [ArgsT] at h
  obtain ⟨v0, u0, rfl, a0, ⟨v1, u1, rfl, a1, ⟨v2, u2, rfl, a2, ⟨v3, u3, rfl, a3, ⟨v4, u4, rfl, a4, ⟨v5, u5, rfl, a5, ⟨v6, u6, rfl, a6, ⟨v7, u7, rfl, a7, ⟨v8, u8, rfl, a8, rfl⟩⟩⟩⟩⟩⟩⟩⟩⟩ := h
  obtain ⟨n0, c0, b0, rfl⟩ := argV_agg (by kernel_rfl) a0
  obtain ⟨x0, rfl⟩ := argT_bn (m := 16) (e := 5) (by kernel_rfl) (by kernel_rfl) b0
  obtain ⟨n1, c1, b1, rfl⟩ := argV_agg (by kernel_rfl) a1
  obtain ⟨x1, rfl⟩ := argT_bn (m := 16) (e := 5) (by kernel_rfl) (by kernel_rfl) b1
  obtain ⟨n2, c2, b2, rfl⟩ := argV_agg (by kernel_rfl) a2
  obtain ⟨x2, rfl⟩ := argT_bn (m := 16) (e := 5) (by kernel_rfl) (by kernel_rfl) b2
  obtain ⟨n3, b3⟩ := argV_one (by kernel_rfl) a3
  obtain ⟨x3, h3, e3⟩ := argT_int (k := .u64) (by kernel_rfl) b3
  cases e3
  obtain ⟨n4, c4, b4, rfl⟩ := argV_agg (by kernel_rfl) a4
  obtain ⟨x4, h4, rfl⟩ := argT_KR b4
  obtain ⟨n5, c5, b5, rfl⟩ := argV_agg (by kernel_rfl) a5
  obtain ⟨x5, h5, rfl⟩ := argT_Rec b5
  obtain ⟨n6, b6⟩ := argV_one (by kernel_rfl) a6
  obtain ⟨x6, h6, e6⟩ := argT_bytes (e := 5) (by kernel_rfl) (by kernel_rfl) b6
  cases e6
  obtain ⟨n7, b7⟩ := argV_one (by kernel_rfl) a7
  obtain ⟨x7, h7, e7⟩ := argT_int (k := .i64) (by kernel_rfl) b7
  cases e7
  obtain ⟨n8, b8⟩ := argV_one (by kernel_rfl) a8
  obtain ⟨x8, h8, e8⟩ := argT_int (k := .u8) (by kernel_rfl) b8
  cases e8
  exact ⟨x0, x1, x2, x3, x4, x5, x6, x7, x8, rfl, h3, h4, h5, h6, h7, h8⟩
theorem lifted (os : Os) (started : os.Started) (H : Type) (enc : TypeId × Value → H) :
    ReturnsInHanded {} Try.checked os 24 .any (Rows.frameTellsSpec.pre6 enc Try.prog Try.f24 Rows.frameTellsRow.domain false) (Rows.frameTellsSpec.post enc Try.prog Try.f24 false true false false) := by
  refine returnsInHanded_of_change_sized (C := Try.checked) own started (by kernel_rfl) Try.func24
    (ChangeSpec.witness6 (enc := enc) (C := Try.checked) false ⟨#[], #[.agg #[.int .u8 0, .int .u8 0, .int .u8 0, .int .u8 0, .int .u8 0, .int .u8 0, .int .u8 0, .int .u8 0, .int .u8 0, .int .u8 0, .int .u8 0, .int .u8 0, .int .u8 0, .int .u8 0, .int .u8 0, .int .u8 0], .agg #[.int .u8 0, .int .u8 0, .int .u8 0, .int .u8 0, .int .u8 0, .int .u8 0, .int .u8 0, .int .u8 0, .int .u8 0, .int .u8 0, .int .u8 0, .int .u8 0, .int .u8 0, .int .u8 0, .int .u8 0, .int .u8 0], .agg #[.int .u8 0, .int .u8 0, .int .u8 0, .int .u8 0, .int .u8 0, .int .u8 0, .int .u8 0, .int .u8 0, .int .u8 0, .int .u8 0, .int .u8 0, .int .u8 0, .int .u8 0, .int .u8 0, .int .u8 0, .int .u8 0], .int .u64 0, .agg #[.int .i64 0, .int .i64 0, .int .i64 0, .int .u64 0, .int .i64 0, .int .i64 0, .int .i64 0, .int .i64 0, .int .i64 0, .int .i64 0, .int .u64 0, .slice none 0 0, .slice none 0 0], .agg #[.int .i64 0, .int .i64 0, .int .i64 0, .int .u64 0, .int .u8 0, .int .u8 0, .int .u8 0, .int .u8 0, .int .u64 0, .int .u8 0, .int .u8 0, .int .u8 0, .int .u8 0, .int .u8 0, .int .u8 0, .int .u8 0, .int .u8 0, .int .u8 0, .int .u8 0, .int .u8 0, .int .u8 0, .int .u8 0, .int .u8 0, .int .u8 0, .int .u8 0, .slice none 0 0, .int .i64 0, .int .i64 0, .int .u8 0, .int .u8 0, .int .u8 0, .int .u8 0, .int .u8 0, .int .u8 0, .int .u8 0, .int .u8 0, .int .u8 0, .int .u8 0, .int .u8 0, .int .u8 0, .int .u8 0, .int .u8 0, .int .u8 0, .int .u8 0, .bool false, .bool false, .slice none 0 0], .slice none 0 0, .int .i64 0, .int .u8 0], []⟩ 8 (by kernel_rfl) (by kernel_rfl) (by kernel_rfl) (by kernel_rfl)) ?_
  intro W base args ds gs before hval hW hcnd hsz _
  refine row_calls (P := Try.prog) (fn := Try.f24) (s := Rows.frameTellsSpec) (tb := 4) (m := 40) (by kernel_rfl) (by kernel_rfl) laidOut (by kernel_rfl) (by kernel_rfl) rfl ?_ hval hW ?_
  · intro ds hl
    have hp : Try.f24.params.toList.length = 9 := by kernel_rfl
    rw [hp] at hl
    match ds, hl with
    | [d0, d1, d2, d3, d4, d5, d6, d7, d8], _ => rfl
  · intro vs hvs _
    obtain ⟨x0, x1, x2, x3, x4, x5, x6, x7, x8, rfl, h3, h4, h5, h6, h7, h8⟩ := args_are vs hvs
    obtain ⟨tu, e⟩ := u8_of h8; rw [e]; obtain ⟨n, rfl, hn⟩ : ∃ n : Nat, x3 = n ∧ n < 18446744073709551616 := ⟨x3.toNat, by have := wf_u64 h3; omega, by have := wf_u64 h3; omega⟩; exact frameTells_C x0 x1 x2 n hn x4 x5 x6 x7 tu (kr_fine h4) (rec_epoch h5)
theorem proved : Rows.FrameTellsSaid :=
  OpenClaim.holds_of_wide 24 Try.f24 rfl rfl rfl rfl rfl rfl rfl ⟨rfl, rfl, rfl, rfl, rfl⟩ rfl rfl rfl rfl rfl (by kernel_rfl) Try.func24 closed
    (of_decide_eq_true (by kernel_rfl)) (by unfold Func.isWrapper; first | (rw [if_pos (by decide +kernel)]; kernel_rfl) | (rw [if_neg (by decide +kernel)]; exact ⟨rfl, rfl⟩))
    (fun os started H enc _ => lifted os started H enc)
#print axioms proved
end Go.Proofs.Ytehinkckdeodhaa.rowFrameTells
namespace Go.Proofs.Ytehinkckdeodhaa
theorem frameTells_va : Rows.FrameTellsSaid := rowFrameTells.proved
end Go.Proofs.Ytehinkckdeodhaa
