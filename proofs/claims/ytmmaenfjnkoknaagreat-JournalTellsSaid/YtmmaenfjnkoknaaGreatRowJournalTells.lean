/- The row of JournalTells: whatever the arguments, the law answers true, and its arguments read as they did. -/
import Derived.Test.YtmmaenfjnkoknaaGreatGlaw6
import Derived.Test.YtmmaenfjnkoknaaGreatGregister
import Derived.Test.YtmmaenfjnkoknaaGreatYjou
import Derived.Test.YtmmaenfjnkoknaaGreatVC
import Derived.Test.YtmmaenfjnkoknaaGreatFactsZ
import Derived.ChangeOld
set_option linter.unusedVariables false
set_option maxRecDepth 100000
namespace Go.Proofs.YtmmaenfjnkoknaaGreat.rowJournalTells
open Go Go.ChangeShapes Go.WideShapes Go.ChangeAt Go.RowKit Go.Proofs.YtmmaenfjnkoknaaGreat.VA
theorem own : ownKnob Tryz.prog.godebug = none := own_ok
theorem laidOut : laidOutB Tryz.prog = true := laidOut_ok
theorem k9 : (Rows.journalTellsRow.inPlace == Tryz.prog.inPlace 6) = true := by kernel_rfl
theorem k10 : (Rows.journalTellsRow.unfollowed == Tryz.prog.unfollowed 6) = true := by kernel_rfl
theorem k11 : (Rows.journalTellsRow.recurses == Tryz.prog.recurses 6) = true := by kernel_rfl
theorem k12 : (Rows.journalTellsRow.named == Tryz.prog.varsNamed 6) = true := by kernel_rfl
theorem closed : joinedFacts Tryz.prog 6 Tryz.f6 Rows.journalTellsSpec Rows.journalTellsRow = true :=
  joined_all (by kernel_rfl) laidOut_ok mapsRowed_ok (by kernel_rfl) (by kernel_rfl) (by kernel_rfl) (by kernel_rfl) (by kernel_rfl) (by kernel_rfl) k9 k10 k11 k12 (by kernel_rfl) (by kernel_rfl) (by kernel_rfl) (by kernel_rfl) (by kernel_rfl) (by kernel_rfl) (by kernel_rfl) (by kernel_rfl) (by kernel_rfl) (by rw [plainKeys_ok]; rfl) (by kernel_rfl) stopsHeard_ok mayEnter_ok (by rw [liftsFinal_ok]; rfl) (by rw [make_ok]; rfl) (by kernel_rfl) (by kernel_rfl) (by kernel_rfl) (by kernel_rfl)
theorem args_are (vs : List V) (h : ArgsT Tryz.prog Tryz.f6.params.toList vs) : ∃ x0 : Bn 16, ∃ x1 : Lst KR, ∃ x2 : Rgr, ∃ x3 : Int, ∃ x4 : Int, ∃ x5 : Row, ∃ x6 : Int, vs = [.agg (dg x0), lstV cKR x1, .agg (cRgr x2), vi .i64 x3, vi .i64 x4, rowV x5, vi .u64 x6] ∧ (x1.l.length ≤ maxLen ∧ ∀ y ∈ x1.l, KR.ok y) ∧ (Rgr.ok x2) ∧ ((Lit.int .i64 x3).wf = true) ∧ ((Lit.int .i64 x4).wf = true) ∧ (x5.l.length ≤ maxLen) ∧ ((Lit.int .u64 x6).wf = true) := by
  have hp : Tryz.f6.params.toList = [23, 24, 32, 3, 3, 25, 30] := by kernel_rfl
  rw [hp] at h
  simp only [ArgsT] at h
  obtain ⟨v0, u0, rfl, a0, ⟨v1, u1, rfl, a1, ⟨v2, u2, rfl, a2, ⟨v3, u3, rfl, a3, ⟨v4, u4, rfl, a4, ⟨v5, u5, rfl, a5, ⟨v6, u6, rfl, a6, rfl⟩⟩⟩⟩⟩⟩⟩ := h
  obtain ⟨n0, c0, b0, rfl⟩ := argV_agg (by kernel_rfl) a0
  obtain ⟨x0, rfl⟩ := argT_bn (m := 16) (e := 5) (by kernel_rfl) (by kernel_rfl) b0
  obtain ⟨n1, b1⟩ := argV_one (by kernel_rfl) a1
  obtain ⟨x1, h1, h1', e1⟩ := argT_lst (e := 59) cKR KR.ok (by kernel_rfl) (fun n vs h => argT_KR h) b1
  cases e1
  obtain ⟨n2, c2, b2, rfl⟩ := argV_agg (by kernel_rfl) a2
  obtain ⟨x2, h2, rfl⟩ := argT_Rgr b2
  obtain ⟨n3, b3⟩ := argV_one (by kernel_rfl) a3
  obtain ⟨x3, h3, e3⟩ := argT_int (k := .i64) (by kernel_rfl) b3
  cases e3
  obtain ⟨n4, b4⟩ := argV_one (by kernel_rfl) a4
  obtain ⟨x4, h4, e4⟩ := argT_int (k := .i64) (by kernel_rfl) b4
  cases e4
  obtain ⟨n5, b5⟩ := argV_one (by kernel_rfl) a5
  obtain ⟨x5, h5, e5⟩ := argT_bytes (e := 5) (by kernel_rfl) (by kernel_rfl) b5
  cases e5
  obtain ⟨n6, b6⟩ := argV_one (by kernel_rfl) a6
  obtain ⟨x6, h6, e6⟩ := argT_int (k := .u64) (by kernel_rfl) b6
  cases e6
  exact ⟨x0, x1, x2, x3, x4, x5, x6, rfl, ⟨h1, h1'⟩, h2, h3, h4, h5, h6⟩
theorem lifted (os : Os) (started : os.Started) (H : Type) (enc : TypeId × Value → H) :
    ReturnsInHanded {} Tryz.checked os 6 .any (Rows.journalTellsSpec.pre6 enc Tryz.prog Tryz.f6 Rows.journalTellsRow.domain false) (Rows.journalTellsSpec.post enc Tryz.prog Tryz.f6 false true false false) := by
  refine returnsInHanded_of_change_sized (C := Tryz.checked) own started (by kernel_rfl) Tryz.func6
    (ChangeSpec.witness6 (enc := enc) (C := Tryz.checked) false ⟨#[], #[.agg #[.int .u8 0, .int .u8 0, .int .u8 0, .int .u8 0, .int .u8 0, .int .u8 0, .int .u8 0, .int .u8 0, .int .u8 0, .int .u8 0, .int .u8 0, .int .u8 0, .int .u8 0, .int .u8 0, .int .u8 0, .int .u8 0], .slice none 0 0, .agg #[.int .u64 0, .int .u64 0, .int .u64 0, .int .u8 0, .int .u8 0, .int .u8 0, .int .u8 0, .int .u8 0, .int .u8 0, .int .u8 0, .int .u8 0, .int .u8 0, .int .u8 0, .int .u8 0, .int .u8 0, .int .u8 0, .int .u8 0, .int .u8 0, .int .u8 0, .int .i64 0], .int .i64 0, .int .i64 0, .slice none 0 0, .int .u64 0], []⟩ 8 (by kernel_rfl) (by kernel_rfl) (by kernel_rfl) (by kernel_rfl)) ?_
  intro W base args ds gs before hval hW hcnd hsz _
  refine row_calls (P := Tryz.prog) (fn := Tryz.f6) (s := Rows.journalTellsSpec) (tb := 4) (m := 40) (by kernel_rfl) (by kernel_rfl) laidOut (by kernel_rfl) (by kernel_rfl) rfl ?_ hval hW ?_
  · intro ds hl
    have hp : Tryz.f6.params.toList.length = 7 := by kernel_rfl
    rw [hp] at hl
    match ds, hl with
    | [d0, d1, d2, d3, d4, d5, d6], _ => rfl
  · intro vs hvs _
    obtain ⟨x0, x1, x2, x3, x4, x5, x6, rfl, h1, h2, h3, h4, h5, h6⟩ := args_are vs hvs
    obtain ⟨o, rfl⟩ := Int.eq_ofNat_of_zero_le (wf_u64 h6).1
    exact journalTells_C x0 x1 (fun y hy => kr_fine (h1.2 y hy)) x2 x2.count.toNat x2.base.toNat (Int.toNat_of_nonneg (wf_u64 h2.2.1).1).symm (Int.toNat_of_nonneg (wf_u64 h2.2.2.1).1).symm x3 x4 x5 o
theorem proved : Rows.JournalTellsSaid :=
  OpenClaim.holds_of_wide 6 Tryz.f6 rfl rfl rfl rfl rfl rfl rfl ⟨rfl, rfl, rfl, rfl, rfl⟩ rfl rfl rfl rfl rfl (by kernel_rfl) Tryz.func6 closed
    (of_decide_eq_true (by kernel_rfl)) (by unfold Func.isWrapper; first | (rw [if_pos (by decide +kernel)]; kernel_rfl) | (rw [if_neg (by decide +kernel)]; exact ⟨rfl, rfl⟩))
    (fun os started H enc _ => lifted os started H enc)
#print axioms proved
end Go.Proofs.YtmmaenfjnkoknaaGreat.rowJournalTells
namespace Go.Proofs.YtmmaenfjnkoknaaGreat
theorem journalTells_va : Rows.JournalTellsSaid := rowJournalTells.proved
end Go.Proofs.YtmmaenfjnkoknaaGreat
