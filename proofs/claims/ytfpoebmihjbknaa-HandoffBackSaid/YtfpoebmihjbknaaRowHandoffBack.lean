/- The row of HandoffBack: whatever the arguments, the law answers true, and its arguments read as they did. -/
import Derived.Test.YtfpoebmihjbknaaGlaw6
import Derived.Test.YtfpoebmihjbknaaEhand
import Derived.Test.YtfpoebmihjbknaaVC
import Derived.Test.YtfpoebmihjbknaaFactsH
import Derived.ChangeOld
set_option linter.unusedVariables false
set_option maxRecDepth 100000
namespace Go.Proofs.Ytfpoebmihjbknaa.rowHandoffBack
open Go Go.ChangeShapes Go.WideShapes Go.ChangeAt Go.RowKit Go.Proofs.Ytfpoebmihjbknaa.VA
theorem own : ownKnob Try.prog.godebug = none := own_ok
theorem laidOut : laidOutB Try.prog = true := laidOut_ok
theorem k9 : (Rows.handoffBackRow.inPlace == Try.prog.inPlace 3) = true := by kernel_rfl
theorem k10 : (Rows.handoffBackRow.unfollowed == Try.prog.unfollowed 3) = true := by kernel_rfl
theorem k11 : (Rows.handoffBackRow.recurses == Try.prog.recurses 3) = true := by kernel_rfl
theorem k12 : (Rows.handoffBackRow.named == Try.prog.varsNamed 3) = true := by kernel_rfl
theorem closed : joinedFacts Try.prog 3 Try.f3 Rows.handoffBackSpec Rows.handoffBackRow = true :=
  joined_all (by kernel_rfl) laidOut_ok mapsRowed_ok (by kernel_rfl) (by kernel_rfl) (by kernel_rfl) (by kernel_rfl) (by kernel_rfl) (by kernel_rfl) k9 k10 k11 k12 (by kernel_rfl) (by kernel_rfl) (by kernel_rfl) (by kernel_rfl) (by kernel_rfl) (by kernel_rfl) (by kernel_rfl) (by kernel_rfl) (by kernel_rfl) (by rw [plainKeys_ok]; rfl) (by kernel_rfl) stopsHeard_ok mayEnter_ok (by rw [liftsFinal_ok]; rfl) (by rw [make_ok]; rfl) (by kernel_rfl) (by kernel_rfl) (by kernel_rfl) (by kernel_rfl)
theorem args_are (vs : List V) (h : ArgsT Try.prog Try.f3.params.toList vs) : ∃ x0 : Bn 16, ∃ x1 : Int, ∃ x2 : Int, ∃ x3 : Int, ∃ x4 : Int, ∃ x5 : Lst KV, vs = [.agg (dg x0), vi .i64 x1, vi .i64 x2, vi .i64 x3, vi .u64 x4, lstV cKV x5] ∧ ((Lit.int .i64 x1).wf = true) ∧ ((Lit.int .i64 x2).wf = true) ∧ ((Lit.int .i64 x3).wf = true) ∧ ((Lit.int .u64 x4).wf = true) ∧ (x5.l.length ≤ maxLen ∧ ∀ y ∈ x5.l, KV.ok y) := by
  have hp : Try.f3.params.toList = [23, 3, 3, 3, 24, 25] := by kernel_rfl
  rw [hp] at h
  simp only [ArgsT] at h
  obtain ⟨v0, u0, rfl, a0, ⟨v1, u1, rfl, a1, ⟨v2, u2, rfl, a2, ⟨v3, u3, rfl, a3, ⟨v4, u4, rfl, a4, ⟨v5, u5, rfl, a5, rfl⟩⟩⟩⟩⟩⟩ := h
  obtain ⟨n0, c0, b0, rfl⟩ := argV_agg (by kernel_rfl) a0
  obtain ⟨x0, rfl⟩ := argT_bn (m := 16) (e := 5) (by kernel_rfl) (by kernel_rfl) b0
  obtain ⟨n1, b1⟩ := argV_one (by kernel_rfl) a1
  obtain ⟨x1, h1, e1⟩ := argT_int (k := .i64) (by kernel_rfl) b1
  cases e1
  obtain ⟨n2, b2⟩ := argV_one (by kernel_rfl) a2
  obtain ⟨x2, h2, e2⟩ := argT_int (k := .i64) (by kernel_rfl) b2
  cases e2
  obtain ⟨n3, b3⟩ := argV_one (by kernel_rfl) a3
  obtain ⟨x3, h3, e3⟩ := argT_int (k := .i64) (by kernel_rfl) b3
  cases e3
  obtain ⟨n4, b4⟩ := argV_one (by kernel_rfl) a4
  obtain ⟨x4, h4, e4⟩ := argT_int (k := .u64) (by kernel_rfl) b4
  cases e4
  obtain ⟨n5, b5⟩ := argV_one (by kernel_rfl) a5
  obtain ⟨x5, h5, h5', e5⟩ := argT_lst (e := 57) cKV KV.ok (by kernel_rfl) (fun n vs h => argT_KV h) b5
  cases e5
  exact ⟨x0, x1, x2, x3, x4, x5, rfl, h1, h2, h3, h4, ⟨h5, h5'⟩⟩
theorem lifted (os : Os) (started : os.Started) (H : Type) (enc : TypeId × Value → H) :
    ReturnsInHanded {} Try.checked os 3 .any (Rows.handoffBackSpec.pre6 enc Try.prog Try.f3 Rows.handoffBackRow.domain false) (Rows.handoffBackSpec.post enc Try.prog Try.f3 false true false false) := by
  refine returnsInHanded_of_change_sized (C := Try.checked) own started (by kernel_rfl) Try.func3
    (ChangeSpec.witness6 (enc := enc) (C := Try.checked) false ⟨#[], #[.agg #[.int .u8 0, .int .u8 0, .int .u8 0, .int .u8 0, .int .u8 0, .int .u8 0, .int .u8 0, .int .u8 0, .int .u8 0, .int .u8 0, .int .u8 0, .int .u8 0, .int .u8 0, .int .u8 0, .int .u8 0, .int .u8 0], .int .i64 0, .int .i64 0, .int .i64 0, .int .u64 0, .slice none 0 0], []⟩ 8 (by kernel_rfl) (by kernel_rfl) (by kernel_rfl) (by kernel_rfl)) ?_
  intro W base args ds gs before hval hW hcnd hsz _
  refine row_calls (P := Try.prog) (fn := Try.f3) (s := Rows.handoffBackSpec) (tb := 4) (m := 40) (by kernel_rfl) (by kernel_rfl) laidOut (by kernel_rfl) (by kernel_rfl) rfl ?_ hval hW ?_
  · intro ds hl
    have hp : Try.f3.params.toList.length = 6 := by kernel_rfl
    rw [hp] at hl
    match ds, hl with
    | [d0, d1, d2, d3, d4, d5], _ => rfl
  · intro vs hvs _
    obtain ⟨x0, x1, x2, x3, x4, x5, rfl, h1, h2, h3, h4, h5⟩ := args_are vs hvs
    obtain ⟨e, rfl⟩ := Int.eq_ofNat_of_zero_le (wf_u64 h4).1
    exact handoffBack_C x0 x1 x2 x3 e x5 h5.1 (fun y hy => kv_gen (h5.2 y hy))
theorem proved : Rows.HandoffBackSaid :=
  OpenClaim.holds_of_wide 3 Try.f3 rfl rfl rfl rfl rfl rfl rfl ⟨rfl, rfl, rfl, rfl, rfl⟩ rfl rfl rfl rfl rfl (by kernel_rfl) Try.func3 closed
    (of_decide_eq_true (by kernel_rfl)) (by unfold Func.isWrapper; first | (rw [if_pos (by decide +kernel)]; kernel_rfl) | (rw [if_neg (by decide +kernel)]; exact ⟨rfl, rfl⟩))
    (fun os started H enc _ => lifted os started H enc)
#print axioms proved
end Go.Proofs.Ytfpoebmihjbknaa.rowHandoffBack
namespace Go.Proofs.Ytfpoebmihjbknaa
theorem handoffBack_va : Rows.HandoffBackSaid := rowHandoffBack.proved
end Go.Proofs.Ytfpoebmihjbknaa
