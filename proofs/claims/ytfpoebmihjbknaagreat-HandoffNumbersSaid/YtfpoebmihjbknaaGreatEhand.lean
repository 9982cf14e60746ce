/- Handoff: what was closed is opened; the chapter's own runs, HandoffBack. -/
import Derived.Test.YtfpoebmihjbknaaGreatDhand
import Derived.Test.YtfpoebmihjbknaaGreatPK
import Derived.Test.YtfpoebmihjbknaaGreatVC
set_option linter.unusedVariables false
set_option linter.unusedSimpArgs false
set_option maxRecDepth 100000
namespace Go.Proofs.YtfpoebmihjbknaaGreat.VA
open Go
attribute [local irreducible] WK NK XK TK RK FK CK CFK CallRel C
attribute [local irreducible] putR sealF textF fits recS closeF
theorem toRecordB2 {x : Rec} (hx : RightR x) (he : 0 ≤ x.epoch) : ∃ v, sameR v x ∧ C Tryz.prog 50 [rowV (.of (putR x))] [] (.tup [.agg (cRec v), vi .i64 0]) [] := by
  have h := rec_back hx he (r := rd0 (.of (putR x))) (at_rd0 _)
  have c1 := toRecord_C (.of (putR x))
  unfold recOut at c1
  rw [if_pos ⟨h.2.1, h.2.2⟩] at c1
  exact ⟨_, h.1, c1⟩
theorem by8_of {x : Int} (h0 : 0 ≤ x) (h1 : x ≤ 255) : ((by8 x).toNat : Int) = x := by
  have := by8_V x h0 h1
  simp only [u8V, V.sc.injEq, Value.int.injEq, true_and] at this
  exact this.symm
theorem hback (k : Bn 16) (to : Int) (p : Pcl) (h : RightR (recP p)) (hf : memb p.frm) :
    ∃ vs : Lst Vlt, samesV vs.l p.vaults.l ∧ vs.l.length ≤ 4 ∧ C Tryz.prog 19 [.agg (dg k), vi .i64 to, rowV (.of (ltrP k to p))] [] (.tup [.agg (cPcl ⟨p.frm, p.shard, p.epoch, vs⟩), vi .i64 0]) [] := by
  obtain ⟨⟨s0, s1⟩, ⟨e0, e1⟩, n4, _⟩ := recP_le h
  obtain ⟨v, hv, tr⟩ := toRecordB2 h (show 0 ≤ p.epoch by omega)
  have hle := putR_le h
  have ev := env_back k (p.epoch * 16 + p.shard).toNat (by omega) (tb 64 to) (by8 p.frm :: putR (recP p)) (by simp) (by rw [List.length_cons]; omega)
  have b8 := by8_of hf.1 (by have := hf.2; omega)
  have ho := hopenT_C k to (.of (ltrP k to p)) (by8 p.frm :: putR (recP p)) (by simp) (by show memb ((by8 p.frm).toNat : Int); rw [b8]; exact hf) v (by rw [hv.1]; rfl) tr ev
  have e1 : v.shard = p.shard := hv.2.1
  have e2 : v.epoch = p.epoch := hv.2.2.2.1
  have e3 : samesV v.vaults.l p.vaults.l := by have := hv.2.2.2.2.2; rwa [show (recP p).vaults.l = p.vaults.l from lsOf_l _] at this
  refine ⟨v.vaults, e3, by rw [e3.1]; exact n4, ?_⟩
  rw [e1, e2] at ho
  rw [show (((by8 p.frm :: putR (recP p)).getD 0 0).toNat : Int) = p.frm from b8] at ho
  exact ho
theorem thback (k : Bn 16) (to : Int) (t : Tok) (h : RightT t) :
    C Tryz.prog 23 [.agg (dg k), vi .i64 to, rowV (.of (ltrT k to t))] [] (.tup [.agg (cTok t), vi .i64 0]) [] := by
  have h' := h
  obtain ⟨hf, ⟨s0, s1⟩, e0, e1⟩ := h'
  have nl := numF_len t.epoch.toNat
  have ev := env_back k (t.epoch * 16 + t.shard).toNat (by omega) (tb 96 to) (by8 t.frm :: by8 t.shard :: numF t.epoch.toNat) (by simp) (by rw [List.length_cons, List.length_cons]; omega)
  have b1 := by8_of hf.1 (by have := hf.2; omega)
  have b2 := by8_of s0 (by omega)
  have tk : tokT (by8 t.frm :: by8 t.shard :: numF t.epoch.toNat) = t := by
    unfold tokT
    show (⟨((by8 t.frm).toNat : Int), ((by8 t.shard).toNat : Int), (numB (numF t.epoch.toNat) : Nat)⟩ : Tok) = t
    rw [b1, b2, numB_numF _ (by omega), Int.toNat_of_nonneg (by omega)]
  have hr := rightT_C t h
  rw [← tk] at hr
  have := thx_C k to (.of (ltrT k to t)) _ (by rw [List.length_cons, List.length_cons]; omega) ev true (by rw [tk] at hr ⊢; exact hr) (.tup [.agg (cTok t), vi .i64 0]) (by rw [tk]; rfl)
  exact this
theorem zp_v : Pcl.zero.vaults = .nil := rfl
theorem right_p1 : RightR (recP ⟨1, 3, 2, .nil⟩) := .inr ⟨⟨by decide, by decide, by decide, by decide, sameV_zero⟩, .inr (.inl ⟨rfl, rfl, by decide, fun i h => absurd h (Nat.not_lt_zero _)⟩)⟩
theorem right_t1 : RightT ⟨0, 3, 2⟩ := ⟨⟨by decide, by decide⟩, ⟨by decide, by decide⟩, by decide, by decide⟩
set_option maxHeartbeats 4000000 in
theorem known19_C : C Tryz.prog 9 [] [] (vb true) [] := by
  have e1 := hclose_C ((Bn.zero 16).set 0 (by8 1)) 0 ⟨1, 3, 2, .nil⟩ right_p1 ⟨by decide, by decide⟩ ⟨by decide, by decide⟩
  obtain ⟨vs, _, _, e2⟩ := hback ((Bn.zero 16).set 0 (by8 1)) 0 ⟨1, 3, 2, .nil⟩ right_p1 ⟨by decide, by decide⟩
  have e3 := hthanks_C ((Bn.zero 16).set 0 (by8 1)) 1 ⟨0, 3, 2⟩ right_t1 ⟨by decide, by decide⟩
  have e4 := thback ((Bn.zero 16).set 0 (by8 1)) 1 ⟨0, 3, 2⟩ right_t1
  have e5 := hopenE_C ((Bn.zero 16).set 0 (by8 1)) 0 .nil 12 (by decide) (openShort_C _ _ .nil (by decide))
  generalize ltrP ((Bn.zero 16).set 0 (by8 1)) 0 ⟨1, 3, 2, .nil⟩ = A at *
  generalize ltrT ((Bn.zero 16).set 0 (by8 1)) 1 ⟨0, 3, 2⟩ = B at *
  refine C_of mixed Tryz.func9 A_clavigerlaw19_known_ok A_clavigerlaw19_known_res _ A_clavigerlaw19_known_nt ?_
  (repeat' (first | simp (maxSteps := 2000000) -implicitDefEqProofs only [A_clavigerlaw19_known, zp_v, len_lst, cells_lst, rk_ext, fk_ext, sm_c, sm_a, lr_api, lr_keep, lr_hand, lr, lr2, oO, oN, oG, oNG, oM, oF, oL, rg, ci, seval, resAll, resL, resV, blkAt, undef, fillV, evParts, footOp, wrOp, chk, disj] | split | ((first | apply ck_call | apply cfk_call); (first | (apply call_pure (e1) cll cl) | (apply call_pure (e2) cll cl) | (apply call_pure (e3) cll cl) | (apply call_pure (e4) cll cl) | (apply call_pure (e5) cll cl)))))
  all_goals (refine out_eq ?_ (cl); first | rfl | (simp_all []; done) | (simp_all []; intros; omega) | (simp []; (repeat' split) <;> first | rfl | omega | (simp_all; done) | (simp_all; intros; omega)))
end Go.Proofs.YtfpoebmihjbknaaGreat.VA
