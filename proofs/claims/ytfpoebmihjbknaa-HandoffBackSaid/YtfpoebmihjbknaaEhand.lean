/- Handoff: what was closed is opened; the chapter's own runs, HandoffBack. -/
import Derived.Test.YtfpoebmihjbknaaDhand
import Derived.Test.YtfpoebmihjbknaaPK
import Derived.Test.YtfpoebmihjbknaaVC
set_option linter.unusedVariables false
set_option linter.unusedSimpArgs false
set_option maxRecDepth 100000
namespace Go.Proofs.Ytfpoebmihjbknaa.VA
open Go
attribute [local irreducible] WK NK XK TK RK FK CK CFK CallRel C
attribute [local irreducible] putR sealF textF fits recS closeF
theorem toRecordB2 {x : Rec} (hx : RightR x) (he : 0 ≤ x.epoch) : ∃ v, sameR v x ∧ C Try.prog 21 [rowV (.of (putR x))] [] (.tup [.agg (cRec v), vi .i64 0]) [] := by
  have h := rec_back hx he (r := rd0 (.of (putR x))) (at_rd0 _)
  have c1 := toRecord_C (.of (putR x))
  unfold recOut at c1
  rw [if_pos ⟨h.2.1, h.2.2⟩] at c1
  exact ⟨_, h.1, c1⟩
theorem by8_of {x : Int} (h0 : 0 ≤ x) (h1 : x ≤ 255) : ((by8 x).toNat : Int) = x := by
  have := by8_V x h0 h1
  simp only [u8V, V.sc.injEq, Value.int.injEq, true_and] at this
  exact this.symm
theorem hback (k : Bn 16) (to : Int) (p : Pcl) (h : RightR (recP p)) (hf : memb p.frm) :
    ∃ vs : Lst Vlt, samesV vs.l p.vaults.l ∧ vs.l.length ≤ 4 ∧ C Try.prog 7 [.agg (dg k), vi .i64 to, rowV (.of (ltrP k to p))] [] (.tup [.agg (cPcl ⟨p.frm, p.shard, p.epoch, vs⟩), vi .i64 0]) [] := by
  obtain ⟨⟨s0, s1⟩, ⟨e0, e1⟩, n4, _⟩ := recP_le h
  obtain ⟨v, hv, tr⟩ := toRecordB2 h (show 0 ≤ p.epoch by omega)
  have hle := putR_le h
  have ev := env_back k (p.epoch * 16 + p.shard).toNat (by omega) (tb 64 to) (by8 p.frm :: putR (recP p)) (by simp) (by rw [List.length_cons]; omega)
  have b8 := by8_of hf.1 (by have := hf.2; omega)
  have ho := hopenT_C k to (.of (ltrP k to p)) (by8 p.frm :: putR (recP p)) (by simp) (by show memb ((by8 p.frm).toNat : Int); rw [b8]; exact hf) v (by rw [hv.1]; rfl) tr ev
  have e1 : v.shard = p.shard := hv.2.1
  have e2 : v.epoch = p.epoch := hv.2.2.2.1
  have e3 : samesV v.vaults.l p.vaults.l := by have := hv.2.2.2.2.2; rwa [show (recP p).vaults.l = p.vaults.l from lsOf_l _] at this
  refine ⟨v.vaults, e3, by rw [e3.1]; exact n4, ?_⟩
  rw [e1, e2] at ho
  rw [show (((by8 p.frm :: putR (recP p)).getD 0 0).toNat : Int) = p.frm from b8] at ho
  exact ho
theorem thback (k : Bn 16) (to : Int) (t : Tok) (h : RightT t) :
    C Try.prog 9 [.agg (dg k), vi .i64 to, rowV (.of (ltrT k to t))] [] (.tup [.agg (cTok t), vi .i64 0]) [] := by
  have h' := h
  obtain ⟨hf, ⟨s0, s1⟩, e0, e1⟩ := h'
  have nl := numF_len t.epoch.toNat
  have ev := env_back k (t.epoch * 16 + t.shard).toNat (by omega) (tb 96 to) (by8 t.frm :: by8 t.shard :: numF t.epoch.toNat) (by simp) (by rw [List.length_cons, List.length_cons]; omega)
  have b1 := by8_of hf.1 (by have := hf.2; omega)
  have b2 := by8_of s0 (by omega)
  have tk : tokT (by8 t.frm :: by8 t.shard :: numF t.epoch.toNat) = t := by
    unfold tokT
    show (⟨((by8 t.frm).toNat : Int), ((by8 t.shard).toNat : Int), (numB (numF t.epoch.toNat) : Nat)⟩ : Tok) = t
    rw [b1, b2, numB_numF _ (by omega), Int.toNat_of_nonneg (by omega)]
  have hr := rightT_C t h
  rw [← tk] at hr
  have := thx_C k to (.of (ltrT k to t)) _ (by rw [List.length_cons, List.length_cons]; omega) ev true (by rw [tk] at hr ⊢; exact hr) (.tup [.agg (cTok t), vi .i64 0]) (by rw [tk]; rfl)
  exact this
theorem zp_v : Pcl.zero.vaults = .nil := rfl
theorem right_p1 : RightR (recP ⟨1, 3, 2, .nil⟩) := .inr ⟨⟨by decide, by decide, by decide, by decide, sameV_zero⟩, .inr (.inl ⟨rfl, rfl, by decide, fun i h => absurd h (Nat.not_lt_zero _)⟩)⟩
theorem right_t1 : RightT ⟨0, 3, 2⟩ := ⟨⟨by decide, by decide⟩, ⟨by decide, by decide⟩, by decide, by decide⟩
set_option maxHeartbeats 4000000 in
theorem known19_C : C Try.prog 13 [] [] (vb true) [] := by
  have e1 := hclose_C ((Bn.zero 16).set 0 (by8 1)) 0 ⟨1, 3, 2, .nil⟩ right_p1 ⟨by decide, by decide⟩ ⟨by decide, by decide⟩
  obtain ⟨vs, _, _, e2⟩ := hback ((Bn.zero 16).set 0 (by8 1)) 0 ⟨1, 3, 2, .nil⟩ right_p1 ⟨by decide, by decide⟩
  have e3 := hthanks_C ((Bn.zero 16).set 0 (by8 1)) 1 ⟨0, 3, 2⟩ right_t1 ⟨by decide, by decide⟩
  have e4 := thback ((Bn.zero 16).set 0 (by8 1)) 1 ⟨0, 3, 2⟩ right_t1
  have e5 := hopenE_C ((Bn.zero 16).set 0 (by8 1)) 0 .nil 12 (by decide) (openShort_C _ _ .nil (by decide))
  generalize ltrP ((Bn.zero 16).set 0 (by8 1)) 0 ⟨1, 3, 2, .nil⟩ = A at *
  generalize ltrT ((Bn.zero 16).set 0 (by8 1)) 1 ⟨0, 3, 2⟩ = B at *
  refine C_of mixed Try.func13 A_clavigerlaw19_known_ok A_clavigerlaw19_known_res _ A_clavigerlaw19_known_nt ?_
  (repeat' (first | simp (maxSteps := 2000000) -implicitDefEqProofs only [A_clavigerlaw19_known, zp_v, len_lst, cells_lst, rk_ext, fk_ext, sm_c, sm_a, lr_api, lr_keep, lr_hand, lr, lr2, oO, oN, oG, oNG, oM, oF, oL, rg, ci, seval, resAll, resL, resV, blkAt, undef, fillV, evParts, footOp, wrOp, chk, disj] | split | ((first | apply ck_call | apply cfk_call); (first | (apply call_pure (e1) cll cl) | (apply call_pure (e2) cll cl) | (apply call_pure (e3) cll cl) | (apply call_pure (e4) cll cl) | (apply call_pure (e5) cll cl)))))
  all_goals (refine out_eq ?_ (cl); first | rfl | (simp_all []; done) | (simp_all []; intros; omega) | (simp []; (repeat' split) <;> first | rfl | omega | (simp_all; done) | (simp_all; intros; omega)))
theorem within_nat (n : Int) (hi : Nat) (h : hi ≤ 2147483647) : ∃ m : Nat, within n 0 hi = m ∧ m ≤ hi := by
  have h0 : (0 : Int) < hi - 0 + 1 := by omega
  have hr := Int.tmod_lt_of_pos n h0
  have hr2 := Int.lt_tmod_of_pos n h0
  refine ⟨(within n 0 hi).toNat, ?_, ?_⟩
  · unfold within
    split
    · omega
    · split
      · omega
      · omega
  · unfold within
    split
    · omega
    · split
      · omega
      · omega
set_option maxHeartbeats 8000000 in
theorem handoffBack_C (k : Bn 16) (to frm shard : Int) (ep : Nat) (l : Lst KV) (hl : l.l.length ≤ 9223372036854775807) (hg : ∀ x ∈ l.l, 0 ≤ x.gen) :
    C Try.prog 3 [.agg (dg k), vi .i64 to, vi .i64 frm, vi .i64 shard, vi .u64 ep, lstV cKV l] [] (vb true) [] := by
  obtain ⟨s, hs, hs15⟩ := within_nat shard 15 (by decide)
  obtain ⟨f, hf, hf7⟩ := within_nat frm 7 (by decide)
  obtain ⟨n, hn, hn7⟩ := within_nat to 7 (by decide)
  have k1 : C Try.prog 4 [vi .i64 shard, vi .i64 0, vi .i64 15] [] (vi .i64 s) [] := by
    have := within_C shard 0 15 (by decide) (by decide) (by decide)
    rwa [show within shard 0 15 = s from hs] at this
  have k2 : C Try.prog 4 [vi .i64 frm, vi .i64 0, vi .i64 7] [] (vi .i64 f) [] := by
    have := within_C frm 0 7 (by decide) (by decide) (by decide)
    rwa [show within frm 0 7 = f from hf] at this
  have k3 : C Try.prog 4 [vi .i64 to, vi .i64 0, vi .i64 7] [] (vi .i64 n) [] := by
    have := within_C to 0 7 (by decide) (by decide) (by decide)
    rwa [show within to 0 7 = n from hn] at this
  have k4 := keepVs_C l s hl hg
  have hri := keepVs_rising l.l s hg
  have tm : Int.tmod (ep : Int) 1000 = ((ep % 1000 : Nat) : Int) := (Int.ofNat_tmod ep 1000).symm
  have w1 : IntKind.u64.wrap (1 + ((ep % 1000 : Nat) : Int)) = ((ep % 1000 + 1 : Nat) : Int) := by rw [IntWalk.u64_in _ ⟨by omega, by omega⟩]; omega
  have hE : 1 ≤ ep % 1000 + 1 ∧ ep % 1000 + 1 ≤ 1000 := by omega
  generalize ep % 1000 + 1 = E at *
  generalize hV : lsOf (keepVs l.l s) = V at *
  have hVl : V.l = keepVs l.l s := by rw [← hV]; exact lsOf_l _
  rw [← hVl] at hri
  have hR : RightR (recP ⟨f, s, E, V⟩) := .inr ⟨⟨by show (1 : Int) ≤ E; omega, by show (E : Int) ≤ 1099511627776; omega, by show (0 : Int) ≤ s; omega, by show (s : Int) < 16; omega, sameV_zero⟩, .inr (.inl ⟨rfl, rfl, by show RisingP (lsOf V.l).l; rw [lsOf_l]; exact hri⟩)⟩
  have hm : memb (f : Int) := ⟨by omega, by omega⟩
  have hm2 : memb (n : Int) := ⟨by omega, by omega⟩
  have hT : RightT ⟨f, s, E⟩ := ⟨hm, ⟨by show (0 : Int) ≤ s; omega, by show (s : Int) < 16; omega⟩, by show (1 : Int) ≤ E; omega, by show (E : Int) ≤ 1099511627776; omega⟩
  obtain ⟨_, _, n4, hsec⟩ := recP_le hR
  have e1 := hclose_C k n ⟨f, s, E, V⟩ hR hm hm2
  obtain ⟨vs, hvs, hvl, e2⟩ := hback k n ⟨f, s, E, V⟩ hR hm
  have e3 := hthanks_C k n ⟨f, s, E⟩ hT hm2
  have e4 := thback k n ⟨f, s, E⟩ hT
  have e5 := hrecord_C ⟨f, s, E, V⟩ (by show V.l.length ≤ 5; have : V.l.length ≤ 4 := n4; omega) (fun v hv => by have := hsec v hv; omega)
  have e6 := rvaultsT_C vs V hvs (by omega)
  have e7 := rvaultsT_C (lsOf V.l) V (by rw [lsOf_l]; exact samesV_self _) (by rw [lsOf_l]; have : V.l.length ≤ 4 := n4; omega)
  have e8 := rrightR_C (recP ⟨f, s, E, V⟩)
  rw [decide_eq_true hR] at e8
  have hrp : recP ⟨f, s, E, V⟩ = ⟨3, s, 0, E, Vlt.zero, lsOf V.l⟩ := rfl
  rw [hrp] at e5 e8
  generalize ltrP k n ⟨f, s, E, V⟩ = A at *
  generalize ltrT k n ⟨f, s, E⟩ = B at *
  clear hR hrp hsec hri hT
  refine C_of mixed Try.func3 A_clavigerlaw19_HandoffBack_ok A_clavigerlaw19_HandoffBack_res _ A_clavigerlaw19_HandoffBack_nt ?_
  (repeat' (first | simp (maxSteps := 2000000) -implicitDefEqProofs only [A_clavigerlaw19_HandoffBack, tm, w1, zp_v, len_lst, cells_lst, rk_ext, fk_ext, sm_c, sm_a, lr_api, lr_keep, lr_hand, lr, lr2, oO, oN, oG, oNG, oM, oF, oL, rg, ci, seval, resAll, resL, resV, blkAt, undef, fillV, evParts, footOp, wrOp, chk, disj] | split | ((first | apply ck_call | apply cfk_call); (first | (apply call_pure (k1) cll cl) | (apply call_pure (k2) cll cl) | (apply call_pure (k3) cll cl) | (apply call_pure (k4) cll cl) | (apply call_pure (e1) cll cl) | (apply call_pure (e2) cll cl) | (apply call_pure (e3) cll cl) | (apply call_pure (e4) cll cl) | (apply call_pure (e5) cll cl) | (apply call_pure (e6) cll cl) | (apply call_pure (e7) cll cl) | (apply call_pure (e8) cll cl) | (apply call_pure (known19_C) cll cl)))))
  all_goals (refine out_eq ?_ (cl); first | rfl | (simp_all []; done) | (simp_all []; intros; omega) | (simp []; (repeat' split) <;> first | rfl | omega | (simp_all; done) | (simp_all; intros; omega)))
end Go.Proofs.Ytfpoebmihjbknaa.VA
