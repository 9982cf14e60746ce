/- Texts of this proof, one behind the other: Tkeep, Lkeep, Lshard3, Tids, Ckeep, Dkeep, Ekeep. -/
import Derived.Test.YtfpoebmihjbknaaGreatPC
import Derived.Test.YtfpoebmihjbknaaGreatVC
import Derived.Test.YtfpoebmihjbknaaGreatPB
/- The cells of some struct types. -/
set_option linter.unusedVariables false
set_option linter.unusedSimpArgs false
set_option maxRecDepth 10000
namespace Go.Proofs.YtfpoebmihjbknaaGreat.VA
open Go
structure KV where
  id : Int
  pin : Int
  owner : Int
  limit : Int
  used : Int
  how : Int
  gen : Int
  secret : Row
def cKV (x : KV) : List V := vi .i64 x.id :: (vi .i64 x.pin :: (vi .i64 x.owner :: (vi .i64 x.limit :: (vi .i64 x.used :: (vi .i64 x.how :: (vi .u64 x.gen :: ([rowV x.secret])))))))
def KV.zero : KV := ⟨0, 0, 0, 0, 0, 0, 0, .nil⟩
instance : Inhabited KV := ⟨KV.zero⟩
def zKV : List Value := [.int .i64 0, .int .i64 0, .int .i64 0, .int .i64 0, .int .i64 0, .int .i64 0, .int .u64 0, .slice none 0 0]
theorem zKV_sc : zKV.map V.sc = cKV KV.zero := rfl
theorem cKV_len (x : KV) : (cKV x).length = 8 := by simp [cKV, dg_len]
theorem cKV_closed (x : KV) : ClosedL (cKV x) := by
  simp [cKV, ClosedL, Closed, dg_closed, row_closed, ints_closed, st_closed, closedL_appI]
instance (x : KV) : ClL (cKV x) := ⟨cKV_closed x⟩
theorem rd_KV_id (x : KV) : rd none (cKV x) 0 = some (vi .i64 x.id) := by simp [cKV, rdr]
theorem rd_KV_pin (x : KV) : rd none (cKV x) 1 = some (vi .i64 x.pin) := by simp [cKV, rdr]
theorem rd_KV_owner (x : KV) : rd none (cKV x) 2 = some (vi .i64 x.owner) := by simp [cKV, rdr]
theorem rd_KV_limit (x : KV) : rd none (cKV x) 3 = some (vi .i64 x.limit) := by simp [cKV, rdr]
theorem rd_KV_used (x : KV) : rd none (cKV x) 4 = some (vi .i64 x.used) := by simp [cKV, rdr]
theorem rd_KV_how (x : KV) : rd none (cKV x) 5 = some (vi .i64 x.how) := by simp [cKV, rdr]
theorem rd_KV_gen (x : KV) : rd none (cKV x) 6 = some (vi .u64 x.gen) := by simp [cKV, rdr]
theorem rd_KV_secret (x : KV) : rd none (cKV x) 7 = some (rowV x.secret) := by simp [cKV, rdr]
theorem rd_KV (x : KV) : rd (some 8) (cKV x) 0 = some (.agg (cKV x)) := rd_sE _ _ (cKV_len x)
structure KQ where
  op : Int
  id : Int
  pin : Int
  owner : Int
  limit : Int
  client : Int
  num : Int
  secret : Row
def KQ.zero : KQ := ⟨0, 0, 0, 0, 0, 0, 0, .nil⟩
instance : Inhabited KQ := ⟨KQ.zero⟩
structure KR where
  kind : Int
  shard : Int
  to : Int
  epoch : Int
  v : KV
  l : Lst KV
def KR.zero : KR := ⟨0, 0, 0, 0, KV.zero, .nil⟩
instance : Inhabited KR := ⟨KR.zero⟩
set_option linter.defProp false in
def lr_keep := an (an (an @zKV_sc @cKV_len) (an @rd_KV_id (an @rd_KV_pin @rd_KV_owner))) (an (an @rd_KV_limit (an @rd_KV_used @rd_KV_how)) (an @rd_KV_gen (an @rd_KV_secret @rd_KV)))
end Go.Proofs.YtfpoebmihjbknaaGreat.VA

/- The compact code of what is drawn. -/
set_option linter.unusedVariables false
set_option maxRecDepth 100000
namespace Go.Proofs.YtfpoebmihjbknaaGreat.VA
open Go
noncomputable section
def A_clavigerkeep_ID : ACode := (.seq (rg [oO 2 (.alloc z4)]) (.seq (rg [oM 3 0, oO 4 (.call 46 [(.t 3), (ci 0), (ci 255)]), oO 5 (.conv .u8 (.t 4)), oO 6 (.build z4 [(0, (1, (.t 5))), (1, (1, (.c (.int .u8 7))))]), oN (.store 4 (.t 2) (.t 6))]) .ret))
theorem A_clavigerkeep_ID_ok : Tryz.f45.body.bind (cCode Tryz.prog) = some A_clavigerkeep_ID := by kernel_rfl
theorem A_clavigerkeep_ID_res : cRes Tryz.prog Tryz.f45.results.toList = some [(.cell 2 (some 4))] := by kernel_rfl
theorem A_clavigerkeep_ID_nt : Tryz.f45.ntmps = 7 := by kernel_rfl
def A_clavigerkeep_D : ACode := (.seq (rg [oO 2 (.alloc z16)]) (.seq (rg [oM 3 0, oO 4 (.conv .u8 (.t 3)), oM 5 0, oO 6 (.bin .shr (.t 5) (.c (.int .u64 8))), oO 7 (.conv .u8 (.t 6)), oO 8 (.build z16 [(0, (1, (.t 4))), (1, (1, (.t 7))), (2, (1, (.c (.int .u8 3))))]), oN (.store 16 (.t 2) (.t 8))]) .ret))
theorem A_clavigerkeep_D_ok : Tryz.f47.body.bind (cCode Tryz.prog) = some A_clavigerkeep_D := by kernel_rfl
theorem A_clavigerkeep_D_res : cRes Tryz.prog Tryz.f47.results.toList = some [(.cell 2 (some 16))] := by kernel_rfl
theorem A_clavigerkeep_D_nt : Tryz.f47.ntmps = 9 := by kernel_rfl
def A_clavigerkeep_IDs_L0 : ACode := (.seq (.seq (rg [oM 5 4, oO 6 (.bin .lss (.t 5) (ci 256))]) (.cond (.t 6) .skip (.exit 0))) (.seq (.block 1 (.seq (rg [oM 9 4, oO 10 (.call 45 [(.t 9)]), oO 11 (.call 44 [(.t 10)]), oM 12 0, oO 13 (.bin .eql (.t 11) (.t 12))]) (.cond (.t 13) (rg [oM 14 3, oM 15 4, oO 16 (.call 45 [(.t 15)]), oO 17 (.buildSl 4 1 z4 [(0, (4, (.t 16)))]), oO 18 (.append 4 4 (.t 14) (.t 17)), oM 3 18]) .skip))) (rg [oM 7 4, oO 8 (.bin .add (.t 7) (ci 1)), oM 4 8])))
def A_clavigerkeep_IDs : ACode := (.seq (rg [oO 2 (.mov (.c (.slice none 0 0)))]) (.seq (rg [oO 3 (.mov (.c (.slice none 0 0)))]) (.seq (.seq (rg [oO 4 (.mov (ci 0))]) (.block 0 (.loop A_clavigerkeep_IDs_L0))) (.seq (rg [oM 19 3, oM 2 19]) .ret))))
def K_clavigerkeep_IDs_L0 : Kt := (.blk 0 (.seq (.seq (rg [oM 19 3, oM 2 19]) .ret) .fin))
theorem A_clavigerkeep_IDs_ok : Tryz.f17.body.bind (cCode Tryz.prog) = some A_clavigerkeep_IDs := by kernel_rfl
theorem A_clavigerkeep_IDs_res : cRes Tryz.prog Tryz.f17.results.toList = some [(.tmp 2)] := by kernel_rfl
theorem A_clavigerkeep_IDs_nt : Tryz.f17.ntmps = 20 := by kernel_rfl
def A_clavigerkeep_Vault : ACode := (.seq (rg [oO 2 (.box (.t 0)), oO 3 (.box (.t 1)), oO 4 (.alloc zVlt)]) (.seq (rg [oF 7 6 2, oL 8 7, oO 9 (.bin .rem (.t 8) (.c (.int .u64 1099511627776))), oO 10 (.bin .add (.c (.int .u64 1)) (.t 9)), oM 5 10]) (.seq (.seq (rg [oF 11 5 2, oL 12 11, oO 13 (.bin .rem (.t 12) (ci 4)), oO 14 (.bin .eql (.t 13) (ci 3))]) (.cond (.t 14) (.seq (rg [oO 15 (.load (some 4) (.t 3)), oM 16 5, oF 17 5 2, oL 18 17, oO 19 (.bin .quo (.t 18) (ci 4)), oO 20 (.bin .rem (.t 19) (ci 2)), oO 21 (.bin .eql (.t 20) (ci 1)), oO 22 (.build zVlt [(0, (4, (.t 15))), (4, (1, (.t 16))), (40, (1, (.c (.bool true)))), (41, (1, (.t 21)))]), oN (.store 42 (.t 4) (.t 22))]) .ret) .skip)) (.seq (rg [oF 23 3 2, oL 24 23, oO 25 (.call 46 [(.t 24), (ci 1), (ci 32)]), oM 6 25]) (.seq (.region [(0, 4), (4, 6), (0, 7), (4, 10), (7, 10), (0, 13), (4, 16), (7, 16), (13, 16), (0, 17), (0, 18)] [oO 26 (.load (some 4) (.t 3)), oM 27 5, oF 28 1 2, oL 29 28, oO 30 (.call 47 [(.t 29)]), oF 31 2 2, oL 32 31, oO 33 (.call 47 [(.t 32)]), oM 34 6, oF 35 4 2, oL 36 35, oM 37 6, oO 38 (.bin .sub (.t 37) (ci 1)), oO 39 (.call 46 [(.t 36), (ci 0), (.t 38)]), oO 40 (.buildSl 1 0 z1 []), oF 41 7 2, oL 42 41, oO 43 (.call 48 [(.t 42), (ci 64)]), oO 44 (.append 1 1 (.t 40) (.t 43)), oO 45 (.build zVlt [(0, (4, (.t 26))), (4, (1, (.t 27))), (5, (16, (.t 30))), (24, (16, (.t 33))), (22, (1, (.t 34))), (23, (1, (.t 39))), (21, (1, (.t 44)))]), oN (.store 42 (.t 4) (.t 45))]) .ret)))))
theorem A_clavigerkeep_Vault_ok : Tryz.f18.body.bind (cCode Tryz.prog) = some A_clavigerkeep_Vault := by kernel_rfl
theorem A_clavigerkeep_Vault_res : cRes Tryz.prog Tryz.f18.results.toList = some [(.cell 4 (some 42))] := by kernel_rfl
theorem A_clavigerkeep_Vault_nt : Tryz.f18.ntmps = 46 := by kernel_rfl
def A_clavigerkeep_Vaults_L0 : ACode := (.seq (.seq (rg [oM 10 7, oM 11 0, oO 12 (.lenSl (.t 11)), oO 13 (.bin .lss (.t 10) (.t 12)), oM 14 13, oG 15 (.mov (.t 7)) 14 true, oG 16 (.bin .lss (.t 15) (ci 4)) 14 true, oO 17 (.pick (.t 14) (.t 16) (.c (.bool false))), oM 18 17, oG 19 (.mov (.t 7)) 18 true, oG 20 (.mov (.t 5)) 18 true, oG 21 (.lenSl (.t 20)) 18 true, oG 22 (.bin .lss (.t 19) (.t 21)) 18 true, oO 23 (.pick (.t 18) (.t 22) (.c (.bool false)))]) (.cond (.t 23) .skip (.exit 0))) (.seq (.block 1 (rg [oM 26 6, oM 27 0, oM 28 7, oO 29 (.idxSl 8 (.t 27) (.t 28)), oO 30 (.load (some 8) (.t 29)), oM 31 5, oM 32 7, oO 33 (.idxSl 4 (.t 31) (.t 32)), oO 34 (.load (some 4) (.t 33)), oO 35 (.call 18 [(.t 30), (.t 34)]), oO 36 (.buildSl 42 1 zVlt [(0, (42, (.t 35)))]), oO 37 (.append 42 96 (.t 26) (.t 36)), oM 6 37])) (rg [oM 24 7, oO 25 (.bin .add (.t 24) (ci 1)), oM 7 25])))
def A_clavigerkeep_Vaults : ACode := (.seq (rg [oO 4 (.mov (.c (.slice none 0 0)))]) (.seq (rg [oM 8 1, oO 9 (.call 17 [(.t 8)]), oM 5 9]) (.seq (rg [oO 6 (.mov (.c (.slice none 0 0)))]) (.seq (.seq (rg [oO 7 (.mov (ci 0))]) (.block 0 (.loop A_clavigerkeep_Vaults_L0))) (.seq (rg [oM 38 6, oM 4 38]) .ret)))))
def K_clavigerkeep_Vaults_L0 : Kt := (.blk 0 (.seq (.seq (rg [oM 38 6, oM 4 38]) .ret) .fin))
theorem A_clavigerkeep_Vaults_ok : Tryz.f6.body.bind (cCode Tryz.prog) = some A_clavigerkeep_Vaults := by kernel_rfl
theorem A_clavigerkeep_Vaults_res : cRes Tryz.prog Tryz.f6.results.toList = some [(.tmp 4)] := by kernel_rfl
theorem A_clavigerkeep_Vaults_nt : Tryz.f6.ntmps = 39 := by kernel_rfl
end
end Go.Proofs.YtfpoebmihjbknaaGreat.VA

/- The compact code of ShardOf. -/
set_option linter.unusedVariables false
set_option maxRecDepth 100000
namespace Go.Proofs.YtfpoebmihjbknaaGreat.VA
open Go
noncomputable section
def A_clavigerref16_ShardOf : ACode := (.seq (rg [oO 1 (.box (.t 0)), oO 2 (.mov (ci 0))]) (.seq (rg [oO 4 (.sliceArr 4 1 (.t 1) none none), oO 5 (.call 66 [(.t 4)]), oO 3 (.alloc z16), oN (.store 16 (.t 3) (.t 5))]) (.seq (rg [oO 6 (.idxArr 16 1 (.t 3) (ci 0)), oL 7 6, oO 8 (.bin .rem (.t 7) (.c (.int .u8 16))), oO 9 (.conv .i64 (.t 8)), oM 2 9]) .ret)))
theorem A_clavigerref16_ShardOf_ok : Tryz.f44.body.bind (cCode Tryz.prog) = some A_clavigerref16_ShardOf := by kernel_rfl
theorem A_clavigerref16_ShardOf_res : cRes Tryz.prog Tryz.f44.results.toList = some [(.tmp 2)] := by kernel_rfl
theorem A_clavigerref16_ShardOf_nt : Tryz.f44.ntmps = 10 := by kernel_rfl
end
end Go.Proofs.YtfpoebmihjbknaaGreat.VA

/- Which owned rows structs name. -/
set_option linter.unusedVariables false
namespace Go.Proofs.YtfpoebmihjbknaaGreat.VA
open Go
theorem arg_new {H : Heap} {bs' : List Nat} {id n : Nat} {l : List UInt8} (hb : blkAt H id = some (bs l)) (hi : id ∈ bs') (hn : n = l.length) : ArgRel H [] bs' (.sref id 0 n 1) (rowV (.of l)) := by
  subst hn
  exact arg_sl hb hi (by simp [bs_len]) (bs_closed _)
theorem show_vlt {H : Heap} {id n : Nat} {l : List UInt8} (X : Vlt) (hb : blkAt H id = some (bs l)) (hn : n = l.length) : OutOK 0 H (.agg (gVlt_secret X (.sref id 0 n 1))) (.agg (cVlt { X with secret := .of l })) [] :=
  out_show [id] (fun i h => by simp at h; subst h; exact ⟨_, hb⟩) (arg_agg (argG_Vlt_secret X (arg_new hb (by simp) hn)))
theorem show_lst {H : Heap} {α : Type} {c : α → List V} {sz : Nat} (hc : ∀ x, (c x).length = sz) (hcl : ∀ x, ClosedL (c x)) {id n : Nat} {l : List α} (hb : blkAt H id = some (l.flatMap c)) (hn : n = l.length) : OutOK 0 H (.sref id 0 n sz) (lstV c (.of l)) [] :=
  out_show [id] (fun i h => by simp at h; subst h; exact ⟨_, hb⟩) (arg_lst hc hcl hb (by simp) hn)
def lsOf {α : Type} : List α → Lst α
  | [] => .nil
  | x :: l => .of (x :: l)
theorem lsOf_l {α : Type} (l : List α) : (lsOf l).l = l := by cases l <;> rfl
theorem lsOf_ne {α : Type} {l : List α} (h : 0 < l.length) : lsOf l = .of l := by cases l with | nil => simp at h | cons x l => rfl
end Go.Proofs.YtfpoebmihjbknaaGreat.VA

/- What is drawn: IDs, digests, vaults, requests. -/
set_option linter.unusedVariables false
set_option linter.unusedSimpArgs false
set_option maxRecDepth 100000
namespace Go.Proofs.YtfpoebmihjbknaaGreat.VA
open Go
attribute [local irreducible] WK NK XK TK RK FK CK CFK CallRel C
def ofS (id : Bn 4) : Int := (((sumF id.1).1.getD 0 0).toNat : Int).tmod 16
theorem ofS_range (id : Bn 4) : 0 ≤ ofS id ∧ ofS id < 16 := ⟨Int.tmod_nonneg _ (Int.natCast_nonneg _), Int.tmod_lt_of_pos _ (by decide)⟩
theorem rof_C (id : Bn 4) : C Tryz.prog 44 [.agg (dg id)] [] (vi .i64 (ofS id)) [] := by
  refine C_of mixed Tryz.func44 A_clavigerref16_ShardOf_ok A_clavigerref16_ShardOf_res _ A_clavigerref16_ShardOf_nt ?_
  have hr := ofS_range id
  have e : IntKind.i64.wrap ((((sumF id.1).1.getD 0 0).toNat : Int).tmod 16) = ofS id := wrap_id _ (by unfold ofS at hr; omega) (by unfold ofS at hr; omega)
  (repeat' (first | simp (maxSteps := 2000000) -implicitDefEqProofs only [A_clavigerref16_ShardOf, rd_dg, e, len_lst, rk_ext, fk_ext, sm_c, sm_a, numI_len, lr_api, lr_keep, lr, lr2, oO, oN, oG, oNG, oM, oF, oL, rg, ci, seval, resAll, resL, resV, blkAt, undef, fillV, evParts, footOp, wrOp, chk, disj] | split | ((first | apply ck_call | apply cfk_call); (first | (apply call_roA (rsum_C (.of id.1) (by rw [row_l_of, bn_len]; decide)); (simp [ids_nil, ids_cons, ids_sc, ids_agg, ids_dg, ids_bs, ids_row, ids_ints, ids_sref, ids_ref, ids_sl, blkAt] <;> fail); (repeat' (first | exact args_n | apply args_c | (first | exact arg_closed _ cl | (refine arg_rowA rfl mem ?_; (first | rfl | omega | (simp [bn_len] <;> fail) | (simp [bn_len]; omega))) | (refine arg_row rfl mem ?_; (first | rfl | omega | (simp [bn_len] <;> fail) | (simp [bn_len]; omega))) | (refine arg_fld mem ?_ ?_; (first | rfl | omega | (simp [bn_len] <;> fail) | (simp [bn_len]; omega)); (simp only [len_lst, rk_ext, fk_ext, sm_c, sm_a, numI_len, lr_api, lr_keep, blkAt, List.getD_cons_zero, List.getD_cons_succ, Option.bind_some, rd_sE] <;> fail))))); (first | exact cl | exact cll); (first | exact nr | exact nrl))))))
  all_goals (refine out_eq ?_ (cl); first | rfl | (simp_all []; done) | (simp_all []; intros; omega) | (simp []; (repeat' split) <;> first | rfl | omega | (simp_all; done) | (simp_all; intros; omega)))
def kid (n : Int) : Bn 4 := ((Bn.zero 4).set 0 (b8 (within n 0 255))).set 1 7
theorem kid_C (n : Int) : C Tryz.prog 45 [vi .i64 n] [] (.agg (dg (kid n))) [] := by
  refine C_of mixed Tryz.func45 A_clavigerkeep_ID_ok A_clavigerkeep_ID_res _ A_clavigerkeep_ID_nt ?_
  (repeat' (first | simp (maxSteps := 2000000) -implicitDefEqProofs only [A_clavigerkeep_ID, len_lst, rk_ext, fk_ext, sm_c, sm_a, numI_len, lr_api, lr_keep, lr, lr2, oO, oN, oG, oNG, oM, oF, oL, rg, ci, seval, resAll, resL, resV, blkAt, undef, fillV, evParts, footOp, wrOp, chk, disj] | split | ((first | apply ck_call | apply cfk_call); (first | (apply call_pure (within_C n 0 255 (by decide) (by decide) (by decide)) cll cl)))))
  refine out_eq rfl ?_; simp [Closed, dg_closed]
def kd (n : Int) : Bn 16 := (((Bn.zero 16).set 0 (b8 n)).set 1 (b8 (n.fdiv 256))).set 2 3
theorem shr8 (n : Int) : evBin .shr (.sc (.int .i64 n)) (.sc (.int .u64 8)) = some (.sc (.int .i64 (n.fdiv 256))) := bin_shr .i64 .u64 n 8 (by decide)
theorem kd_C (n : Int) : C Tryz.prog 47 [vi .i64 n] [] (.agg (dg (kd n))) [] := by
  refine C_of mixed Tryz.func47 A_clavigerkeep_D_ok A_clavigerkeep_D_res _ A_clavigerkeep_D_nt ?_
  (repeat' (first | simp (maxSteps := 2000000) -implicitDefEqProofs only [A_clavigerkeep_D, shr8, len_lst, rk_ext, fk_ext, sm_c, sm_a, numI_len, lr_api, lr_keep, lr, lr2, oO, oN, oG, oNG, oM, oF, oL, rg, ci, seval, resAll, resL, resV, blkAt, undef, fillV, evParts, footOp, wrOp, chk, disj] | split))
  refine out_eq rfl ?_; simp [Closed, dg_closed]
def keepG (x : KV) : Int := 1 + x.gen.tmod 1099511627776
def keepV (x : KV) (id : Bn 4) : Vlt :=
  if x.how.tmod 4 = 3 then ⟨id, keepG x, Bn.zero 16, .nil, 0, 0, Bn.zero 16, true, (IntKind.i64.wrap (x.how.tdiv 4)).tmod 2 == 1⟩
  else ⟨id, keepG x, kd x.pin, .of (cutF x.secret 64).l, within x.limit 1 32, within x.used 0 (within x.limit 1 32 - 1), kd x.owner, false, false⟩
theorem keepG_range (x : KV) (h : 0 ≤ x.gen) : 1 ≤ keepG x ∧ keepG x ≤ 1099511627776 := by
  unfold keepG
  have h1 := Int.tmod_nonneg (b := 1099511627776) h
  have h2 := Int.tmod_lt_of_pos x.gen (show (0 : Int) < 1099511627776 by decide)
  omega
theorem keepV_id (x : KV) (id : Bn 4) : (keepV x id).id = id := by unfold keepV; split <;> rfl
theorem keepV_right (x : KV) (id : Bn 4) (h : 0 ≤ x.gen) : RightV (keepV x id) := by
  have hg := keepG_range x h
  unfold keepV RightV
  split
  · exact ⟨hg.1, hg.2, by simp [Row.l]⟩
  · have hl := within_range x.limit 1 32 (by decide)
    have hu := within_range x.used 0 (within x.limit 1 32 - 1) (by omega)
    refine ⟨hg.1, hg.2, ?_⟩
    simp only [Bool.false_eq_true, if_false]
    refine ⟨trivial, hl.1, hl.2, hu.1, by omega, ?_⟩
    rw [row_l_of, cutF_l, List.length_take]; omega
set_option maxHeartbeats 4000000 in
theorem keepV_C (x : KV) (id : Bn 4) (h : 0 ≤ x.gen) : C Tryz.prog 18 [.agg (cKV x), .agg (dg id)] [] (.agg (cVlt (keepV x id))) [] := by
  have hg := keepG_range x h
  have wg : IntKind.u64.wrap (1 + x.gen.tmod 1099511627776) = keepG x := by unfold keepG at hg ⊢; exact IntWalk.u64_in _ ⟨by omega, by omega⟩
  unfold keepV
  by_cases hh : x.how.tmod 4 = 3
  · rw [if_pos hh]
    refine C_of mixed Tryz.func18 A_clavigerkeep_Vault_ok A_clavigerkeep_Vault_res _ A_clavigerkeep_Vault_nt ?_
    (repeat' (first | simp (maxSteps := 2000000) -implicitDefEqProofs only [A_clavigerkeep_Vault, wg, hh, len_lst, rk_ext, fk_ext, sm_c, sm_a, numI_len, lr_api, lr_keep, lr, lr2, oO, oN, oG, oNG, oM, oF, oL, rg, ci, seval, resAll, resL, resV, blkAt, undef, fillV, evParts, footOp, wrOp, chk, disj] | split))
    refine out_eq rfl ?_; simp [Closed, cVlt_closed]
  · rw [if_neg hh]
    have hl := within_range x.limit 1 32 (by decide)
    have wl : IntKind.i64.wrap (within x.limit 1 32 - 1) = within x.limit 1 32 - 1 := wrap_id _ (by omega) (by omega)
    have lc : (cutF x.secret 64).l.length ≤ 140737488355328 := by rw [cutF_l, List.length_take]; omega
    have cc : C Tryz.prog 48 [rowV x.secret, vi .i64 64] [] (rowV (cutF x.secret 64)) [] := cut_C x.secret 64
    refine C_of mixed Tryz.func18 A_clavigerkeep_Vault_ok A_clavigerkeep_Vault_res _ A_clavigerkeep_Vault_nt ?_
    (repeat' (first | simp (maxSteps := 2000000) -implicitDefEqProofs only [A_clavigerkeep_Vault, wg, hh, wl, app_bs0, lc, len_lst, rk_ext, fk_ext, sm_c, sm_a, numI_len, lr_api, lr_keep, lr, lr2, oO, oN, oG, oNG, oM, oF, oL, rg, ci, seval, resAll, resL, resV, blkAt, undef, fillV, evParts, footOp, wrOp, chk, disj] | split | ((first | apply ck_call | apply cfk_call); (first | (apply call_pure (within_C x.limit 1 32 (by decide) (by decide) (by decide)) cll cl) | (apply call_pure (kd_C x.pin) cll cl) | (apply call_pure (kd_C x.owner) cll cl) | (apply call_pure (within_C x.used 0 (within x.limit 1 32 - 1) (by decide) (by omega) (by omega)) cll cl) | (apply call_pure (cc) cll cl)))))
    exact show_vlt _ rfl rfl
def idsU (n : Nat) (s : Int) : List (Bn 4) := ((List.range n).filter fun (i : Nat) => decide (ofS (kid i) = s)).map fun (i : Nat) => kid i
theorem idsU_S (n : Nat) (s : Int) : idsU (n + 1) s = idsU n s ++ (if ofS (kid n) = s then [kid n] else []) := by
  unfold idsU
  rw [List.range_succ, List.filter_append, List.map_append]
  congr 1
  by_cases h : ofS (kid n) = s
  · rw [if_pos h]; simp [h]
  · rw [if_neg h]; simp [h]
theorem idsU_le (n : Nat) (s : Int) : (idsU n s).length ≤ n := by
  unfold idsU
  rw [List.length_map]
  exact Nat.le_trans (List.length_filter_le _ _) (by simp)
def idsF (s : Int) : List (Bn 4) := idsU 256 s
abbrev c4 : Bn 4 → List V := dg
theorem c4_len (x : Bn 4) : (dg x).length = 4 := dg_len x
theorem blk_z4 (cs : List V) : blkOf z4 cs = cs := rfl
set_option maxHeartbeats 2000000 in
theorem ids_C (s : Int) : C Tryz.prog 17 [vi .i64 s] [] (lstV dg (lsOf (idsF s))) [] := by
  refine C_of mixed Tryz.func17 A_clavigerkeep_IDs_ok A_clavigerkeep_IDs_res _ A_clavigerkeep_IDs_nt ?_
  (repeat' (first | simp (maxSteps := 2000000) -implicitDefEqProofs only [A_clavigerkeep_IDs, len_lst, rk_ext, fk_ext, sm_c, sm_a, numI_len, lr_api, lr_keep, lr, lr2, oO, oN, oG, oNG, oM, oF, oL, rg, ci, seval, resAll, resL, resV, blkAt, undef, fillV, evParts, footOp, wrOp, chk, disj] | split))
  refine wk_loop (fun m S H => ∃ i : Nat, i ≤ 256 ∧ m = 256 - i ∧
      (idsU i s = [] ∧ S = (vi .i64 s :: .dead :: .dead :: vnil :: vi .i64 i :: .dead :: .dead :: .dead :: .dead :: .dead :: .dead :: .dead :: .dead :: .dead :: .dead :: .dead :: .dead :: .dead :: .dead :: .dead :: []) ∧ H = [] ∨
       0 < (idsU i s).length ∧ S = (vi .i64 s :: .dead :: .dead :: .sref 0 0 (idsU i s).length 4 :: vi .i64 i :: .dead :: .dead :: .dead :: .dead :: .dead :: .dead :: .dead :: .dead :: .dead :: .dead :: .dead :: .dead :: .dead :: .dead :: .dead :: []) ∧ H = [some ((idsU i s).flatMap dg)])) 256 ⟨0, Nat.zero_le _, rfl, .inl ⟨rfl, rfl, rfl⟩⟩ (by refine .ren _ _ _ [] (by decide) (by intro k h; first | exact absurd h (Nat.not_lt_zero k) | (simp at h; done) | (rcases k with _ | _ | _ | k <;> first | rfl | (exfalso; omega) | (simp at h; done))) ?_ ?_ <;> simp [KeepS, KeepH, ArgRel, ArgRelL, argL_cl, arg_cl, row_l_of, row_l_nil, bn_len, blkAt]) ?_
  rintro m S H ⟨i, hi, rfl, hH⟩ J hJ
  have d0 : (0 : Int) ≤ i := by omega
  by_cases hin : i < 256
  · have d1 : (i : Int) < 256 := by omega
    have w1 : IntKind.i64.wrap ((i : Int) + 1) = ((i + 1 : Nat) : Int) := by rw [wrap_id _ (by omega) (by omega)]; omega
    have hS := idsU_S i s
    have hle := idsU_le i s
    by_cases he : ofS (kid i) = s
    · rw [if_pos he] at hS
      rcases hH with ⟨h0, rfl, rfl⟩ | ⟨h0, rfl, rfl⟩
      · rw [h0, List.nil_append] at hS
        (repeat' (first | simp (maxSteps := 2000000) -implicitDefEqProofs only [A_clavigerkeep_IDs_L0, d1, w1, he, blk_z4, slB_st, len_lst, rk_ext, fk_ext, sm_c, sm_a, numI_len, lr_api, lr_keep, lr, lr2, oO, oN, oG, oNG, oM, oF, oL, rg, ci, seval, resAll, resL, resV, blkAt, undef, fillV, evParts, footOp, wrOp, chk, disj] | split | ((first | apply ck_call | apply cfk_call); (first | (apply call_pure (kid_C i) cll cl) | (apply call_pure (rof_C (kid i)) cll cl)))))
        exact hJ _ _ _ _ _ (by omega) ⟨i + 1, by omega, rfl, .inr ⟨by rw [hS]; exact Nat.one_pos, rfl, rfl⟩⟩ (by refine .ren _ _ _ [1] (by decide) (by intro k h; first | exact absurd h (Nat.not_lt_zero k) | (simp at h; done) | (rcases k with _ | _ | _ | k <;> first | rfl | (exfalso; omega) | (simp at h; done))) ?_ ?_ <;> simp [KeepS, KeepH, ArgRel, ArgRelL, argL_cl, arg_cl, row_l_of, row_l_nil, bn_len, blkAt, hS])
      · have af := fun H id => app_fl c4_len H (idsU i s) (kid i) id (idsU i s).length 4 rfl (by omega) (by decide)
        (repeat' (first | simp (maxSteps := 2000000) -implicitDefEqProofs only [A_clavigerkeep_IDs_L0, d1, w1, he, af, blk_z4, slB_st, len_lst, rk_ext, fk_ext, sm_c, sm_a, numI_len, lr_api, lr_keep, lr, lr2, oO, oN, oG, oNG, oM, oF, oL, rg, ci, seval, resAll, resL, resV, blkAt, undef, fillV, evParts, footOp, wrOp, chk, disj] | split | ((first | apply ck_call | apply cfk_call); (first | (apply call_pure (kid_C i) cll cl) | (apply call_pure (rof_C (kid i)) cll cl)))))
        exact hJ _ _ _ _ _ (by omega) ⟨i + 1, by omega, rfl, .inr ⟨by rw [hS, List.length_append]; omega, rfl, rfl⟩⟩ (by refine .ren _ _ _ [2] (by decide) (by intro k h; first | exact absurd h (Nat.not_lt_zero k) | (simp at h; done) | (rcases k with _ | _ | _ | k <;> first | rfl | (exfalso; omega) | (simp at h; done))) ?_ ?_ <;> simp [KeepS, KeepH, ArgRel, ArgRelL, argL_cl, arg_cl, row_l_of, row_l_nil, bn_len, blkAt, hS, flat_closed dg_closed])
    · rw [if_neg he, List.append_nil] at hS
      rcases hH with ⟨h0, rfl, rfl⟩ | ⟨h0, rfl, rfl⟩
      · (repeat' (first | simp (maxSteps := 2000000) -implicitDefEqProofs only [A_clavigerkeep_IDs_L0, d1, w1, he, len_lst, rk_ext, fk_ext, sm_c, sm_a, numI_len, lr_api, lr_keep, lr, lr2, oO, oN, oG, oNG, oM, oF, oL, rg, ci, seval, resAll, resL, resV, blkAt, undef, fillV, evParts, footOp, wrOp, chk, disj] | split | ((first | apply ck_call | apply cfk_call); (first | (apply call_pure (kid_C i) cll cl) | (apply call_pure (rof_C (kid i)) cll cl)))))
        exact hJ _ _ _ _ _ (by omega) ⟨i + 1, by omega, rfl, .inl ⟨by rw [hS]; exact h0, rfl, rfl⟩⟩ (by refine .ren _ _ _ [] (by decide) (by intro k h; first | exact absurd h (Nat.not_lt_zero k) | (simp at h; done) | (rcases k with _ | _ | _ | k <;> first | rfl | (exfalso; omega) | (simp at h; done))) ?_ ?_ <;> simp [KeepS, KeepH, ArgRel, ArgRelL, argL_cl, arg_cl, row_l_of, row_l_nil, bn_len, blkAt])
      · (repeat' (first | simp (maxSteps := 2000000) -implicitDefEqProofs only [A_clavigerkeep_IDs_L0, d1, w1, he, len_lst, rk_ext, fk_ext, sm_c, sm_a, numI_len, lr_api, lr_keep, lr, lr2, oO, oN, oG, oNG, oM, oF, oL, rg, ci, seval, resAll, resL, resV, blkAt, undef, fillV, evParts, footOp, wrOp, chk, disj] | split | ((first | apply ck_call | apply cfk_call); (first | (apply call_pure (kid_C i) cll cl) | (apply call_pure (rof_C (kid i)) cll cl)))))
        exact hJ _ _ _ _ _ (by omega) ⟨i + 1, by omega, rfl, .inr ⟨by rw [hS]; exact h0, rfl, rfl⟩⟩ (by refine .ren _ _ _ [0] (by decide) (by intro k h; first | exact absurd h (Nat.not_lt_zero k) | (simp at h; done) | (rcases k with _ | _ | _ | k <;> first | rfl | (exfalso; omega) | (simp at h; done))) ?_ ?_ <;> simp [KeepS, KeepH, ArgRel, ArgRelL, argL_cl, arg_cl, row_l_of, row_l_nil, bn_len, blkAt, hS, flat_closed dg_closed])
  · obtain rfl : i = 256 := by omega
    unfold idsF
    rcases hH with ⟨h0, rfl, rfl⟩ | ⟨h0, rfl, rfl⟩
    · (repeat' (first | simp (maxSteps := 2000000) -implicitDefEqProofs only [A_clavigerkeep_IDs_L0, K_clavigerkeep_IDs_L0, len_lst, rk_ext, fk_ext, sm_c, sm_a, numI_len, lr_api, lr_keep, lr, lr2, oO, oN, oG, oNG, oM, oF, oL, rg, ci, seval, resAll, resL, resV, blkAt, undef, fillV, evParts, footOp, wrOp, chk, disj] | split))
      rw [h0]
      exact out_eq rfl trivial
    · (repeat' (first | simp (maxSteps := 2000000) -implicitDefEqProofs only [A_clavigerkeep_IDs_L0, K_clavigerkeep_IDs_L0, len_lst, rk_ext, fk_ext, sm_c, sm_a, numI_len, lr_api, lr_keep, lr, lr2, oO, oN, oG, oNG, oM, oF, oL, rg, ci, seval, resAll, resL, resV, blkAt, undef, fillV, evParts, footOp, wrOp, chk, disj] | split))
      rw [lsOf_ne h0]
      exact show_lst c4_len dg_closed rfl rfl
end Go.Proofs.YtfpoebmihjbknaaGreat.VA

/- What is drawn: vaults of a shard, requests, records. -/
set_option linter.unusedVariables false
set_option linter.unusedSimpArgs false
set_option maxRecDepth 100000
namespace Go.Proofs.YtfpoebmihjbknaaGreat.VA
open Go
attribute [local irreducible] WK NK XK TK RK FK CK CFK CallRel C
instance : Inhabited (Bn 4) := ⟨Bn.zero 4⟩
def keepVs (l : List KV) (s : Int) : List Vlt := List.zipWith keepV (l.take 4) (idsF s)
theorem keepVs_len (l : List KV) (s : Int) : (keepVs l s).length = min (min 4 l.length) (idsF s).length := by
  unfold keepVs; rw [List.length_zipWith, List.length_take]
theorem keepVs_at (l : List KV) (s : Int) (i : Nat) (h : i < (keepVs l s).length) : (keepVs l s).getD i default = keepV (l.getD i default) ((idsF s).getD i default) := by
  have hl := h
  rw [keepVs_len] at h
  rw [List.getD_eq_getElem?_getD, List.getElem?_eq_getElem hl]
  simp only [keepVs, List.getElem_zipWith, List.getElem_take, Option.getD_some]
  congr 1
  · rw [List.getD_eq_getElem?_getD, List.getElem?_eq_getElem (by omega)]; rfl
  · rw [List.getD_eq_getElem?_getD, List.getElem?_eq_getElem (by omega)]; rfl
theorem keepVs_S (l : List KV) (s : Int) (i : Nat) (h : i < (keepVs l s).length) : (keepVs l s).take (i + 1) = (keepVs l s).take i ++ [keepV (l.getD i default) ((idsF s).getD i default)] := by
  rw [take_snoc _ _ h, keepVs_at l s i h]
set_option maxHeartbeats 4000000 in
theorem keepVs_C (l : Lst KV) (s : Int) (hl : l.l.length ≤ 9223372036854775807) (hg : ∀ x ∈ l.l, 0 ≤ x.gen) : C Tryz.prog 6 [lstV cKV l, vi .i64 s] [] (lstV cVlt (lsOf (keepVs l.l s))) [] := by
  refine C_of mixed Tryz.func6 A_clavigerkeep_Vaults_ok A_clavigerkeep_Vaults_res _ A_clavigerkeep_Vaults_nt ?_
  (repeat' (first | simp (maxSteps := 2000000) -implicitDefEqProofs only [A_clavigerkeep_Vaults, len_lst, cells_lst, zr_shard, zr_to, zr_epoch, zr_vault, zr_vaults, rk_ext, fk_ext, sm_c, sm_a, numI_len, lr_api, lr_keep, lr, lr2, oO, oN, oG, oNG, oM, oF, oL, rg, ci, seval, resAll, resL, resV, blkAt, undef, fillV, evParts, footOp, wrOp, chk, disj] | split | ((first | apply ck_call | apply cfk_call); (first | (apply call_pure (ids_C s) cll cl)))))
  have hn := keepVs_len l.l s
  have hid := idsU_le 256 s
  have el : (lsOf (idsF s)).l = idsF s := lsOf_l _
  change (idsF s).length ≤ 256 at hid
  refine wk_loop (fun m S H => ∃ i : Nat, i ≤ (keepVs l.l s).length ∧ m = (keepVs l.l s).length - i ∧
      (i = 0 ∧ S = (lstV cKV l :: .dead :: .dead :: .dead :: .dead :: lstV dg (lsOf (idsF s)) :: vnil :: vi .i64 i :: .dead :: .dead :: .dead :: .dead :: .dead :: .dead :: .dead :: .dead :: .dead :: .dead :: .dead :: .dead :: .dead :: .dead :: .dead :: .dead :: .dead :: .dead :: .dead :: .dead :: .dead :: .dead :: .dead :: .dead :: .dead :: .dead :: .dead :: .dead :: .dead :: .dead :: .dead :: []) ∧ H = [] ∨
       0 < i ∧ S = (lstV cKV l :: .dead :: .dead :: .dead :: .dead :: lstV dg (lsOf (idsF s)) :: .sref 0 0 i 42 :: vi .i64 i :: .dead :: .dead :: .dead :: .dead :: .dead :: .dead :: .dead :: .dead :: .dead :: .dead :: .dead :: .dead :: .dead :: .dead :: .dead :: .dead :: .dead :: .dead :: .dead :: .dead :: .dead :: .dead :: .dead :: .dead :: .dead :: .dead :: .dead :: .dead :: .dead :: .dead :: .dead :: []) ∧ H = [some (((keepVs l.l s).take i).flatMap cVlt)])) (keepVs l.l s).length ⟨0, Nat.zero_le _, rfl, .inl ⟨rfl, rfl, rfl⟩⟩ (by refine .ren _ _ _ [] (by decide) (by intro k h; first | exact absurd h (Nat.not_lt_zero k) | (simp at h; done) | (rcases k with _ | _ | _ | k <;> first | rfl | (exfalso; omega) | (simp at h; done))) ?_ ?_ <;> simp [KeepS, KeepH, ArgRel, ArgRelL, argL_cl, arg_cl, row_l_of, row_l_nil, bn_len, blkAt]) ?_
  rintro m S H ⟨i, hi, rfl, hH⟩ J hJ
  have d0 : (0 : Int) ≤ i := by omega
  by_cases hin : i < (keepVs l.l s).length
  · have d1 : (i : Int) < l.l.length := by omega
    have d2 : (i : Int) < 4 := by omega
    have d3 : (i : Int) < (idsF s).length := by omega
    have w1 : IntKind.i64.wrap ((i : Int) + 1) = ((i + 1 : Nat) : Int) := by rw [wrap_id _ (by omega) (by omega)]; omega
    have hS := keepVs_S l.l s i hin
    have g1 := rd_flat cKV_len l.l i (by omega)
    have g2 := rd_flat c4_len (idsF s) i (by omega)
    have hx : 0 ≤ (l.l.getD i default).gen := by
      rw [List.getD_eq_getElem?_getD, List.getElem?_eq_getElem (by omega)]
      exact hg _ (List.getElem_mem _)
    generalize l.l.getD i default = x at *
    generalize (idsF s).getD i default = id at *
    rcases hH with ⟨hi0, rfl, rfl⟩ | ⟨hi0, rfl, rfl⟩
    · have e1 : i + 1 = 1 := by omega
      have et : (keepVs l.l s).take i = [] := by rw [hi0]; rfl
      rw [et, List.nil_append, e1] at hS
      (repeat' (first | simp (maxSteps := 2000000) -implicitDefEqProofs only [A_clavigerkeep_Vaults_L0, d0, d1, d2, d3, w1, g1, g2, el, blk_zVlt, slB_st, idx_lst cKV_len, idx_lst c4_len, len_lst, cells_lst, zr_shard, zr_to, zr_epoch, zr_vault, zr_vaults, rk_ext, fk_ext, sm_c, sm_a, numI_len, lr_api, lr_keep, lr, lr2, oO, oN, oG, oNG, oM, oF, oL, rg, ci, seval, resAll, resL, resV, blkAt, undef, fillV, evParts, footOp, wrOp, chk, disj] | split | ((first | apply ck_call | apply cfk_call); (first | (apply call_pure (keepV_C x id hx) cll cl)))))
      exact hJ _ _ _ _ _ (by omega) ⟨i + 1, by omega, rfl, .inr ⟨by omega, rfl, rfl⟩⟩ (by refine .ren _ _ _ [1] (by decide) (by intro k h; first | exact absurd h (Nat.not_lt_zero k) | (simp at h; done) | (rcases k with _ | _ | _ | k <;> first | rfl | (exfalso; omega) | (simp at h; done))) ?_ ?_ <;> simp [KeepS, KeepH, ArgRel, ArgRelL, argL_cl, arg_cl, row_l_of, row_l_nil, bn_len, blkAt, hS, e1, flat_closed cVlt_closed])
    · have ln : i = ((keepVs l.l s).take i).length := by rw [List.length_take]; omega
      have af := fun H id' => app_fl cVlt_len H ((keepVs l.l s).take i) (keepV x id) id' i 96 ln (by omega) (by decide)
      (repeat' (first | simp (maxSteps := 2000000) -implicitDefEqProofs only [A_clavigerkeep_Vaults_L0, d0, d1, d2, d3, w1, g1, g2, el, af, blk_zVlt, slB_st, idx_lst cKV_len, idx_lst c4_len, len_lst, cells_lst, zr_shard, zr_to, zr_epoch, zr_vault, zr_vaults, rk_ext, fk_ext, sm_c, sm_a, numI_len, lr_api, lr_keep, lr, lr2, oO, oN, oG, oNG, oM, oF, oL, rg, ci, seval, resAll, resL, resV, blkAt, undef, fillV, evParts, footOp, wrOp, chk, disj] | split | ((first | apply ck_call | apply cfk_call); (first | (apply call_pure (keepV_C x id hx) cll cl)))))
      exact hJ _ _ _ _ _ (by omega) ⟨i + 1, by omega, rfl, .inr ⟨by omega, rfl, rfl⟩⟩ (by refine .ren _ _ _ [2] (by decide) (by intro k h; first | exact absurd h (Nat.not_lt_zero k) | (simp at h; done) | (rcases k with _ | _ | _ | k <;> first | rfl | (exfalso; omega) | (simp at h; done))) ?_ ?_ <;> simp [KeepS, KeepH, ArgRel, ArgRelL, argL_cl, arg_cl, row_l_of, row_l_nil, bn_len, blkAt, hS, flat_closed cVlt_closed])
  · obtain rfl : i = (keepVs l.l s).length := by omega
    have fin : ∀ (c1 : decide (((keepVs l.l s).length : Int) < l.l.length) = false ∨ decide (((keepVs l.l s).length : Int) < 4) = false ∨ decide (((keepVs l.l s).length : Int) < (idsF s).length) = false), True := fun _ => trivial
    by_cases d1 : ((keepVs l.l s).length : Int) < l.l.length
    · by_cases d2 : ((keepVs l.l s).length : Int) < 4
      · have d3 : ¬ ((keepVs l.l s).length : Int) < (idsF s).length := by omega
        rcases hH with ⟨hi0, rfl, rfl⟩ | ⟨hi0, rfl, rfl⟩
        · (repeat' (first | simp (maxSteps := 2000000) -implicitDefEqProofs only [A_clavigerkeep_Vaults_L0, K_clavigerkeep_Vaults_L0, d1, d2, d3, el, len_lst, cells_lst, zr_shard, zr_to, zr_epoch, zr_vault, zr_vaults, rk_ext, fk_ext, sm_c, sm_a, numI_len, lr_api, lr_keep, lr, lr2, oO, oN, oG, oNG, oM, oF, oL, rg, ci, seval, resAll, resL, resV, blkAt, undef, fillV, evParts, footOp, wrOp, chk, disj] | split))
          rw [List.length_eq_zero_iff.1 hi0]
          exact out_eq rfl trivial
        · (repeat' (first | simp (maxSteps := 2000000) -implicitDefEqProofs only [A_clavigerkeep_Vaults_L0, K_clavigerkeep_Vaults_L0, d1, d2, d3, el, List.take_length, len_lst, cells_lst, zr_shard, zr_to, zr_epoch, zr_vault, zr_vaults, rk_ext, fk_ext, sm_c, sm_a, numI_len, lr_api, lr_keep, lr, lr2, oO, oN, oG, oNG, oM, oF, oL, rg, ci, seval, resAll, resL, resV, blkAt, undef, fillV, evParts, footOp, wrOp, chk, disj] | split))
          rw [lsOf_ne hi0]
          exact show_lst cVlt_len cVlt_closed rfl rfl
      · rcases hH with ⟨hi0, rfl, rfl⟩ | ⟨hi0, rfl, rfl⟩
        · (repeat' (first | simp (maxSteps := 2000000) -implicitDefEqProofs only [A_clavigerkeep_Vaults_L0, K_clavigerkeep_Vaults_L0, d1, d2, el, len_lst, cells_lst, zr_shard, zr_to, zr_epoch, zr_vault, zr_vaults, rk_ext, fk_ext, sm_c, sm_a, numI_len, lr_api, lr_keep, lr, lr2, oO, oN, oG, oNG, oM, oF, oL, rg, ci, seval, resAll, resL, resV, blkAt, undef, fillV, evParts, footOp, wrOp, chk, disj] | split))
          rw [List.length_eq_zero_iff.1 hi0]
          exact out_eq rfl trivial
        · (repeat' (first | simp (maxSteps := 2000000) -implicitDefEqProofs only [A_clavigerkeep_Vaults_L0, K_clavigerkeep_Vaults_L0, d1, d2, el, List.take_length, len_lst, cells_lst, zr_shard, zr_to, zr_epoch, zr_vault, zr_vaults, rk_ext, fk_ext, sm_c, sm_a, numI_len, lr_api, lr_keep, lr, lr2, oO, oN, oG, oNG, oM, oF, oL, rg, ci, seval, resAll, resL, resV, blkAt, undef, fillV, evParts, footOp, wrOp, chk, disj] | split))
          rw [lsOf_ne hi0]
          exact show_lst cVlt_len cVlt_closed rfl rfl
    · rcases hH with ⟨hi0, rfl, rfl⟩ | ⟨hi0, rfl, rfl⟩
      · (repeat' (first | simp (maxSteps := 2000000) -implicitDefEqProofs only [A_clavigerkeep_Vaults_L0, K_clavigerkeep_Vaults_L0, d1, el, len_lst, cells_lst, zr_shard, zr_to, zr_epoch, zr_vault, zr_vaults, rk_ext, fk_ext, sm_c, sm_a, numI_len, lr_api, lr_keep, lr, lr2, oO, oN, oG, oNG, oM, oF, oL, rg, ci, seval, resAll, resL, resV, blkAt, undef, fillV, evParts, footOp, wrOp, chk, disj] | split))
        rw [List.length_eq_zero_iff.1 hi0]
        exact out_eq rfl trivial
      · (repeat' (first | simp (maxSteps := 2000000) -implicitDefEqProofs only [A_clavigerkeep_Vaults_L0, K_clavigerkeep_Vaults_L0, d1, el, List.take_length, len_lst, cells_lst, zr_shard, zr_to, zr_epoch, zr_vault, zr_vaults, rk_ext, fk_ext, sm_c, sm_a, numI_len, lr_api, lr_keep, lr, lr2, oO, oN, oG, oNG, oM, oF, oL, rg, ci, seval, resAll, resL, resV, blkAt, undef, fillV, evParts, footOp, wrOp, chk, disj] | split))
        rw [lsOf_ne hi0]
        exact show_lst cVlt_len cVlt_closed rfl rfl
end Go.Proofs.YtfpoebmihjbknaaGreat.VA

/- What is drawn is right. -/
set_option linter.unusedVariables false
set_option linter.unusedSimpArgs false
set_option maxRecDepth 100000
namespace Go.Proofs.YtfpoebmihjbknaaGreat.VA
open Go
theorem ofNat_toNatK (a : Nat) : (UInt8.ofNat a).toNat = a % 256 := by simp
attribute [local irreducible] putV keepV
theorem within_id {n lo hi : Int} (h : lo ≤ n ∧ n ≤ hi) : within n lo hi = n := if_pos h
theorem kid_lt {i j : Nat} (h : i < j) (hj : j < 256) : cmpL (kid i).1 (kid j).1 < 0 := by
  have e : ∀ n : Nat, n < 256 → (kid n).1 = [UInt8.ofNat n, 7, 0, 0] := fun n hn => by
    have w : within (n : Int) 0 255 = n := within_id (by omega)
    have e : IntKind.u8.wrap (n : Int) = (n : Int) % 256 := rfl
    have hb : b8 (n : Int) = UInt8.ofNat n := by
      unfold b8 by8
      rw [e]
      congr 1
      omega
    unfold kid
    rw [w, hb]; rfl
  rw [e i (by omega), e j hj]
  have hne : UInt8.ofNat i ≠ UInt8.ofNat j := fun h' => by
    have := congrArg UInt8.toNat h'
    rw [ofNat_toNatK, ofNat_toNatK] at this; omega
  have hlt : UInt8.ofNat i < UInt8.ofNat j := by
    rw [UInt8.lt_iff_toNat_lt, ofNat_toNatK, ofNat_toNatK]; omega
  simp only [cmpL, hne, hlt, if_true, if_false]; decide
theorem ids_sorted (s : Int) : (idsF s).Pairwise (fun a b => cmpL a.1 b.1 < 0) := by
  unfold idsF idsU
  rw [List.pairwise_map]
  have hp : (List.range 256).Pairwise (fun i j => i < j ∧ j < 256) := by
    rw [List.pairwise_iff_getElem]
    intro i j hi hj hij
    simp at hi hj ⊢; omega
  exact List.Pairwise.imp (fun {a b} h => kid_lt h.1 h.2) (List.Pairwise.filter _ hp)
theorem keepVs_rising (l : List KV) (s : Int) (hg : ∀ x ∈ l, 0 ≤ x.gen) : RisingP (keepVs l s) := by
  have hn := keepVs_len l s
  refine ⟨by omega, fun i hi => ?_⟩
  have hx : ∀ k, k < (keepVs l s).length → 0 ≤ (l.getD k default).gen := fun k hk => by
    rw [List.getD_eq_getElem?_getD, List.getElem?_eq_getElem (by omega)]
    exact hg _ (List.getElem_mem _)
  refine ⟨by rw [keepVs_at l s i hi]; exact keepV_right _ _ (hx i hi), fun h0 => ?_⟩
  rw [keepVs_at l s i hi, keepVs_at l s (i - 1) (by omega), keepV_id, keepV_id]
  have := List.pairwise_iff_getElem.1 (ids_sorted s) (i - 1) i (by omega) (by omega) (by omega)
  rw [List.getD_eq_getElem?_getD, List.getElem?_eq_getElem (by omega), List.getD_eq_getElem?_getD, List.getElem?_eq_getElem (by omega)]
  exact this
theorem sameV_zero : sameV Vlt.zero Vlt.zero := ⟨rfl, rfl, rfl, rfl, rfl, rfl, rfl, rfl, rfl⟩
end Go.Proofs.YtfpoebmihjbknaaGreat.VA
