/- Texts of this proof, one behind the other: Lref6, Jcodec, Rcodec, Scodec, Ucodec, Vcodec, Wcodec, Pcodec, Kcodec, Xcodec, Ycodec, Back, Acodec, Back2. -/
import Derived.Test.YtmmaenfjnkoknaaPC
import Derived.Test.YtmmaenfjnkoknaaVC
/- The compact code of the document's codec. -/
set_option linter.unusedVariables false
set_option maxRecDepth 100000
namespace Go.Proofs.Ytmmaenfjnkoknaa.VA
open Go
noncomputable section
def A_clavigerref6_Vault : ACode := (.seq (rg [oO 1 (.box (.t 0)), oO 2 (.mov (.c (.slice none 0 0)))]) (.seq (.region [(3, 5)] [oO 5 (.buildSl 1 0 z1 []), oF 6 0 1, oO 7 (.sliceArr 4 1 (.t 6) none none), oO 8 (.append 1 1 (.t 5) (.t 7)), oF 9 4 1, oL 10 9, oO 11 (.call 108 [(.t 10)]), oO 12 (.append 1 1 (.t 8) (.t 11)), oM 3 12]) (.seq (rg [oO 4 (.mov (.c (.int .u8 0)))]) (.seq (.seq (rg [oF 13 40 1, oL 14 13]) (.cond (.t 14) (rg [oO 4 (.mov (.c (.int .u8 1)))]) .skip)) (.seq (.seq (rg [oF 15 41 1, oL 16 15]) (.cond (.t 16) (rg [oM 17 4, oO 18 (.bin .add (.t 17) (.c (.int .u8 2))), oM 4 18]) .skip)) (.seq (rg [oM 19 3, oM 20 4, oF 21 22 1, oL 22 21, oO 23 (.conv .u8 (.t 22)), oF 24 23 1, oL 25 24, oO 26 (.conv .u8 (.t 25)), oO 27 (.buildSl 1 3 z1 [(0, (1, (.t 20))), (1, (1, (.t 23))), (2, (1, (.t 26)))]), oO 28 (.append 1 1 (.t 19) (.t 27)), oM 3 28]) (.seq (.region [(3, 5)] [oM 29 3, oF 30 5 1, oO 31 (.sliceArr 16 1 (.t 30) none none), oO 32 (.append 1 1 (.t 29) (.t 31)), oF 33 24 1, oO 34 (.sliceArr 16 1 (.t 33) none none), oO 35 (.append 1 1 (.t 32) (.t 34)), oM 3 35]) (.seq (.region [(6, 8)] [oM 36 3, oF 37 21 1, oL 38 37, oO 39 (.lenSl (.t 38)), oO 40 (.conv .u8 (.t 39)), oO 41 (.buildSl 1 1 z1 [(0, (1, (.t 40)))]), oO 42 (.append 1 1 (.t 36) (.t 41)), oF 43 21 1, oL 44 43, oO 45 (.append 1 1 (.t 42) (.t 44)), oM 2 45]) .ret))))))))
theorem A_clavigerref6_Vault_ok : Try.f40.body.bind (cCode Try.prog) = some A_clavigerref6_Vault := by kernel_rfl
theorem A_clavigerref6_Vault_res : cRes Try.prog Try.f40.results.toList = some [(.tmp 2)] := by kernel_rfl
theorem A_clavigerref6_Vault_nt : Try.f40.ntmps = 46 := by kernel_rfl
def A_clavigerref6_Record_L0 : ACode := (.seq (.seq (rg [oM 51 4, oF 52 46 1, oL 53 52, oO 54 (.lenSl (.t 53)), oO 55 (.bin .lss (.t 51) (.t 54))]) (.cond (.t 55) .skip (.exit 1))) (.seq (.block 2 (rg [oM 58 3, oF 59 46 1, oL 60 59, oM 61 4, oO 62 (.idxSl 42 (.t 60) (.t 61)), oO 63 (.load (some 42) (.t 62)), oO 64 (.call 40 [(.t 63)]), oO 65 (.append 1 1 (.t 58) (.t 64)), oM 3 65])) (rg [oM 56 4, oO 57 (.bin .add (.t 56) (ci 1)), oM 4 57])))
def A_clavigerref6_Record : ACode := (.seq (rg [oO 1 (.box (.t 0)), oO 2 (.mov (.c (.slice none 0 0)))]) (.seq (rg [oF 5 0 1, oL 6 5, oO 7 (.conv .u8 (.t 6)), oO 8 (.buildSl 1 1 z1 [(0, (1, (.t 7)))]), oM 3 8]) (.seq (.seq (rg [oF 9 0 1, oL 10 9]) (.block 0 (.seq (rg [oO 12 (.bin .eql (.t 10) (ci 1)), oM 11 12]) (.cond (.t 11) (.seq (rg [oM 13 3, oF 14 4 1, oO 15 (.load (some 42) (.t 14)), oO 16 (.call 40 [(.t 15)]), oO 17 (.append 1 1 (.t 13) (.t 16)), oM 2 17]) .ret) (.seq (rg [oO 19 (.bin .eql (.t 10) (ci 2)), oM 18 19]) (.cond (.t 18) (.seq (.region [(8, 10)] [oM 20 3, oF 21 1 1, oL 22 21, oO 23 (.conv .u8 (.t 22)), oF 24 2 1, oL 25 24, oO 26 (.conv .u8 (.t 25)), oO 27 (.buildSl 1 2 z1 [(0, (1, (.t 23))), (1, (1, (.t 26)))]), oO 28 (.append 1 1 (.t 20) (.t 27)), oF 29 3 1, oL 30 29, oO 31 (.call 108 [(.t 30)]), oO 32 (.append 1 1 (.t 28) (.t 31)), oM 2 32]) .ret) (.seq (rg [oO 34 (.bin .eql (.t 10) (ci 3)), oM 33 34]) (.cond (.t 33) (.seq (.region [(5, 7), (5, 11), (8, 11), (9, 11), (5, 13), (8, 13), (9, 13)] [oM 35 3, oF 36 1 1, oL 37 36, oO 38 (.conv .u8 (.t 37)), oO 39 (.buildSl 1 1 z1 [(0, (1, (.t 38)))]), oO 40 (.append 1 1 (.t 35) (.t 39)), oF 41 3 1, oL 42 41, oO 43 (.call 108 [(.t 42)]), oO 44 (.append 1 1 (.t 40) (.t 43)), oF 45 46 1, oL 46 45, oO 47 (.lenSl (.t 46)), oO 48 (.conv .u8 (.t 47)), oO 49 (.buildSl 1 1 z1 [(0, (1, (.t 48)))]), oO 50 (.append 1 1 (.t 44) (.t 49)), oM 3 50]) (.seq (.seq (rg [oO 4 (.mov (ci 0))]) (.block 1 (.loop A_clavigerref6_Record_L0))) (.seq (rg [oM 66 3, oM 2 66]) .ret))) .skip)))))))) (.seq (.region [(5, 7)] [oM 67 3, oF 68 1 1, oL 69 68, oO 70 (.conv .u8 (.t 69)), oO 71 (.buildSl 1 1 z1 [(0, (1, (.t 70)))]), oO 72 (.append 1 1 (.t 67) (.t 71)), oF 73 3 1, oL 74 73, oO 75 (.call 108 [(.t 74)]), oO 76 (.append 1 1 (.t 72) (.t 75)), oM 2 76]) .ret))))
def K_clavigerref6_Record_L0 : Kt := (.blk 1 (.seq (.seq (rg [oM 66 3, oM 2 66]) .ret) (.blk 0 (.seq (.seq (.region [(5, 7)] [oM 67 3, oF 68 1 1, oL 69 68, oO 70 (.conv .u8 (.t 69)), oO 71 (.buildSl 1 1 z1 [(0, (1, (.t 70)))]), oO 72 (.append 1 1 (.t 67) (.t 71)), oF 73 3 1, oL 74 73, oO 75 (.call 108 [(.t 74)]), oO 76 (.append 1 1 (.t 72) (.t 75)), oM 2 76]) .ret) .fin))))
theorem A_clavigerref6_Record_ok : Try.f43.body.bind (cCode Try.prog) = some A_clavigerref6_Record := by kernel_rfl
theorem A_clavigerref6_Record_res : cRes Try.prog Try.f43.results.toList = some [(.tmp 2)] := by kernel_rfl
theorem A_clavigerref6_Record_nt : Try.f43.ntmps = 77 := by kernel_rfl
def A_clavigerref6_Same : ACode := (.seq (rg [oO 2 (.box (.t 0)), oO 3 (.box (.t 1)), oO 4 (.mov (.c (.bool false)))]) (.seq (rg [oF 5 0 2, oO 6 (.load (some 4) (.t 5)), oF 7 0 3, oO 8 (.load (some 4) (.t 7)), oO 9 (.eqA false sh4 (.t 6) (.t 8)), oM 10 9, oG 11 (.fieldAddr 4 (.t 2)) 10 true, oG 12 (.load none (.t 11)) 10 true, oG 13 (.fieldAddr 4 (.t 3)) 10 true, oG 14 (.load none (.t 13)) 10 true, oG 15 (.bin .eql (.t 12) (.t 14)) 10 true, oO 16 (.pick (.t 10) (.t 15) (.c (.bool false))), oM 17 16, oG 18 (.fieldAddr 5 (.t 2)) 17 true, oG 19 (.load (some 16) (.t 18)) 17 true, oG 20 (.fieldAddr 5 (.t 3)) 17 true, oG 21 (.load (some 16) (.t 20)) 17 true, oG 22 (.eqA false sh16 (.t 19) (.t 21)) 17 true, oO 23 (.pick (.t 17) (.t 22) (.c (.bool false))), oM 24 23, oG 25 (.fieldAddr 21 (.t 2)) 24 true, oG 26 (.load none (.t 25)) 24 true, oG 27 (.toStr (.t 26)) 24 true, oG 28 (.fieldAddr 21 (.t 3)) 24 true, oG 29 (.load none (.t 28)) 24 true, oG 30 (.toStr (.t 29)) 24 true, oG 31 (.bin .eql (.t 27) (.t 30)) 24 true, oO 32 (.pick (.t 24) (.t 31) (.c (.bool false))), oM 33 32, oG 34 (.fieldAddr 22 (.t 2)) 33 true, oG 35 (.load none (.t 34)) 33 true, oG 36 (.fieldAddr 22 (.t 3)) 33 true, oG 37 (.load none (.t 36)) 33 true, oG 38 (.bin .eql (.t 35) (.t 37)) 33 true, oO 39 (.pick (.t 33) (.t 38) (.c (.bool false))), oM 40 39, oG 41 (.fieldAddr 23 (.t 2)) 40 true, oG 42 (.load none (.t 41)) 40 true, oG 43 (.fieldAddr 23 (.t 3)) 40 true, oG 44 (.load none (.t 43)) 40 true, oG 45 (.bin .eql (.t 42) (.t 44)) 40 true, oO 46 (.pick (.t 40) (.t 45) (.c (.bool false))), oM 47 46, oG 48 (.fieldAddr 24 (.t 2)) 47 true, oG 49 (.load (some 16) (.t 48)) 47 true, oG 50 (.fieldAddr 24 (.t 3)) 47 true, oG 51 (.load (some 16) (.t 50)) 47 true, oG 52 (.eqA false sh16 (.t 49) (.t 51)) 47 true, oO 53 (.pick (.t 47) (.t 52) (.c (.bool false))), oM 54 53, oG 55 (.fieldAddr 40 (.t 2)) 54 true, oG 56 (.load none (.t 55)) 54 true, oG 57 (.fieldAddr 40 (.t 3)) 54 true, oG 58 (.load none (.t 57)) 54 true, oG 59 (.eqB false (.t 56) (.t 58)) 54 true, oO 60 (.pick (.t 54) (.t 59) (.c (.bool false))), oM 61 60, oG 62 (.fieldAddr 41 (.t 2)) 61 true, oG 63 (.load none (.t 62)) 61 true, oG 64 (.fieldAddr 41 (.t 3)) 61 true, oG 65 (.load none (.t 64)) 61 true, oG 66 (.eqB false (.t 63) (.t 65)) 61 true, oO 67 (.pick (.t 61) (.t 66) (.c (.bool false))), oM 4 67]) .ret))
theorem A_clavigerref6_Same_ok : Try.f111.body.bind (cCode Try.prog) = some A_clavigerref6_Same := by kernel_rfl
theorem A_clavigerref6_Same_res : cRes Try.prog Try.f111.results.toList = some [(.tmp 4)] := by kernel_rfl
theorem A_clavigerref6_Same_nt : Try.f111.ntmps = 68 := by kernel_rfl
def A_clavigerref6_Vaults_L0 : ACode := (.seq (.seq (rg [oM 11 5, oM 12 0, oO 13 (.lenSl (.t 12)), oO 14 (.bin .lss (.t 11) (.t 13))]) (.cond (.t 14) .skip (.exit 0))) (.seq (.block 1 (.seq (rg [oM 17 0, oM 18 5, oO 19 (.idxSl 42 (.t 17) (.t 18)), oO 20 (.load (some 42) (.t 19)), oM 21 1, oM 22 5, oO 23 (.idxSl 42 (.t 21) (.t 22)), oO 24 (.load (some 42) (.t 23)), oO 25 (.call 111 [(.t 20), (.t 24)]), oO 26 (.un .not (.t 25))]) (.cond (.t 26) (.seq (rg [oO 4 (.mov (.c (.bool false)))]) .ret) .skip))) (rg [oM 15 5, oO 16 (.bin .add (.t 15) (ci 1)), oM 5 16])))
def A_clavigerref6_Vaults : ACode := (.seq (rg [oO 4 (.mov (.c (.bool false)))]) (.seq (.seq (rg [oM 6 0, oO 7 (.lenSl (.t 6)), oM 8 1, oO 9 (.lenSl (.t 8)), oO 10 (.bin .neq (.t 7) (.t 9))]) (.cond (.t 10) (.seq (rg [oO 4 (.mov (.c (.bool false)))]) .ret) .skip)) (.seq (.seq (rg [oO 5 (.mov (ci 0))]) (.block 0 (.loop A_clavigerref6_Vaults_L0))) (.seq (rg [oO 4 (.mov (.c (.bool true)))]) .ret))))
def K_clavigerref6_Vaults_L0 : Kt := (.blk 0 (.seq (.seq (rg [oO 4 (.mov (.c (.bool true)))]) .ret) .fin))
theorem A_clavigerref6_Vaults_ok : Try.f151.body.bind (cCode Try.prog) = some A_clavigerref6_Vaults := by kernel_rfl
theorem A_clavigerref6_Vaults_res : cRes Try.prog Try.f151.results.toList = some [(.tmp 4)] := by kernel_rfl
theorem A_clavigerref6_Vaults_nt : Try.f151.ntmps = 27 := by kernel_rfl
def A_clavigerref6_Records : ACode := (.seq (rg [oO 2 (.box (.t 0)), oO 3 (.box (.t 1)), oO 4 (.mov (.c (.bool false)))]) (.seq (rg [oF 5 0 2, oL 6 5, oF 7 0 3, oL 8 7, oO 9 (.bin .eql (.t 6) (.t 8)), oM 10 9, oG 11 (.fieldAddr 1 (.t 2)) 10 true, oG 12 (.load none (.t 11)) 10 true, oG 13 (.fieldAddr 1 (.t 3)) 10 true, oG 14 (.load none (.t 13)) 10 true, oG 15 (.bin .eql (.t 12) (.t 14)) 10 true, oO 16 (.pick (.t 10) (.t 15) (.c (.bool false))), oM 17 16, oG 18 (.fieldAddr 2 (.t 2)) 17 true, oG 19 (.load none (.t 18)) 17 true, oG 20 (.fieldAddr 2 (.t 3)) 17 true, oG 21 (.load none (.t 20)) 17 true, oG 22 (.bin .eql (.t 19) (.t 21)) 17 true, oO 23 (.pick (.t 17) (.t 22) (.c (.bool false))), oM 24 23, oG 25 (.fieldAddr 3 (.t 2)) 24 true, oG 26 (.load none (.t 25)) 24 true, oG 27 (.fieldAddr 3 (.t 3)) 24 true, oG 28 (.load none (.t 27)) 24 true, oG 29 (.bin .eql (.t 26) (.t 28)) 24 true, oO 30 (.pick (.t 24) (.t 29) (.c (.bool false))), oM 31 30, oG 32 (.fieldAddr 4 (.t 2)) 31 true, oG 33 (.load (some 42) (.t 32)) 31 true, oG 34 (.fieldAddr 4 (.t 3)) 31 true, oG 35 (.load (some 42) (.t 34)) 31 true, oG 36 (.call 111 [(.t 33), (.t 35)]) 31 true, oO 37 (.pick (.t 31) (.t 36) (.c (.bool false))), oM 38 37, oG 39 (.fieldAddr 46 (.t 2)) 38 true, oG 40 (.load none (.t 39)) 38 true, oG 41 (.fieldAddr 46 (.t 3)) 38 true, oG 42 (.load none (.t 41)) 38 true, oG 43 (.call 151 [(.t 40), (.t 42)]) 38 true, oO 44 (.pick (.t 38) (.t 43) (.c (.bool false))), oM 4 44]) .ret))
theorem A_clavigerref6_Records_ok : Try.f69.body.bind (cCode Try.prog) = some A_clavigerref6_Records := by kernel_rfl
theorem A_clavigerref6_Records_res : cRes Try.prog Try.f69.results.toList = some [(.tmp 4)] := by kernel_rfl
theorem A_clavigerref6_Records_nt : Try.f69.ntmps = 45 := by kernel_rfl
end
end Go.Proofs.Ytmmaenfjnkoknaa.VA

/- Values that are right: the document's. -/
set_option linter.unusedVariables false
set_option linter.unusedSimpArgs false
set_option maxRecDepth 100000
namespace Go.Proofs.Ytmmaenfjnkoknaa.VA
open Go
attribute [local irreducible] WK NK XK TK RK FK CK CFK CallRel C
end Go.Proofs.Ytmmaenfjnkoknaa.VA

/- Values are read: the document's reader. -/
set_option linter.unusedVariables false
set_option linter.unusedSimpArgs false
set_option maxRecDepth 100000
namespace Go.Proofs.Ytmmaenfjnkoknaa.VA
open Go
attribute [local irreducible] WK NK XK TK RK FK CK CFK CallRel C
end Go.Proofs.Ytmmaenfjnkoknaa.VA

/- A vault, a request, a reply are read: the document's. -/
set_option linter.unusedVariables false
set_option linter.unusedSimpArgs false
set_option maxRecDepth 100000
namespace Go.Proofs.Ytmmaenfjnkoknaa.VA
open Go
attribute [local irreducible] WK NK XK TK RK FK CK CFK CallRel C
attribute [local irreducible] dropS textS textR oneV takeL bnT numB RightV RightQ RightP badF
end Go.Proofs.Ytmmaenfjnkoknaa.VA

/- Requests, replies are read: the document's. -/
set_option linter.unusedVariables false
set_option linter.unusedSimpArgs false
set_option maxRecDepth 100000
namespace Go.Proofs.Ytmmaenfjnkoknaa.VA
open Go
attribute [local irreducible] WK NK XK TK RK FK CK CFK CallRel C
attribute [local irreducible] dropS textS textR oneV takeL bnT numB RightV RightQ RightP badF rd0
end Go.Proofs.Ytmmaenfjnkoknaa.VA

/- Vaults, requests, replies are written: the document's. -/
set_option linter.unusedVariables false
set_option linter.unusedSimpArgs false
set_option maxRecDepth 100000
namespace Go.Proofs.Ytmmaenfjnkoknaa.VA
open Go
attribute [local irreducible] WK NK XK TK RK FK CK CFK CallRel C
theorem rnumberI_C (i : Int) (h : 0 ≤ i) (h2 : i < 18446744073709551616) : C Try.prog 108 [vi .u64 i] [] (rowV (.of (numI i))) [] := by
  obtain ⟨n, rfl⟩ : ∃ n : Nat, i = n := ⟨i.toNat, by omega⟩
  exact C_shut (rnumber_C n (by omega)) rfl
theorem sm_bn {k : Nat} (d : Bn k) (n : Nat) : Sm d.1 n = (k + n ≤ 140737488355328) := by simp only [Sm, bn_len]
theorem sm_numI (i : Int) (n : Nat) : Sm (numI i) n = (8 + n ≤ 140737488355328) := by simp only [Sm, numI_len]
theorem slB_fld {cells : List V} {off k : Nat} {d : Bn k} (h : rd (some k) cells off = some (.agg (dg d))) (id : Nat) : slB 1 id off k 1 cells = some (k, bs d.1) := by
  unfold rd at h
  unfold slB
  simp only at h
  split at h
  · rename_i hc
    rw [if_pos ⟨rfl, by omega⟩, Nat.mul_one]
    have := Option.some.inj h
    injection this with this
    rw [this, dg]
  · cases h
theorem rputVO_C (x : Vlt) (hw : x.wiped = true → x.gone = true) (g0 : 0 ≤ x.gen) (g1 : x.gen < 18446744073709551616) (hs : x.secret.l.length ≤ 8192) : C Try.prog 40 [.agg (cVlt x)] [] (.sref 0 0 (putV x).length 1) [some (bs (putV x))] := by
  refine C_of mixed Try.func40 A_clavigerref6_Vault_ok A_clavigerref6_Vault_res _ A_clavigerref6_Vault_nt ?_
  have d0 : (0 : Int) ≤ x.secret.l.length := by omega
  have hz : 4 + (8 + (3 + (16 + (16 + (1 + x.secret.l.length))))) ≤ 140737488355328 := by omega
  have e : putV x = x.id.1 ++ numI x.gen ++ [flagF x, by8 (IntKind.u8.wrap x.limit), by8 (IntKind.u8.wrap x.used)] ++ x.pin.1 ++ x.owner.1 ++ [UInt8.ofNat x.secret.l.length] ++ x.secret.l := by
    simp [putV, vltRows, joinF, b8, Row.l]
  rw [e]
  have f1 := slB_fld (rd_Vlt_id x)
  have f2 := slB_fld (rd_Vlt_pin x)
  have f3 := slB_fld (rd_Vlt_owner x)
  by_cases h1 : x.gone = true
  · by_cases h2 : x.wiped = true
    · have ef : flagF x = by8 3 := by simp [flagF, h1, h2]
      rw [ef]
      (repeat' (first | simp (maxSteps := 2000000) -implicitDefEqProofs only [A_clavigerref6_Vault, d0, h1, h2, hz, sm_bn, sm_numI, bn_len, f1, f2, f3, len_lst, rk_ext, fk_ext, sm_c, sm_a, numI_len, lr_api, lr, lr2, oO, oN, oG, oNG, oM, oF, oL, rg, ci, Nat.reduceEqDiff, Nat.reduceAdd, Nat.reduceSub, Int.reduceTDiv, Int.reduceTMod, ge_iff_le, Int.reduceGE, Nat.reducePow, Int.reduceEq, Int.reduceNeg, Int.reduceLE, Int.reducePow, Int.reduceLT, Int.reduceSub, Int.reduceAdd, Int.reduceMul, Int.reduceToNat, Option.map_some, ↓reduceIte, ite_not, beq_iff_eq, bne_iff_ne, ne_eq, beq_self_eq_true, beq_eq_false_iff_ne, bne_eq_false_iff_eq, resAll, resL, resV, reduceCtorEq, Option.some.injEq, exists_eq_left', blkAt, Nat.reduceLeDiff, Nat.reduceMul, eq_self, Nat.reduceLT, undef, fillV, evParts, footOp, wrOp, chk, disj, Nat.reduceBEq] | split | ((first | apply ck_call | apply cfk_call); (first | (apply call_pure (rnumberI_C x.gen g0 g1) cll cl)))))
      exact out_row rfl (bs_closed _)
    · have ef : flagF x = by8 1 := by simp [flagF, h1, h2]
      rw [ef]
      (repeat' (first | simp (maxSteps := 2000000) -implicitDefEqProofs only [A_clavigerref6_Vault, d0, h1, h2, hz, sm_bn, sm_numI, bn_len, f1, f2, f3, len_lst, rk_ext, fk_ext, sm_c, sm_a, numI_len, lr_api, lr, lr2, oO, oN, oG, oNG, oM, oF, oL, rg, ci, Nat.reduceEqDiff, Nat.reduceAdd, Nat.reduceSub, Int.reduceTDiv, Int.reduceTMod, ge_iff_le, Int.reduceGE, Nat.reducePow, Int.reduceEq, Int.reduceNeg, Int.reduceLE, Int.reducePow, Int.reduceLT, Int.reduceSub, Int.reduceAdd, Int.reduceMul, Int.reduceToNat, Option.map_some, ↓reduceIte, ite_not, beq_iff_eq, bne_iff_ne, ne_eq, beq_self_eq_true, beq_eq_false_iff_ne, bne_eq_false_iff_eq, resAll, resL, resV, reduceCtorEq, Option.some.injEq, exists_eq_left', blkAt, Nat.reduceLeDiff, Nat.reduceMul, eq_self, Nat.reduceLT, undef, fillV, evParts, footOp, wrOp, chk, disj, Nat.reduceBEq] | split | ((first | apply ck_call | apply cfk_call); (first | (apply call_pure (rnumberI_C x.gen g0 g1) cll cl)))))
      exact out_row rfl (bs_closed _)
  · have h2 : ¬ x.wiped = true := fun h => h1 (hw h)
    have ef : flagF x = by8 0 := by simp [flagF, h1, h2]
    rw [ef]
    (repeat' (first | simp (maxSteps := 2000000) -implicitDefEqProofs only [A_clavigerref6_Vault, d0, h1, h2, hz, sm_bn, sm_numI, bn_len, f1, f2, f3, len_lst, rk_ext, fk_ext, sm_c, sm_a, numI_len, lr_api, lr, lr2, oO, oN, oG, oNG, oM, oF, oL, rg, ci, Nat.reduceEqDiff, Nat.reduceAdd, Nat.reduceSub, Int.reduceTDiv, Int.reduceTMod, ge_iff_le, Int.reduceGE, Nat.reducePow, Int.reduceEq, Int.reduceNeg, Int.reduceLE, Int.reducePow, Int.reduceLT, Int.reduceSub, Int.reduceAdd, Int.reduceMul, Int.reduceToNat, Option.map_some, ↓reduceIte, ite_not, beq_iff_eq, bne_iff_ne, ne_eq, beq_self_eq_true, beq_eq_false_iff_ne, bne_eq_false_iff_eq, resAll, resL, resV, reduceCtorEq, Option.some.injEq, exists_eq_left', blkAt, Nat.reduceLeDiff, Nat.reduceMul, eq_self, Nat.reduceLT, undef, fillV, evParts, footOp, wrOp, chk, disj, Nat.reduceBEq] | split | ((first | apply ck_call | apply cfk_call); (first | (apply call_pure (rnumberI_C x.gen g0 g1) cll cl)))))
    exact out_row rfl (bs_closed _)
theorem rputV_C (x : Vlt) (hw : x.wiped = true → x.gone = true) (g0 : 0 ≤ x.gen) (g1 : x.gen < 18446744073709551616) (hs : x.secret.l.length ≤ 8192) : C Try.prog 40 [.agg (cVlt x)] [] (rowV (.of (putV x))) [] := C_shut (rputVO_C x hw g0 g1 hs) rfl
end Go.Proofs.Ytmmaenfjnkoknaa.VA

/- Records are written: the document's. -/
set_option linter.unusedVariables false
set_option linter.unusedSimpArgs false
set_option maxRecDepth 100000
namespace Go.Proofs.Ytmmaenfjnkoknaa.VA
open Go
attribute [local irreducible] WK NK XK TK RK FK CK CFK CallRel C
theorem right_wg {x : Vlt} (h : RightV x) (hw : x.wiped = true) : x.gone = true := by
  obtain ⟨_, _, h⟩ := h
  split at h
  · assumption
  · rw [h.1] at hw; cases hw
theorem rputVR_C (x : Vlt) (h : RightV x) : C Try.prog 40 [.agg (cVlt x)] [] (rowV (.of (putV x))) [] :=
  rputV_C x (right_wg h) (right_gen h) (by have := h.2.1; omega) (by have := right_sec h; omega)
theorem rputRO_C (r : Rec) (h : RightR r) (he : 0 ≤ r.epoch) (he2 : r.epoch < 18446744073709551616) : C Try.prog 43 [.agg (cRec r)] [] (.sref 0 0 (putR r).length 1) [some (bs (putR r))] := by
  refine C_of mixed Try.func43 A_clavigerref6_Record_ok A_clavigerref6_Record_res _ A_clavigerref6_Record_nt ?_
  have hk := rightR_kind h
  by_cases k1 : r.kind = 1
  · have hv : RightV r.vault := by rcases h with h | ⟨_, h | h | h⟩ <;> first | exact h.2.1 | omega
    have hs : (putV r.vault).length + 1 ≤ 140737488355328 := by have := right_sec hv; rw [putV_len]; omega
    have e : putR r = by8 (IntKind.u8.wrap 1) :: putV r.vault := by rw [putR, if_pos k1, b8, k1]; rfl
    rw [e]
    (repeat' (first | simp (maxSteps := 2000000) -implicitDefEqProofs only [A_clavigerref6_Record, k1, hs, len_lst, rk_ext, fk_ext, sm_c, sm_a, numI_len, lr_api, lr, lr2, oO, oN, oG, oNG, oM, oF, oL, rg, ci, Nat.reduceEqDiff, Nat.reduceAdd, Nat.reduceSub, Int.reduceTDiv, Int.reduceTMod, ge_iff_le, Int.reduceGE, Nat.reducePow, Int.reduceEq, Int.reduceNeg, Int.reduceLE, Int.reducePow, Int.reduceLT, Int.reduceSub, Int.reduceAdd, Int.reduceMul, Int.reduceToNat, Option.map_some, ↓reduceIte, ite_not, beq_iff_eq, bne_iff_ne, ne_eq, beq_self_eq_true, beq_eq_false_iff_ne, bne_eq_false_iff_eq, resAll, resL, resV, reduceCtorEq, Option.some.injEq, exists_eq_left', blkAt, Nat.reduceLeDiff, Nat.reduceMul, eq_self, Nat.reduceLT, undef, fillV, evParts, footOp, wrOp, chk, disj, Nat.reduceBEq] | split | ((first | apply ck_call | apply cfk_call); (first | (apply call_pure (rputVR_C r.vault hv) cll cl)))))
    exact out_row rfl (bs_closed _)
  by_cases k2 : r.kind = 2
  · have e : putR r = by8 (IntKind.u8.wrap 2) :: by8 (IntKind.u8.wrap r.shard) :: by8 (IntKind.u8.wrap r.to) :: numI r.epoch := by rw [putR, if_neg k1, if_pos k2, b8, b8, b8, k2]; rfl
    rw [e]
    (repeat' (first | simp (maxSteps := 2000000) -implicitDefEqProofs only [A_clavigerref6_Record, k1, k2, sm_numI, len_lst, rk_ext, fk_ext, sm_c, sm_a, numI_len, lr_api, lr, lr2, oO, oN, oG, oNG, oM, oF, oL, rg, ci, Nat.reduceEqDiff, Nat.reduceAdd, Nat.reduceSub, Int.reduceTDiv, Int.reduceTMod, ge_iff_le, Int.reduceGE, Nat.reducePow, Int.reduceEq, Int.reduceNeg, Int.reduceLE, Int.reducePow, Int.reduceLT, Int.reduceSub, Int.reduceAdd, Int.reduceMul, Int.reduceToNat, Option.map_some, ↓reduceIte, ite_not, beq_iff_eq, bne_iff_ne, ne_eq, beq_self_eq_true, beq_eq_false_iff_ne, bne_eq_false_iff_eq, resAll, resL, resV, reduceCtorEq, Option.some.injEq, exists_eq_left', blkAt, Nat.reduceLeDiff, Nat.reduceMul, eq_self, Nat.reduceLT, undef, fillV, evParts, footOp, wrOp, chk, disj, Nat.reduceBEq] | split | ((first | apply ck_call | apply cfk_call); (first | (apply call_pure (rnumberI_C r.epoch he he2) cll cl)))))
    exact out_row rfl (bs_closed _)
  by_cases k3 : r.kind = 3
  · have hr : RisingP r.vaults.l := by rcases h with h | ⟨_, h | h | h⟩ <;> first | exact h.2.2 | omega
    obtain ⟨l4, hvs⟩ := hr
    have d0 : (0 : Int) ≤ r.vaults.l.length := by omega
    have fl := flat_le r.vaults.l fun i hi => (hvs i hi).1
    obtain ⟨pre, hpre⟩ : ∃ pre, pre = by8 (IntKind.u8.wrap 3) :: by8 (IntKind.u8.wrap r.shard) :: (numI r.epoch ++ [UInt8.ofNat r.vaults.l.length]) := ⟨_, rfl⟩
    have lp : pre.length = 11 := by rw [hpre]; simp [numI_len]
    have e : putR r = pre ++ r.vaults.l.flatMap putV := by rw [putR, if_neg k1, if_neg k2, if_pos k3, b8, b8, k3, hpre]; simp
    rw [e]
    (repeat' (first | simp (maxSteps := 2000000) -implicitDefEqProofs only [A_clavigerref6_Record, k1, k2, k3, d0, sm_numI, len_lst, rk_ext, fk_ext, sm_c, sm_a, numI_len, lr_api, lr, lr2, oO, oN, oG, oNG, oM, oF, oL, rg, ci, Nat.reduceEqDiff, Nat.reduceAdd, Nat.reduceSub, Int.reduceTDiv, Int.reduceTMod, ge_iff_le, Int.reduceGE, Nat.reducePow, Int.reduceEq, Int.reduceNeg, Int.reduceLE, Int.reducePow, Int.reduceLT, Int.reduceSub, Int.reduceAdd, Int.reduceMul, Int.reduceToNat, Option.map_some, ↓reduceIte, ite_not, beq_iff_eq, bne_iff_ne, ne_eq, beq_self_eq_true, beq_eq_false_iff_ne, bne_eq_false_iff_eq, resAll, resL, resV, reduceCtorEq, Option.some.injEq, exists_eq_left', blkAt, Nat.reduceLeDiff, Nat.reduceMul, eq_self, Nat.reduceLT, undef, fillV, evParts, footOp, wrOp, chk, disj, Nat.reduceBEq] | split | ((first | apply ck_call | apply cfk_call); (first | (apply call_pure (rnumberI_C r.epoch he he2) cll cl)))))
    refine wk_loop (fun m S H => ∃ (i n : Nat) (B : List UInt8), i ≤ r.vaults.l.length ∧ n = B.length ∧ B = pre ++ (r.vaults.l.take i).flatMap putV ∧ m = r.vaults.l.length - i ∧ S = (.dead :: .ref 0 0 :: vnil :: .sref 1 0 n 1 :: vi .i64 i :: .dead :: .dead :: .dead :: .dead :: .dead :: .dead :: .dead :: .dead :: .dead :: .dead :: .dead :: .dead :: .dead :: .dead :: .dead :: .dead :: .dead :: .dead :: .dead :: .dead :: .dead :: .dead :: .dead :: .dead :: .dead :: .dead :: .dead :: .dead :: .dead :: .dead :: .dead :: .dead :: .dead :: .dead :: .dead :: .dead :: .dead :: .dead :: .dead :: .dead :: .dead :: .dead :: .dead :: .dead :: .dead :: .dead :: .dead :: .dead :: .dead :: .dead :: .dead :: .dead :: .dead :: .dead :: .dead :: .dead :: .dead :: .dead :: .dead :: .dead :: .dead :: .dead :: .dead :: .dead :: .dead :: .dead :: .dead :: .dead :: .dead :: .dead :: .dead :: .dead :: []) ∧ H = [some (cRec r), some (bs B)]) r.vaults.l.length ⟨0, 11, by8 3 :: by8 (IntKind.u8.wrap r.shard) :: (numI r.epoch ++ [UInt8.ofNat r.vaults.l.length]), Nat.zero_le _, by rw [show (by8 3 : UInt8) = by8 (IntKind.u8.wrap 3) from rfl, ← hpre, lp], by rw [hpre]; simp; rfl, rfl, rfl, rfl⟩ (by refine .ren _ _ _ [0, 6] (by decide) (by intro k h; first | exact absurd h (Nat.not_lt_zero k) | (simp at h; done) | (match k, h with | 0, _ => rfl)) ?_ ?_ <;> simp [KeepS, KeepH, ArgRel, ArgRelL, argL_cl, arg_cl, row_l_of, row_l_nil, bn_len, blkAt, numI_len]) ?_
    rintro m S H ⟨i, n, B, hi, rfl, hB, rfl, rfl, rfl⟩ J hJ
    have c0 : (0 : Int) ≤ i := by omega
    by_cases hil : i < r.vaults.l.length
    · have c1 : (i : Int) < r.vaults.l.length := by omega
      have w1 : IntKind.i64.wrap ((i : Int) + 1) = ((i + 1 : Nat) : Int) := by rw [wrap_id _ (by omega) (by omega)]; omega
      have g1 := rd_flat cVlt_len r.vaults.l i hil
      have hv := (hvs i hil).1
      have e1 : B ++ putV (r.vaults.l.getD i default) = pre ++ (r.vaults.l.take (i + 1)).flatMap putV := by
        rw [hB, take_snoc _ _ hil, List.flatMap_append, List.append_assoc]; simp
      have ft : ((r.vaults.l.take i).flatMap putV).length ≤ 112 * 4 := by
        have := flat_le (r.vaults.l.take i) fun j hj => by
          rw [List.length_take] at hj
          have := (hvs j (by omega)).1
          rw [List.getD_eq_getElem?_getD, List.getElem?_take_of_lt (by omega), ← List.getD_eq_getElem?_getD]
          exact this
        rw [List.length_take] at this
        omega
      have hs : Sm B (putV (r.vaults.l.getD i default)).length := by
        have := right_sec hv
        rw [hB]
        simp only [Sm, List.length_append, lp, putV_len]; omega
      generalize r.vaults.l.getD i default = x at *
      (repeat' (first | simp (maxSteps := 2000000) -implicitDefEqProofs only [A_clavigerref6_Record_L0, c0, c1, w1, g1, hs, idx_lst cVlt_len, len_lst, rk_ext, fk_ext, sm_c, sm_a, numI_len, lr_api, lr, lr2, oO, oN, oG, oNG, oM, oF, oL, rg, ci, Nat.reduceEqDiff, Nat.reduceAdd, Nat.reduceSub, Int.reduceTDiv, Int.reduceTMod, ge_iff_le, Int.reduceGE, Nat.reducePow, Int.reduceEq, Int.reduceNeg, Int.reduceLE, Int.reducePow, Int.reduceLT, Int.reduceSub, Int.reduceAdd, Int.reduceMul, Int.reduceToNat, Option.map_some, ↓reduceIte, ite_not, beq_iff_eq, bne_iff_ne, ne_eq, beq_self_eq_true, beq_eq_false_iff_ne, bne_eq_false_iff_eq, resAll, resL, resV, reduceCtorEq, Option.some.injEq, exists_eq_left', blkAt, Nat.reduceLeDiff, Nat.reduceMul, eq_self, Nat.reduceLT, undef, fillV, evParts, footOp, wrOp, chk, disj, Nat.reduceBEq] | split | ((first | apply ck_call | apply cfk_call); (first | (apply call_pure (rputVR_C _ hv) cll cl)))))
      exact hJ _ _ _ _ _ (by omega) ⟨i + 1, (B ++ putV x).length, B ++ putV x, by omega, rfl, e1, rfl, rfl, rfl⟩ (by refine .ren _ _ _ [0, 2] (by decide) (by intro k h; first | exact absurd h (Nat.not_lt_zero k) | (simp at h; done) | (match k, h with | 0, _ => rfl)) ?_ ?_ <;> simp [KeepS, KeepH, ArgRel, ArgRelL, argL_cl, arg_cl, row_l_of, row_l_nil, bn_len, blkAt])
    · obtain rfl : i = r.vaults.l.length := by omega
      have c1 : ¬ ((r.vaults.l.length : Nat) : Int) < r.vaults.l.length := by omega
      rw [List.take_length] at hB
      (repeat' (first | simp (maxSteps := 2000000) -implicitDefEqProofs only [A_clavigerref6_Record_L0, K_clavigerref6_Record_L0, c1, len_lst, rk_ext, fk_ext, sm_c, sm_a, numI_len, lr_api, lr, lr2, oO, oN, oG, oNG, oM, oF, oL, rg, ci, Nat.reduceEqDiff, Nat.reduceAdd, Nat.reduceSub, Int.reduceTDiv, Int.reduceTMod, ge_iff_le, Int.reduceGE, Nat.reducePow, Int.reduceEq, Int.reduceNeg, Int.reduceLE, Int.reducePow, Int.reduceLT, Int.reduceSub, Int.reduceAdd, Int.reduceMul, Int.reduceToNat, Option.map_some, ↓reduceIte, ite_not, beq_iff_eq, bne_iff_ne, ne_eq, beq_self_eq_true, beq_eq_false_iff_ne, bne_eq_false_iff_eq, resAll, resL, resV, reduceCtorEq, Option.some.injEq, exists_eq_left', blkAt, Nat.reduceLeDiff, Nat.reduceMul, eq_self, Nat.reduceLT, undef, fillV, evParts, footOp, wrOp, chk, disj, Nat.reduceBEq] | split))
      rw [hB]
      exact out_row rfl (bs_closed _)
  · have k4 : r.kind = 4 := by omega
    have e : putR r = by8 (IntKind.u8.wrap 4) :: by8 (IntKind.u8.wrap r.shard) :: numI r.epoch := by rw [putR, if_neg k1, if_neg k2, if_neg k3, b8, b8, k4]; rfl
    rw [e]
    (repeat' (first | simp (maxSteps := 2000000) -implicitDefEqProofs only [A_clavigerref6_Record, k1, k2, k3, k4, sm_numI, len_lst, rk_ext, fk_ext, sm_c, sm_a, numI_len, lr_api, lr, lr2, oO, oN, oG, oNG, oM, oF, oL, rg, ci, Nat.reduceEqDiff, Nat.reduceAdd, Nat.reduceSub, Int.reduceTDiv, Int.reduceTMod, ge_iff_le, Int.reduceGE, Nat.reducePow, Int.reduceEq, Int.reduceNeg, Int.reduceLE, Int.reducePow, Int.reduceLT, Int.reduceSub, Int.reduceAdd, Int.reduceMul, Int.reduceToNat, Option.map_some, ↓reduceIte, ite_not, beq_iff_eq, bne_iff_ne, ne_eq, beq_self_eq_true, beq_eq_false_iff_ne, bne_eq_false_iff_eq, resAll, resL, resV, reduceCtorEq, Option.some.injEq, exists_eq_left', blkAt, Nat.reduceLeDiff, Nat.reduceMul, eq_self, Nat.reduceLT, undef, fillV, evParts, footOp, wrOp, chk, disj, Nat.reduceBEq] | split | ((first | apply ck_call | apply cfk_call); (first | (apply call_pure (rnumberI_C r.epoch he he2) cll cl)))))
    exact out_row rfl (bs_closed _)
theorem rputR_C (r : Rec) (h : RightR r) (he : 0 ≤ r.epoch) (he2 : r.epoch < 18446744073709551616) : C Try.prog 43 [.agg (cRec r)] [] (rowV (.of (putR r))) [] := C_shut (rputRO_C r h he he2) rfl
end Go.Proofs.Ytmmaenfjnkoknaa.VA

/- What the document reads is what the program reads: plain laws. -/
set_option linter.unusedVariables false
set_option linter.unusedSimpArgs false
set_option maxRecDepth 100000
namespace Go.Proofs.Ytmmaenfjnkoknaa.VA
open Go
attribute [local irreducible] WK NK XK TK RK FK CK CFK CallRel C
attribute [local irreducible] dropS textS textR oneV takeL bnT numB RightV
end Go.Proofs.Ytmmaenfjnkoknaa.VA

/- Records that are right, values that are the same: the document's. -/
set_option linter.unusedVariables false
set_option linter.unusedSimpArgs false
set_option maxRecDepth 100000
namespace Go.Proofs.Ytmmaenfjnkoknaa.VA
open Go
attribute [local irreducible] WK NK XK TK RK FK CK CFK CallRel C
set_option maxHeartbeats 8000000
theorem rsame_C (a b : Vlt) : C Try.prog 111 [.agg (cVlt a), .agg (cVlt b)] [] (vb (decide (sameV a b))) [] := by
  refine C_of mixed Try.func111 A_clavigerref6_Same_ok A_clavigerref6_Same_res _ A_clavigerref6_Same_nt ?_
  (repeat' (first | simp (maxSteps := 2000000) -implicitDefEqProofs only [A_clavigerref6_Same, Int.reduceBNe, Int.reduceBEq, len_lst, rk_ext, fk_ext, sm_c, sm_a, numI_len, lr_api, lr, lr2, oO, oN, oG, oNG, oM, oF, oL, rg, ci, Nat.reduceEqDiff, Nat.reduceAdd, Nat.reduceSub, Int.reduceTDiv, Int.reduceTMod, ge_iff_le, Int.reduceGE, Nat.reducePow, Int.reduceEq, Int.reduceNeg, Int.reduceLE, Int.reducePow, Int.reduceLT, Int.reduceSub, Int.reduceAdd, Int.reduceMul, Int.reduceToNat, Option.map_some, ↓reduceIte, ite_not, beq_iff_eq, bne_iff_ne, ne_eq, beq_self_eq_true, beq_eq_false_iff_ne, bne_eq_false_iff_eq, resAll, resL, resV, reduceCtorEq, Option.some.injEq, exists_eq_left', blkAt, Nat.reduceLeDiff, Nat.reduceMul, eq_self, Nat.reduceLT, undef, fillV, evParts, footOp, wrOp, chk, disj, Nat.reduceBEq] | split))
  all_goals (refine out_vb (Bool.eq_iff_iff.2 ?_); (try simp only [decide_eq_true_eq, Bool.false_eq_true, true_iff, false_iff]); (try simp only [sameV] at *); first | done | (simp_all; done) | (simp_all; omega) | omega | grind)
end Go.Proofs.Ytmmaenfjnkoknaa.VA

/- Records are read: the document's. -/
set_option linter.unusedVariables false
set_option linter.unusedSimpArgs false
set_option maxRecDepth 100000
namespace Go.Proofs.Ytmmaenfjnkoknaa.VA
open Go
attribute [local irreducible] WK NK XK TK RK FK CK CFK CallRel C
attribute [local irreducible] dropS textS textR oneV takeL bnT numB RightV RightQ RightP RightR badF vltV vltE rd0
def R3 (s : RecS) : Prop := endP s.e ∧ RightR s.x
end Go.Proofs.Ytmmaenfjnkoknaa.VA

/- Records are read: the document's, of each kind. -/
set_option linter.unusedVariables false
set_option linter.unusedSimpArgs false
set_option maxRecDepth 100000
namespace Go.Proofs.Ytmmaenfjnkoknaa.VA
open Go
attribute [local irreducible] WK NK XK TK RK FK CK CFK CallRel C
attribute [local irreducible] dropS textS textR oneV takeL bnT numB RightV RightQ RightP RightR badF vltV vltE rd0
end Go.Proofs.Ytmmaenfjnkoknaa.VA

/- What is written is read: plain laws of the codec. -/
set_option linter.unusedVariables false
set_option linter.unusedSimpArgs false
set_option maxRecDepth 100000
namespace Go.Proofs.Ytmmaenfjnkoknaa.VA
open Go
attribute [local irreducible] WK NK XK TK RK FK CK CFK CallRel C
theorem ofNat_toNat' (a : Nat) : (UInt8.ofNat a).toNat = a % 256 := by simp
theorem numB_numF' (n : Nat) (hn : n < 18446744073709551616) : numB (numF n) = n := by
  simp only [numB, numF, List.foldl_cons, List.foldl_nil, ofNat_toNat']
  omega
theorem right_wgB {x : Vlt} (h : RightV x) (hw : x.wiped = true) : x.gone = true := by
  have := h.2.2
  split at this
  · assumption
  · rw [hw] at this; exact absurd this.1 (by decide)
def At (r : Rd) (l : List UInt8) : Prop := r.bad = false ∧ r.b.l = l
theorem at_rd0 (b : Row) : At (rd0 b) b.l := ⟨rfl, rfl⟩
theorem at_drop {r : Rd} {a l : List UInt8} (n : Nat) (h : At r (a ++ l)) (ha : a.length = n) : At (dropS n r) l ∧ takeL n r.b.l = a := by
  obtain ⟨h1, h2⟩ := h
  have hl : ¬ r.b.l.length < n := by rw [h2, List.length_append]; omega
  refine ⟨⟨?_, ?_⟩, ?_⟩
  · unfold dropS; rw [if_neg hl]; exact h1
  · unfold dropS; rw [if_neg hl]
    simp only [cut_l, h2]
    rw [← ha, List.drop_left' rfl, List.take_of_length_le (by rw [List.length_append]; omega)]
  · unfold takeL; rw [if_neg hl, h2, ← ha, List.take_left' rfl]
theorem at_one {r : Rd} {x : UInt8} {l : List UInt8} (h : At r (x :: l)) : At (dropS 1 r) l ∧ oneV r = x.toNat := by
  obtain ⟨h1, h2⟩ := at_drop (a := [x]) 1 h rfl
  refine ⟨h1, ?_⟩
  unfold oneV; rw [h2]; rfl
theorem at_num {r : Rd} {g : Int} {l : List UInt8} (h : At r (numI g ++ l)) (h0 : 0 ≤ g) (h1 : g < 18446744073709551616) : At (dropS 8 r) l ∧ (numB (takeL 8 r.b.l) : Int) = g := by
  obtain ⟨h2, h3⟩ := at_drop 8 h (numI_len g)
  refine ⟨h2, ?_⟩
  rw [h3, numI, numB_numF' _ (by omega)]; omega
theorem at_bn {r : Rd} {n : Nat} {d : Bn n} {l : List UInt8} (h : At r (d.1 ++ l)) : At (dropS n r) l ∧ bnT n r.b.l = d := by
  obtain ⟨h2, h3⟩ := at_drop n h d.2
  exact ⟨h2, Subtype.ext h3⟩
theorem at_text {r : Rd} {s l : List UInt8} (h : At r (UInt8.ofNat s.length :: (s ++ l))) (hs : s.length ≤ 255) : At (textS r) l ∧ (textR r).l = s := by
  obtain ⟨h1, h2⟩ := at_one h
  have e : oneV r = s.length := by rw [h2, ofNat_toNat']; omega
  unfold textS textR
  by_cases h0 : s.length = 0
  · have e0 : oneV r = 0 := by omega
    rw [if_pos e0, if_pos e0]
    have : s = [] := List.length_eq_zero_iff.1 h0
    subst this
    exact ⟨h1, by rw [cut_l]; simp⟩
  · have e0 : ¬ oneV r = 0 := by omega
    rw [if_neg e0, if_neg e0, e, Int.toNat_natCast]
    obtain ⟨h3, h4⟩ := at_drop s.length h1 rfl
    exact ⟨h3, by rw [row_l_of, h4]⟩
theorem b8_nat {i : Int} (h0 : 0 ≤ i) (h1 : i ≤ 255) : ((b8 i).toNat : Int) = i := by
  have e : IntKind.u8.wrap i = i % 256 := rfl
  rw [b8, e, by8, ofNat_toNat']; omega
attribute [local irreducible] dropS textS textR oneV takeL bnT numB
theorem vlt_back {x : Vlt} {r : Rd} {l : List UInt8} (hr : RightV x) (h : At r (putV x ++ l)) : sameV (vltV r) x ∧ At (vltE r) l ∧ RightV (vltV r) := by
  have hg := hr.1
  have hg2 := hr.2.1
  have hs := right_sec hr
  have e : putV x ++ l = x.id.1 ++ (numI x.gen ++ (flagF x :: b8 x.limit :: b8 x.used :: (x.pin.1 ++ (x.owner.1 ++ (UInt8.ofNat x.secret.l.length :: (x.secret.l ++ l)))))) := by
    simp [putV, vltRows, joinF, Row.l]
  rw [e] at h
  obtain ⟨a1, v1⟩ := at_bn h
  obtain ⟨a2, v2⟩ := at_num a1 (by omega) (by omega)
  obtain ⟨a3, v3⟩ := at_one a2
  have hf : badF (flagF x).toNat = false ∧ (((flagF x).toNat : Int) != 0) = x.gone ∧ (((flagF x).toNat : Int) == 3) = x.wiped := by
    unfold flagF
    by_cases hw : x.wiped = true
    · have hgo := right_wgB hr hw
      rw [if_pos hw, hw, hgo]; decide
    · have hw' : x.wiped = false := by simpa using hw
      rw [if_neg hw, hw']
      by_cases hgo : x.gone = true
      · rw [if_pos hgo, hgo]; decide
      · have hgo' : x.gone = false := by simpa using hgo
        rw [if_neg hgo, hgo']; decide
  have v3' : oneV (vltS r).s2 = (flagF x).toNat := v3
  have e3 : (vltS r).s3 = dropS 1 (dropS 8 (dropS 4 r)) := by
    show ({ dropS 1 (vltS r).s2 with bad := (dropS 1 (vltS r).s2).bad || badF (oneV (vltS r).s2) } : Rd) = dropS 1 (vltS r).s2
    rw [v3', hf.1]; cases dropS 1 (vltS r).s2; simp
  have hlu : 0 ≤ x.limit ∧ x.limit ≤ 32 ∧ 0 ≤ x.used ∧ x.used ≤ 32 := by
    have := hr.2.2
    split at this <;> omega
  obtain ⟨a4, v4⟩ := at_one a3
  obtain ⟨a5, v5⟩ := at_one a4
  obtain ⟨a6, v6⟩ := at_bn a5
  obtain ⟨a7, v7⟩ := at_bn a6
  obtain ⟨a8, v8⟩ := at_text a7 (by omega)
  rw [b8_nat (by omega) (by omega)] at v4 v5
  have w1 : (vltS r).s1 = dropS 4 r := rfl
  have w3 := e3
  have w4 : (vltS r).s4 = dropS 1 (dropS 1 (dropS 8 (dropS 4 r))) := by rw [show (vltS r).s4 = dropS 1 (vltS r).s3 from rfl, w3]
  have w5 : (vltS r).s5 = dropS 1 (dropS 1 (dropS 1 (dropS 8 (dropS 4 r)))) := by rw [show (vltS r).s5 = dropS 1 (vltS r).s4 from rfl, w4]
  have w6 : (vltS r).s6 = dropS 16 (dropS 1 (dropS 1 (dropS 1 (dropS 8 (dropS 4 r))))) := by rw [show (vltS r).s6 = dropS 16 (vltS r).s5 from rfl, w5]
  have w7 : (vltS r).s7 = dropS 16 (dropS 16 (dropS 1 (dropS 1 (dropS 1 (dropS 8 (dropS 4 r)))))) := by rw [show (vltS r).s7 = dropS 16 (vltS r).s6 from rfl, w6]
  have w8 : (vltS r).s8 = textS (dropS 16 (dropS 16 (dropS 1 (dropS 1 (dropS 1 (dropS 8 (dropS 4 r))))))) := by rw [show (vltS r).s8 = textS (vltS r).s7 from rfl, w7]
  have hsame : sameV (vltV r) x := by
    refine ⟨v1, ?_, ?_, ?_, ?_, ?_, ?_, ?_, ?_⟩
    · show (numB (takeL 8 (vltS r).s1.b.l) : Int) = _
      rw [w1]; exact v2
    · show bnT 16 (vltS r).s5.b.l = _
      rw [w5]; exact v6
    · show (textR (vltS r).s7).l = _
      rw [w7]; exact v8
    · show oneV (vltS r).s3 = _
      rw [w3]; exact v4
    · show oneV (vltS r).s4 = _
      rw [w4]; exact v5
    · show bnT 16 (vltS r).s6.b.l = _
      rw [w6]; exact v7
    · show (oneV (vltS r).s2 != 0) = _
      rw [v3']; exact hf.2.1
    · show (oneV (vltS r).s2 == 3) = _
      rw [v3']; exact hf.2.2
  have hright : RightV (vltV r) := by
    obtain ⟨s1, s2, s3, s4, s5, s6, s7, s8, s9⟩ := hsame
    unfold RightV at hr ⊢
    rw [s2, s3, s4, s5, s6, s7, s8, s9]; exact hr
  refine ⟨hsame, ⟨?_, ?_⟩, hright⟩
  · show ((vltS r).s8.bad || !decide (RightV (vltV r))) = false
    rw [w8, a8.1, decide_eq_true hright]; rfl
  · show (vltS r).s8.b.l = l
    rw [w8]; exact a8.2
end Go.Proofs.Ytmmaenfjnkoknaa.VA

/- Vaults, requests, replies, records that are the same: the document's. -/
set_option linter.unusedVariables false
set_option linter.unusedSimpArgs false
set_option maxRecDepth 100000
namespace Go.Proofs.Ytmmaenfjnkoknaa.VA
open Go
attribute [local irreducible] WK NK XK TK RK FK CK CFK CallRel C
def samesV (a b : List Vlt) : Prop := a.length = b.length ∧ ∀ i, i < a.length → sameV (a.getD i default) (b.getD i default)
theorem samesV_self (a : List Vlt) : samesV a a := ⟨rfl, fun i _ => ⟨rfl, rfl, rfl, rfl, rfl, rfl, rfl, rfl, rfl⟩⟩
theorem rvaultsT_C (a b : Lst Vlt) (h : samesV a.l b.l) (hl : a.l.length ≤ 1000000) : C Try.prog 151 [lstV cVlt a, lstV cVlt b] [] (vb true) [] := by
  refine C_of mixed Try.func151 A_clavigerref6_Vaults_ok A_clavigerref6_Vaults_res _ A_clavigerref6_Vaults_nt ?_
  have e : (a.l.length : Int) = b.l.length := by rw [h.1]
  have hm : a.l.length ≤ 140737488355328 := by omega
  (repeat' (first | simp (maxSteps := 2000000) -implicitDefEqProofs only [A_clavigerref6_Vaults, e, Int.reduceBNe, Int.reduceBEq, len_lst, rk_ext, fk_ext, sm_c, sm_a, numI_len, lr_api, lr, lr2, oO, oN, oG, oNG, oM, oF, oL, rg, ci, Nat.reduceEqDiff, Nat.reduceAdd, Nat.reduceSub, Int.reduceTDiv, Int.reduceTMod, ge_iff_le, Int.reduceGE, Nat.reducePow, Int.reduceEq, Int.reduceNeg, Int.reduceLE, Int.reducePow, Int.reduceLT, Int.reduceSub, Int.reduceAdd, Int.reduceMul, Int.reduceToNat, Option.map_some, ↓reduceIte, ite_not, beq_iff_eq, bne_iff_ne, ne_eq, beq_self_eq_true, beq_eq_false_iff_ne, bne_eq_false_iff_eq, resAll, resL, resV, reduceCtorEq, Option.some.injEq, exists_eq_left', blkAt, Nat.reduceLeDiff, Nat.reduceMul, eq_self, Nat.reduceLT, undef, fillV, evParts, footOp, wrOp, chk, disj, Nat.reduceBEq] | split))
  refine wk_loop (fun m S H => ∃ i : Nat, i ≤ a.l.length ∧ m = a.l.length - i ∧ S = (lstV cVlt a :: lstV cVlt b :: .dead :: .dead :: vb false :: vi .i64 i :: .dead :: .dead :: .dead :: .dead :: .dead :: .dead :: .dead :: .dead :: .dead :: .dead :: .dead :: .dead :: .dead :: .dead :: .dead :: .dead :: .dead :: .dead :: .dead :: .dead :: .dead :: []) ∧ H = []) (a.l.length) ⟨0, Nat.zero_le _, rfl, rfl, rfl⟩ (by refine .ren _ _ _ [] (by decide) (by intro k h; first | exact absurd h (Nat.not_lt_zero k) | (simp at h; done) | (match k, h with | 0, _ => rfl)) ?_ ?_ <;> simp [KeepS, KeepH, ArgRel, ArgRelL, argL_cl, arg_cl, row_l_of, row_l_nil, bn_len, blkAt]) ?_
  rintro m S H ⟨i, hi, rfl, rfl, rfl⟩ J hJ
  have d0 : (0 : Int) ≤ i := by omega
  by_cases hin : i < a.l.length
  · have d1 : (i : Int) < b.l.length := by omega
    have d1' : i < b.l.length := by omega
    have w1 : IntKind.i64.wrap ((i : Int) + 1) = ((i + 1 : Nat) : Int) := by rw [wrap_id _ (by omega) (by omega)]; omega
    have g1 := rd_flat cVlt_len a.l i hin
    have g2 := rd_flat cVlt_len b.l i d1'
    have hs := h.2 i hin
    generalize a.l.getD i default = x at *
    generalize b.l.getD i default = y at *
    (repeat' (first | simp (maxSteps := 2000000) -implicitDefEqProofs only [A_clavigerref6_Vaults_L0, e, d0, d1, w1, g1, g2, hs, idx_lst cVlt_len, Int.reduceBNe, Int.reduceBEq, len_lst, rk_ext, fk_ext, sm_c, sm_a, numI_len, lr_api, lr, lr2, oO, oN, oG, oNG, oM, oF, oL, rg, ci, Nat.reduceEqDiff, Nat.reduceAdd, Nat.reduceSub, Int.reduceTDiv, Int.reduceTMod, ge_iff_le, Int.reduceGE, Nat.reducePow, Int.reduceEq, Int.reduceNeg, Int.reduceLE, Int.reducePow, Int.reduceLT, Int.reduceSub, Int.reduceAdd, Int.reduceMul, Int.reduceToNat, Option.map_some, ↓reduceIte, ite_not, beq_iff_eq, bne_iff_ne, ne_eq, beq_self_eq_true, beq_eq_false_iff_ne, bne_eq_false_iff_eq, resAll, resL, resV, reduceCtorEq, Option.some.injEq, exists_eq_left', blkAt, Nat.reduceLeDiff, Nat.reduceMul, eq_self, Nat.reduceLT, undef, fillV, evParts, footOp, wrOp, chk, disj, Nat.reduceBEq] | split | ((first | apply ck_call | apply cfk_call); (first | (apply call_pure (rsame_C x y) cll cl)))))
    exact hJ _ _ _ _ _ (by omega) ⟨i + 1, by omega, rfl, rfl, rfl⟩ (by refine .ren _ _ _ [] (by decide) (by intro k h; first | exact absurd h (Nat.not_lt_zero k) | (simp at h; done) | (match k, h with | 0, _ => rfl)) ?_ ?_ <;> simp [KeepS, KeepH, ArgRel, ArgRelL, argL_cl, arg_cl, row_l_of, row_l_nil, bn_len, blkAt])
  · obtain rfl : i = a.l.length := by omega
    have d1 : ¬ ((a.l.length : Nat) : Int) < a.l.length := by omega
    (repeat' (first | simp (maxSteps := 2000000) -implicitDefEqProofs only [A_clavigerref6_Vaults_L0, K_clavigerref6_Vaults_L0, d1, Int.reduceBNe, Int.reduceBEq, len_lst, rk_ext, fk_ext, sm_c, sm_a, numI_len, lr_api, lr, lr2, oO, oN, oG, oNG, oM, oF, oL, rg, ci, Nat.reduceEqDiff, Nat.reduceAdd, Nat.reduceSub, Int.reduceTDiv, Int.reduceTMod, ge_iff_le, Int.reduceGE, Nat.reducePow, Int.reduceEq, Int.reduceNeg, Int.reduceLE, Int.reducePow, Int.reduceLT, Int.reduceSub, Int.reduceAdd, Int.reduceMul, Int.reduceToNat, Option.map_some, ↓reduceIte, ite_not, beq_iff_eq, bne_iff_ne, ne_eq, beq_self_eq_true, beq_eq_false_iff_ne, bne_eq_false_iff_eq, resAll, resL, resV, reduceCtorEq, Option.some.injEq, exists_eq_left', blkAt, Nat.reduceLeDiff, Nat.reduceMul, eq_self, Nat.reduceLT, undef, fillV, evParts, footOp, wrOp, chk, disj, Nat.reduceBEq] | split))
    exact out_eq rfl trivial
def sameR (a b : Rec) : Prop := a.kind = b.kind ∧ a.shard = b.shard ∧ a.to = b.to ∧ a.epoch = b.epoch ∧ sameV a.vault b.vault ∧ samesV a.vaults.l b.vaults.l
theorem rrecords_C (x y : Rec) (h : sameR x y) (hl : x.vaults.l.length ≤ 1000000) : C Try.prog 69 [.agg (cRec x), .agg (cRec y)] [] (vb true) [] := by
  refine C_of mixed Try.func69 A_clavigerref6_Records_ok A_clavigerref6_Records_res _ A_clavigerref6_Records_nt ?_
  obtain ⟨h1, h2, h3, h4, h5, h6⟩ := h
  (repeat' (first | simp (maxSteps := 2000000) -implicitDefEqProofs only [A_clavigerref6_Records, h1, h2, h3, h4, h5, Int.reduceBNe, Int.reduceBEq, len_lst, rk_ext, fk_ext, sm_c, sm_a, numI_len, lr_api, lr, lr2, oO, oN, oG, oNG, oM, oF, oL, rg, ci, Nat.reduceEqDiff, Nat.reduceAdd, Nat.reduceSub, Int.reduceTDiv, Int.reduceTMod, ge_iff_le, Int.reduceGE, Nat.reducePow, Int.reduceEq, Int.reduceNeg, Int.reduceLE, Int.reducePow, Int.reduceLT, Int.reduceSub, Int.reduceAdd, Int.reduceMul, Int.reduceToNat, Option.map_some, ↓reduceIte, ite_not, beq_iff_eq, bne_iff_ne, ne_eq, beq_self_eq_true, beq_eq_false_iff_ne, bne_eq_false_iff_eq, resAll, resL, resV, reduceCtorEq, Option.some.injEq, exists_eq_left', blkAt, Nat.reduceLeDiff, Nat.reduceMul, eq_self, Nat.reduceLT, undef, fillV, evParts, footOp, wrOp, chk, disj, Nat.reduceBEq] | split | ((first | apply ck_call | apply cfk_call); (first | (apply call_pure (rsame_C x.vault y.vault) cll cl) | (apply call_pure (rvaultsT_C x.vaults y.vaults h6 hl) cll cl)))))
  all_goals (refine out_eq ?_ (cl); first | rfl | (simp_all []; done) | (simp_all []; intros; omega) | (simp []; (repeat' split) <;> first | rfl | omega | (simp_all; done) | (simp_all; intros; omega)))
end Go.Proofs.Ytmmaenfjnkoknaa.VA

/- What is written is read: requests, records. -/
set_option linter.unusedVariables false
set_option linter.unusedSimpArgs false
set_option maxRecDepth 100000
namespace Go.Proofs.Ytmmaenfjnkoknaa.VA
open Go
attribute [local irreducible] WK NK XK TK RK FK CK CFK CallRel C
attribute [local irreducible] dropS textS textR oneV takeL bnT numB
theorem rightV_same {a b : Vlt} (h : sameV a b) (hb : RightV b) : RightV a := by
  obtain ⟨s1, s2, s3, s4, s5, s6, s7, s8, s9⟩ := h
  unfold RightV at hb ⊢
  rw [s2, s3, s4, s5, s6, s7, s8, s9]; exact hb
theorem sameV_trans {a b c : Vlt} (h : sameV a b) (k : sameV b c) : sameV a c := by
  obtain ⟨s1, s2, s3, s4, s5, s6, s7, s8, s9⟩ := h
  obtain ⟨t1, t2, t3, t4, t5, t6, t7, t8, t9⟩ := k
  exact ⟨s1.trans t1, s2.trans t2, s3.trans t3, s4.trans t4, s5.trans t5, s6.trans t6, s7.trans t7, s8.trans t8, s9.trans t9⟩
theorem sameV_symm {a b : Vlt} (h : sameV a b) : sameV b a := by
  obtain ⟨s1, s2, s3, s4, s5, s6, s7, s8, s9⟩ := h
  exact ⟨s1.symm, s2.symm, s3.symm, s4.symm, s5.symm, s6.symm, s7.symm, s8.symm, s9.symm⟩
theorem rising_same {a b : List Vlt} (h : samesV a b) (hb : RisingP b) : RisingP a := by
  refine ⟨by rw [h.1]; exact hb.1, fun i hi => ?_⟩
  have hi' : i < b.length := by rw [← h.1]; exact hi
  obtain ⟨h1, h2⟩ := hb.2 i hi'
  refine ⟨rightV_same (h.2 i hi) h1, fun h0 => ?_⟩
  rw [(h.2 i hi).1, (h.2 (i - 1) (by omega)).1]
  exact h2 h0
theorem rightR_same {a b : Rec} (h : sameR a b) (hb : RightR b) : RightR a := by
  obtain ⟨h1, h2, h3, h4, h5, h6⟩ := h
  unfold RightR EpochP at hb ⊢
  rw [h1, h2, h3, h4, h6.1]
  rcases hb with ⟨k, hv, hb⟩ | ⟨⟨e1, e2, e3, e4, e5⟩, hb⟩
  · exact .inl ⟨k, rightV_same h5 hv, hb⟩
  · refine .inr ⟨⟨e1, e2, e3, e4, sameV_trans h5 e5⟩, ?_⟩
    rcases hb with hb | ⟨k, t, hr⟩ | hb
    · exact .inl hb
    · exact .inr (.inl ⟨k, t, rising_same h6 hr⟩)
    · exact .inr (.inr hb)
attribute [local irreducible] vltV vltE putV
theorem seq_back {l : List Vlt} {r : Rd} {rest : List UInt8} (hl : ∀ i, i < l.length → RightV (l.getD i default)) (h : At r (l.flatMap putV ++ rest)) : ∀ i, i ≤ l.length → At (seqV i r).2 ((l.drop i).flatMap putV ++ rest) ∧ ∀ j, j < i → sameV ((seqV i r).1.getD j default) (l.getD j default)
  | 0, _ => ⟨h, fun j hj => by omega⟩
  | i + 1, hi => by
    obtain ⟨h1, h2⟩ := seq_back hl h i (by omega)
    have e : l.drop i = l.getD i default :: l.drop (i + 1) := by rw [List.drop_eq_getElem_cons (by omega)]; simp [List.getElem?_eq_getElem (show i < l.length by omega)]
    rw [e, List.flatMap_cons, List.append_assoc] at h1
    obtain ⟨s, a, _⟩ := vlt_back (hl i (by omega)) h1
    refine ⟨a, fun j hj => ?_⟩
    have ln := seqV_len r i
    show sameV (((seqV i r).1 ++ [vltV (seqV i r).2]).getD j default) _
    by_cases hji : j < i
    · rw [List.getD_eq_getElem?_getD, List.getElem?_append_left (by omega), ← List.getD_eq_getElem?_getD]
      exact h2 j hji
    · obtain rfl : j = i := by omega
      rw [List.getD_eq_getElem?_getD, List.getElem?_append_right (by omega), ln, Nat.sub_self]
      exact s
theorem rec_back {x : Rec} {r : Rd} (hx : RightR x) (he : 0 ≤ x.epoch) (h : At r (putR x)) : sameR (recS r).x x ∧ endP (recS r).e ∧ RightR (recS r).x := by
  suffices hh : sameR (recS r).x x ∧ endP (recS r).e from ⟨hh.1, hh.2, rightR_same hh.1 hx⟩
  have fin : ∀ {E : Rd}, At E [] → endP E := fun h => ⟨h.1, by rw [h.2]; rfl⟩
  rcases hx with ⟨k, hv, z1, z2, z3, z4⟩ | ⟨⟨e1, e2, e3, e4, e5⟩, ⟨k, t1, t2, z4⟩ | ⟨k, t, hr⟩ | ⟨k, t, z4⟩⟩
  · have e : putR x = b8 1 :: (putV x.vault ++ []) := by unfold putR; rw [if_pos k, k]; simp
    rw [e] at h
    obtain ⟨a1, v1⟩ := at_one h
    obtain ⟨s, a2, _⟩ := vlt_back hv a1
    have v1' : oneV r = 1 := v1
    unfold recS
    rw [if_pos v1']
    refine ⟨⟨k.symm, z1.symm, z2.symm, z3.symm, s, ?_⟩, fin a2⟩
    rw [List.length_eq_zero_iff.1 z4]; exact samesV_self _
  · have e : putR x = b8 2 :: b8 x.shard :: b8 x.to :: (numI x.epoch ++ []) := by unfold putR; rw [if_neg (by omega), if_pos k, k]; simp
    rw [e] at h
    obtain ⟨a1, v1⟩ := at_one h
    obtain ⟨a2, v2⟩ := at_one a1
    obtain ⟨a3, v3⟩ := at_one a2
    obtain ⟨a4, v4⟩ := at_num a3 he (by omega)
    rw [b8_nat (by omega) (by omega)] at v2 v3
    have v1' : oneV r = 2 := v1
    unfold recS
    rw [v1', if_neg (by decide), if_pos rfl]
    refine ⟨⟨k.symm, v2, v3, v4, sameV_symm e5, ?_⟩, fin a4⟩
    rw [List.length_eq_zero_iff.1 z4]; exact samesV_self _
  · have hl4 := hr.1
    have e : putR x = b8 3 :: b8 x.shard :: (numI x.epoch ++ (UInt8.ofNat x.vaults.l.length :: (x.vaults.l.flatMap putV ++ []))) := by unfold putR; rw [if_neg (by omega), if_neg (by omega), if_pos k, k]; simp
    rw [e] at h
    obtain ⟨a1, v1⟩ := at_one h
    obtain ⟨a2, v2⟩ := at_one a1
    obtain ⟨a3, v3⟩ := at_num a2 he (by omega)
    obtain ⟨a4, v4⟩ := at_one a3
    rw [b8_nat (by omega) (by omega)] at v2
    have v1' : oneV r = 3 := v1
    have v4' : oneV (dropS 8 (dropS 1 (dropS 1 r))) = x.vaults.l.length := by rw [v4, ofNat_toNat']; omega
    obtain ⟨b1, b2⟩ := seq_back (fun i hi => (hr.2 i hi).1) a4 x.vaults.l.length (Nat.le_refl _)
    unfold recS
    rw [v1', if_neg (by decide), if_neg (by decide), if_pos rfl]
    have hm : (min (oneV (dropS 8 (dropS 1 (dropS 1 r)))) 5).toNat = x.vaults.l.length := by omega
    rw [hm]
    rw [List.drop_length] at b1
    refine ⟨⟨k.symm, v2, t.symm, v3, sameV_symm e5, ?_⟩, fin b1⟩
    show samesV (lstOf _).l _
    rw [lstOf_l]
    exact ⟨seqV_len _ _, fun i hi => b2 i (by rw [seqV_len] at hi; exact hi)⟩
  · have e : putR x = b8 4 :: b8 x.shard :: (numI x.epoch ++ []) := by unfold putR; rw [if_neg (by omega), if_neg (by omega), if_neg (by omega), k]; simp
    rw [e] at h
    obtain ⟨a1, v1⟩ := at_one h
    obtain ⟨a2, v2⟩ := at_one a1
    obtain ⟨a3, v3⟩ := at_num a2 he (by omega)
    rw [b8_nat (by omega) (by omega)] at v2
    have v1' : oneV r = 4 := v1
    unfold recS
    rw [v1', if_neg (by decide), if_neg (by decide), if_neg (by decide), if_pos rfl]
    refine ⟨⟨k.symm, v2, t.symm, v3, sameV_symm e5, ?_⟩, fin a3⟩
    rw [List.length_eq_zero_iff.1 z4]; exact samesV_self _
end Go.Proofs.Ytmmaenfjnkoknaa.VA
