/- Texts of this proof, one behind the other: Lref6, Jcodec, Rcodec, Scodec, Ucodec, Vcodec, Wcodec, Pcodec, Kcodec, Xcodec, Ycodec, Acodec, Back, Back2. -/
import Derived.Test.YtfpoebmihjbknaaGreatPC
import Derived.Test.YtfpoebmihjbknaaGreatVC
/- The compact code of the document's codec. -/
set_option linter.unusedVariables false
set_option maxRecDepth 100000
namespace Go.Proofs.YtfpoebmihjbknaaGreat.VA
open Go
noncomputable section
def A_clavigerref6_number : ACode := (.seq (rg [oO 2 (.mov (.c (.bool false)))]) (.seq (rg [oM 3 0, oO 4 (.bin .leq (.t 3) (.c (.int .u64 1099511627776))), oM 2 4]) .ret))
theorem A_clavigerref6_number_ok : Tryz.f37.body.bind (cCode Tryz.prog) = some A_clavigerref6_number := by kernel_rfl
theorem A_clavigerref6_number_res : cRes Tryz.prog Tryz.f37.results.toList = some [(.tmp 2)] := by kernel_rfl
theorem A_clavigerref6_number_nt : Tryz.f37.ntmps = 5 := by kernel_rfl
def A_clavigerref6_RightVault : ACode := (.seq (rg [oO 1 (.box (.t 0)), oO 2 (.mov (.c (.bool false)))]) (.seq (.seq (rg [oF 3 4 1, oL 4 3, oO 5 (.bin .lss (.t 4) (.c (.int .u64 1))), oM 6 5, oG 7 (.fieldAddr 4 (.t 1)) 6 false, oG 8 (.load none (.t 7)) 6 false, oG 9 (.call 37 [(.t 8)]) 6 false, oG 10 (.un .not (.t 9)) 6 false, oO 11 (.pick (.t 6) (.c (.bool true)) (.t 10))]) (.cond (.t 11) (.seq (rg [oO 2 (.mov (.c (.bool false)))]) .ret) .skip)) (.seq (.seq (rg [oF 12 40 1, oL 13 12]) (.cond (.t 13) (.seq (rg [oF 14 22 1, oL 15 14, oO 16 (.bin .eql (.t 15) (ci 0)), oM 17 16, oG 18 (.fieldAddr 23 (.t 1)) 17 true, oG 19 (.load none (.t 18)) 17 true, oG 20 (.bin .eql (.t 19) (ci 0)) 17 true, oO 21 (.pick (.t 17) (.t 20) (.c (.bool false))), oM 22 21, oG 23 (.fieldAddr 5 (.t 1)) 22 true, oG 24 (.load (some 16) (.t 23)) 22 true, oG 25 (.build z16 []) 22 true, oG 26 (.eqA false sh16 (.t 24) (.t 25)) 22 true, oO 27 (.pick (.t 22) (.t 26) (.c (.bool false))), oM 28 27, oG 29 (.fieldAddr 24 (.t 1)) 28 true, oG 30 (.load (some 16) (.t 29)) 28 true, oG 31 (.build z16 []) 28 true, oG 32 (.eqA false sh16 (.t 30) (.t 31)) 28 true, oO 33 (.pick (.t 28) (.t 32) (.c (.bool false))), oM 34 33, oG 35 (.fieldAddr 21 (.t 1)) 34 true, oG 36 (.load none (.t 35)) 34 true, oG 37 (.lenSl (.t 36)) 34 true, oG 38 (.bin .eql (.t 37) (ci 0)) 34 true, oO 39 (.pick (.t 34) (.t 38) (.c (.bool false))), oM 2 39]) .ret) .skip)) (.seq (rg [oF 40 41 1, oL 41 40, oO 42 (.un .not (.t 41)), oM 43 42, oG 44 (.fieldAddr 22 (.t 1)) 43 true, oG 45 (.load none (.t 44)) 43 true, oG 46 (.bin .geq (.t 45) (ci 1)) 43 true, oO 47 (.pick (.t 43) (.t 46) (.c (.bool false))), oM 48 47, oG 49 (.fieldAddr 22 (.t 1)) 48 true, oG 50 (.load none (.t 49)) 48 true, oG 51 (.bin .leq (.t 50) (ci 32)) 48 true, oO 52 (.pick (.t 48) (.t 51) (.c (.bool false))), oM 53 52, oG 54 (.fieldAddr 23 (.t 1)) 53 true, oG 55 (.load none (.t 54)) 53 true, oG 56 (.bin .geq (.t 55) (ci 0)) 53 true, oO 57 (.pick (.t 53) (.t 56) (.c (.bool false))), oM 58 57, oG 59 (.fieldAddr 23 (.t 1)) 58 true, oG 60 (.load none (.t 59)) 58 true, oG 61 (.fieldAddr 22 (.t 1)) 58 true, oG 62 (.load none (.t 61)) 58 true, oG 63 (.bin .lss (.t 60) (.t 62)) 58 true, oO 64 (.pick (.t 58) (.t 63) (.c (.bool false))), oM 65 64, oG 66 (.fieldAddr 21 (.t 1)) 65 true, oG 67 (.load none (.t 66)) 65 true, oG 68 (.lenSl (.t 67)) 65 true, oG 69 (.bin .leq (.t 68) (ci 64)) 65 true, oO 70 (.pick (.t 65) (.t 69) (.c (.bool false))), oM 2 70]) .ret))))
theorem A_clavigerref6_RightVault_ok : Tryz.f38.body.bind (cCode Tryz.prog) = some A_clavigerref6_RightVault := by kernel_rfl
theorem A_clavigerref6_RightVault_res : cRes Tryz.prog Tryz.f38.results.toList = some [(.tmp 2)] := by kernel_rfl
theorem A_clavigerref6_RightVault_nt : Tryz.f38.ntmps = 71 := by kernel_rfl
def A_clavigerref6_Rising_L0 : ACode := (.seq (.seq (rg [oM 7 3, oM 8 0, oO 9 (.lenSl (.t 8)), oO 10 (.bin .lss (.t 7) (.t 9))]) (.cond (.t 10) .skip (.exit 0))) (.seq (.block 1 (.seq (rg [oM 13 0, oM 14 3, oO 15 (.idxSl 42 (.t 13) (.t 14)), oO 16 (.load (some 42) (.t 15)), oO 17 (.call 38 [(.t 16)]), oO 18 (.un .not (.t 17)), oM 19 18, oG 20 (.mov (.t 3)) 19 false, oG 21 (.bin .gtr (.t 20) (ci 0)) 19 false, oG 22 (.mov (.t 21)) 19 false, oG 23 (.mov (.t 0)) 22 true, oG 24 (.mov (.t 3)) 22 true, oG 25 (.bin .sub (.t 24) (ci 1)) 22 true, oG 26 (.idxSl 42 (.t 23) (.t 25)) 22 true, oG 27 (.fieldAddr 0 (.t 26)) 22 true, oG 28 (.sliceArr 4 1 (.t 27) none none) 22 true, oG 29 (.toStr (.t 28)) 22 true, oG 30 (.mov (.t 0)) 22 true, oG 31 (.mov (.t 3)) 22 true, oG 32 (.idxSl 42 (.t 30) (.t 31)) 22 true, oG 33 (.fieldAddr 0 (.t 32)) 22 true, oG 34 (.sliceArr 4 1 (.t 33) none none) 22 true, oG 35 (.toStr (.t 34)) 22 true, oG 36 (.bin .geq (.t 29) (.t 35)) 22 true, oG 37 (.pick (.t 22) (.t 36) (.c (.bool false))) 19 false, oO 38 (.pick (.t 19) (.c (.bool true)) (.t 37))]) (.cond (.t 38) (.seq (rg [oO 2 (.mov (.c (.bool false)))]) .ret) .skip))) (rg [oM 11 3, oO 12 (.bin .add (.t 11) (ci 1)), oM 3 12])))
def A_clavigerref6_Rising : ACode := (.seq (rg [oO 2 (.mov (.c (.bool false)))]) (.seq (.seq (rg [oM 4 0, oO 5 (.lenSl (.t 4)), oO 6 (.bin .gtr (.t 5) (ci 4))]) (.cond (.t 6) (.seq (rg [oO 2 (.mov (.c (.bool false)))]) .ret) .skip)) (.seq (.seq (rg [oO 3 (.mov (ci 0))]) (.block 0 (.loop A_clavigerref6_Rising_L0))) (.seq (rg [oO 2 (.mov (.c (.bool true)))]) .ret))))
def K_clavigerref6_Rising_L0 : Kt := (.blk 0 (.seq (.seq (rg [oO 2 (.mov (.c (.bool true)))]) .ret) .fin))
theorem A_clavigerref6_Rising_ok : Tryz.f40.body.bind (cCode Tryz.prog) = some A_clavigerref6_Rising := by kernel_rfl
theorem A_clavigerref6_Rising_res : cRes Tryz.prog Tryz.f40.results.toList = some [(.tmp 2)] := by kernel_rfl
theorem A_clavigerref6_Rising_nt : Tryz.f40.ntmps = 39 := by kernel_rfl
def A_clavigerref6_nothing : ACode := (.seq (rg [oO 1 (.box (.t 0)), oO 2 (.mov (.c (.bool false)))]) (.seq (rg [oF 3 0 1, oO 4 (.load (some 4) (.t 3)), oO 5 (.build z4 []), oO 6 (.eqA false sh4 (.t 4) (.t 5)), oM 7 6, oG 8 (.fieldAddr 4 (.t 1)) 7 true, oG 9 (.load none (.t 8)) 7 true, oG 10 (.bin .eql (.t 9) (.c (.int .u64 0))) 7 true, oO 11 (.pick (.t 7) (.t 10) (.c (.bool false))), oM 12 11, oG 13 (.fieldAddr 5 (.t 1)) 12 true, oG 14 (.load (some 16) (.t 13)) 12 true, oG 15 (.build z16 []) 12 true, oG 16 (.eqA false sh16 (.t 14) (.t 15)) 12 true, oO 17 (.pick (.t 12) (.t 16) (.c (.bool false))), oM 18 17, oG 19 (.fieldAddr 21 (.t 1)) 18 true, oG 20 (.load none (.t 19)) 18 true, oG 21 (.lenSl (.t 20)) 18 true, oG 22 (.bin .eql (.t 21) (ci 0)) 18 true, oO 23 (.pick (.t 18) (.t 22) (.c (.bool false))), oM 24 23, oG 25 (.fieldAddr 22 (.t 1)) 24 true, oG 26 (.load none (.t 25)) 24 true, oG 27 (.bin .eql (.t 26) (ci 0)) 24 true, oO 28 (.pick (.t 24) (.t 27) (.c (.bool false))), oM 29 28, oG 30 (.fieldAddr 23 (.t 1)) 29 true, oG 31 (.load none (.t 30)) 29 true, oG 32 (.bin .eql (.t 31) (ci 0)) 29 true, oO 33 (.pick (.t 29) (.t 32) (.c (.bool false))), oM 34 33, oG 35 (.fieldAddr 24 (.t 1)) 34 true, oG 36 (.load (some 16) (.t 35)) 34 true, oG 37 (.build z16 []) 34 true, oG 38 (.eqA false sh16 (.t 36) (.t 37)) 34 true, oO 39 (.pick (.t 34) (.t 38) (.c (.bool false))), oM 40 39, oG 41 (.fieldAddr 40 (.t 1)) 40 true, oG 42 (.load none (.t 41)) 40 true, oG 43 (.un .not (.t 42)) 40 true, oO 44 (.pick (.t 40) (.t 43) (.c (.bool false))), oM 45 44, oG 46 (.fieldAddr 41 (.t 1)) 45 true, oG 47 (.load none (.t 46)) 45 true, oG 48 (.un .not (.t 47)) 45 true, oO 49 (.pick (.t 45) (.t 48) (.c (.bool false))), oM 2 49]) .ret))
theorem A_clavigerref6_nothing_ok : Tryz.f39.body.bind (cCode Tryz.prog) = some A_clavigerref6_nothing := by kernel_rfl
theorem A_clavigerref6_nothing_res : cRes Tryz.prog Tryz.f39.results.toList = some [(.tmp 2)] := by kernel_rfl
theorem A_clavigerref6_nothing_nt : Tryz.f39.ntmps = 50 := by kernel_rfl
def A_clavigerref6_RightRecord : ACode := (.seq (rg [oO 1 (.box (.t 0)), oO 2 (.mov (.c (.bool false)))]) (.seq (rg [oF 6 1 1, oL 7 6, oO 8 (.bin .geq (.t 7) (ci 0)), oM 9 8, oG 10 (.fieldAddr 1 (.t 1)) 9 true, oG 11 (.load none (.t 10)) 9 true, oG 12 (.bin .lss (.t 11) (ci 16)) 9 true, oO 13 (.pick (.t 9) (.t 12) (.c (.bool false))), oM 3 13]) (.seq (rg [oF 14 3 1, oL 15 14, oO 16 (.bin .geq (.t 15) (.c (.int .u64 1))), oM 17 16, oG 18 (.fieldAddr 3 (.t 1)) 17 true, oG 19 (.load none (.t 18)) 17 true, oG 20 (.call 37 [(.t 19)]) 17 true, oO 21 (.pick (.t 17) (.t 20) (.c (.bool false))), oM 4 21]) (.seq (rg [oF 22 2 1, oL 23 22, oO 24 (.bin .geq (.t 23) (ci 0)), oM 25 24, oG 26 (.fieldAddr 2 (.t 1)) 25 true, oG 27 (.load none (.t 26)) 25 true, oG 28 (.bin .lss (.t 27) (ci 8)) 25 true, oO 29 (.pick (.t 25) (.t 28) (.c (.bool false))), oM 5 29]) (.seq (.seq (rg [oF 30 0 1, oL 31 30]) (.block 0 (.seq (rg [oO 33 (.bin .eql (.t 31) (ci 1)), oM 32 33]) (.cond (.t 32) (.seq (rg [oF 34 4 1, oO 35 (.load (some 42) (.t 34)), oO 36 (.call 38 [(.t 35)]), oM 37 36, oG 38 (.fieldAddr 1 (.t 1)) 37 true, oG 39 (.load none (.t 38)) 37 true, oG 40 (.bin .eql (.t 39) (ci 0)) 37 true, oO 41 (.pick (.t 37) (.t 40) (.c (.bool false))), oM 42 41, oG 43 (.fieldAddr 2 (.t 1)) 42 true, oG 44 (.load none (.t 43)) 42 true, oG 45 (.bin .eql (.t 44) (ci 0)) 42 true, oO 46 (.pick (.t 42) (.t 45) (.c (.bool false))), oM 47 46, oG 48 (.fieldAddr 3 (.t 1)) 47 true, oG 49 (.load none (.t 48)) 47 true, oG 50 (.bin .eql (.t 49) (.c (.int .u64 0))) 47 true, oO 51 (.pick (.t 47) (.t 50) (.c (.bool false))), oM 52 51, oG 53 (.fieldAddr 46 (.t 1)) 52 true, oG 54 (.load none (.t 53)) 52 true, oG 55 (.lenSl (.t 54)) 52 true, oG 56 (.bin .eql (.t 55) (ci 0)) 52 true, oO 57 (.pick (.t 52) (.t 56) (.c (.bool false))), oM 2 57]) .ret) (.seq (rg [oO 59 (.bin .eql (.t 31) (ci 2)), oM 58 59]) (.cond (.t 58) (.seq (rg [oM 60 3, oM 61 60, oG 62 (.mov (.t 4)) 61 true, oO 63 (.pick (.t 61) (.t 62) (.c (.bool false))), oM 64 63, oG 65 (.mov (.t 5)) 64 true, oO 66 (.pick (.t 64) (.t 65) (.c (.bool false))), oM 67 66, oG 68 (.fieldAddr 4 (.t 1)) 67 true, oG 69 (.load (some 42) (.t 68)) 67 true, oG 70 (.call 39 [(.t 69)]) 67 true, oO 71 (.pick (.t 67) (.t 70) (.c (.bool false))), oM 72 71, oG 73 (.fieldAddr 46 (.t 1)) 72 true, oG 74 (.load none (.t 73)) 72 true, oG 75 (.lenSl (.t 74)) 72 true, oG 76 (.bin .eql (.t 75) (ci 0)) 72 true, oO 77 (.pick (.t 72) (.t 76) (.c (.bool false))), oM 2 77]) .ret) (.seq (rg [oO 79 (.bin .eql (.t 31) (ci 3)), oM 78 79]) (.cond (.t 78) (.seq (rg [oM 80 3, oM 81 80, oG 82 (.mov (.t 4)) 81 true, oO 83 (.pick (.t 81) (.t 82) (.c (.bool false))), oM 84 83, oG 85 (.fieldAddr 2 (.t 1)) 84 true, oG 86 (.load none (.t 85)) 84 true, oG 87 (.bin .eql (.t 86) (ci 0)) 84 true, oO 88 (.pick (.t 84) (.t 87) (.c (.bool false))), oM 89 88, oG 90 (.fieldAddr 4 (.t 1)) 89 true, oG 91 (.load (some 42) (.t 90)) 89 true, oG 92 (.call 39 [(.t 91)]) 89 true, oO 93 (.pick (.t 89) (.t 92) (.c (.bool false))), oM 94 93, oG 95 (.fieldAddr 46 (.t 1)) 94 true, oG 96 (.load none (.t 95)) 94 true, oG 97 (.call 40 [(.t 96)]) 94 true, oO 98 (.pick (.t 94) (.t 97) (.c (.bool false))), oM 2 98]) .ret) (.seq (rg [oO 100 (.bin .eql (.t 31) (ci 4)), oM 99 100]) (.cond (.t 99) (.seq (rg [oM 101 3, oM 102 101, oG 103 (.mov (.t 4)) 102 true, oO 104 (.pick (.t 102) (.t 103) (.c (.bool false))), oM 105 104, oG 106 (.fieldAddr 2 (.t 1)) 105 true, oG 107 (.load none (.t 106)) 105 true, oG 108 (.bin .eql (.t 107) (ci 0)) 105 true, oO 109 (.pick (.t 105) (.t 108) (.c (.bool false))), oM 110 109, oG 111 (.fieldAddr 4 (.t 1)) 110 true, oG 112 (.load (some 42) (.t 111)) 110 true, oG 113 (.call 39 [(.t 112)]) 110 true, oO 114 (.pick (.t 110) (.t 113) (.c (.bool false))), oM 115 114, oG 116 (.fieldAddr 46 (.t 1)) 115 true, oG 117 (.load none (.t 116)) 115 true, oG 118 (.lenSl (.t 117)) 115 true, oG 119 (.bin .eql (.t 118) (ci 0)) 115 true, oO 120 (.pick (.t 115) (.t 119) (.c (.bool false))), oM 2 120]) .ret) .skip)))))))))) (.seq (rg [oO 2 (.mov (.c (.bool false)))]) .ret))))))
theorem A_clavigerref6_RightRecord_ok : Tryz.f14.body.bind (cCode Tryz.prog) = some A_clavigerref6_RightRecord := by kernel_rfl
theorem A_clavigerref6_RightRecord_res : cRes Tryz.prog Tryz.f14.results.toList = some [(.tmp 2)] := by kernel_rfl
theorem A_clavigerref6_RightRecord_nt : Tryz.f14.ntmps = 121 := by kernel_rfl
def A_clavigerref6_Vault : ACode := (.seq (rg [oO 1 (.box (.t 0)), oO 2 (.mov (.c (.slice none 0 0)))]) (.seq (.region [(3, 5)] [oO 5 (.buildSl 1 0 z1 []), oF 6 0 1, oO 7 (.sliceArr 4 1 (.t 6) none none), oO 8 (.append 1 1 (.t 5) (.t 7)), oF 9 4 1, oL 10 9, oO 11 (.call 36 [(.t 10)]), oO 12 (.append 1 1 (.t 8) (.t 11)), oM 3 12]) (.seq (rg [oO 4 (.mov (.c (.int .u8 0)))]) (.seq (.seq (rg [oF 13 40 1, oL 14 13]) (.cond (.t 14) (rg [oO 4 (.mov (.c (.int .u8 1)))]) .skip)) (.seq (.seq (rg [oF 15 41 1, oL 16 15]) (.cond (.t 16) (rg [oM 17 4, oO 18 (.bin .add (.t 17) (.c (.int .u8 2))), oM 4 18]) .skip)) (.seq (rg [oM 19 3, oM 20 4, oF 21 22 1, oL 22 21, oO 23 (.conv .u8 (.t 22)), oF 24 23 1, oL 25 24, oO 26 (.conv .u8 (.t 25)), oO 27 (.buildSl 1 3 z1 [(0, (1, (.t 20))), (1, (1, (.t 23))), (2, (1, (.t 26)))]), oO 28 (.append 1 1 (.t 19) (.t 27)), oM 3 28]) (.seq (.region [(3, 5)] [oM 29 3, oF 30 5 1, oO 31 (.sliceArr 16 1 (.t 30) none none), oO 32 (.append 1 1 (.t 29) (.t 31)), oF 33 24 1, oO 34 (.sliceArr 16 1 (.t 33) none none), oO 35 (.append 1 1 (.t 32) (.t 34)), oM 3 35]) (.seq (.region [(6, 8)] [oM 36 3, oF 37 21 1, oL 38 37, oO 39 (.lenSl (.t 38)), oO 40 (.conv .u8 (.t 39)), oO 41 (.buildSl 1 1 z1 [(0, (1, (.t 40)))]), oO 42 (.append 1 1 (.t 36) (.t 41)), oF 43 21 1, oL 44 43, oO 45 (.append 1 1 (.t 42) (.t 44)), oM 2 45]) .ret))))))))
theorem A_clavigerref6_Vault_ok : Tryz.f43.body.bind (cCode Tryz.prog) = some A_clavigerref6_Vault := by kernel_rfl
theorem A_clavigerref6_Vault_res : cRes Tryz.prog Tryz.f43.results.toList = some [(.tmp 2)] := by kernel_rfl
theorem A_clavigerref6_Vault_nt : Tryz.f43.ntmps = 46 := by kernel_rfl
def A_clavigerref6_Record_L0 : ACode := (.seq (.seq (rg [oM 51 4, oF 52 46 1, oL 53 52, oO 54 (.lenSl (.t 53)), oO 55 (.bin .lss (.t 51) (.t 54))]) (.cond (.t 55) .skip (.exit 1))) (.seq (.block 2 (rg [oM 58 3, oF 59 46 1, oL 60 59, oM 61 4, oO 62 (.idxSl 42 (.t 60) (.t 61)), oO 63 (.load (some 42) (.t 62)), oO 64 (.call 43 [(.t 63)]), oO 65 (.append 1 1 (.t 58) (.t 64)), oM 3 65])) (rg [oM 56 4, oO 57 (.bin .add (.t 56) (ci 1)), oM 4 57])))
def A_clavigerref6_Record : ACode := (.seq (rg [oO 1 (.box (.t 0)), oO 2 (.mov (.c (.slice none 0 0)))]) (.seq (rg [oF 5 0 1, oL 6 5, oO 7 (.conv .u8 (.t 6)), oO 8 (.buildSl 1 1 z1 [(0, (1, (.t 7)))]), oM 3 8]) (.seq (.seq (rg [oF 9 0 1, oL 10 9]) (.block 0 (.seq (rg [oO 12 (.bin .eql (.t 10) (ci 1)), oM 11 12]) (.cond (.t 11) (.seq (rg [oM 13 3, oF 14 4 1, oO 15 (.load (some 42) (.t 14)), oO 16 (.call 43 [(.t 15)]), oO 17 (.append 1 1 (.t 13) (.t 16)), oM 2 17]) .ret) (.seq (rg [oO 19 (.bin .eql (.t 10) (ci 2)), oM 18 19]) (.cond (.t 18) (.seq (.region [(8, 10)] [oM 20 3, oF 21 1 1, oL 22 21, oO 23 (.conv .u8 (.t 22)), oF 24 2 1, oL 25 24, oO 26 (.conv .u8 (.t 25)), oO 27 (.buildSl 1 2 z1 [(0, (1, (.t 23))), (1, (1, (.t 26)))]), oO 28 (.append 1 1 (.t 20) (.t 27)), oF 29 3 1, oL 30 29, oO 31 (.call 36 [(.t 30)]), oO 32 (.append 1 1 (.t 28) (.t 31)), oM 2 32]) .ret) (.seq (rg [oO 34 (.bin .eql (.t 10) (ci 3)), oM 33 34]) (.cond (.t 33) (.seq (.region [(5, 7), (5, 11), (8, 11), (9, 11), (5, 13), (8, 13), (9, 13)] [oM 35 3, oF 36 1 1, oL 37 36, oO 38 (.conv .u8 (.t 37)), oO 39 (.buildSl 1 1 z1 [(0, (1, (.t 38)))]), oO 40 (.append 1 1 (.t 35) (.t 39)), oF 41 3 1, oL 42 41, oO 43 (.call 36 [(.t 42)]), oO 44 (.append 1 1 (.t 40) (.t 43)), oF 45 46 1, oL 46 45, oO 47 (.lenSl (.t 46)), oO 48 (.conv .u8 (.t 47)), oO 49 (.buildSl 1 1 z1 [(0, (1, (.t 48)))]), oO 50 (.append 1 1 (.t 44) (.t 49)), oM 3 50]) (.seq (.seq (rg [oO 4 (.mov (ci 0))]) (.block 1 (.loop A_clavigerref6_Record_L0))) (.seq (rg [oM 66 3, oM 2 66]) .ret))) .skip)))))))) (.seq (.region [(5, 7)] [oM 67 3, oF 68 1 1, oL 69 68, oO 70 (.conv .u8 (.t 69)), oO 71 (.buildSl 1 1 z1 [(0, (1, (.t 70)))]), oO 72 (.append 1 1 (.t 67) (.t 71)), oF 73 3 1, oL 74 73, oO 75 (.call 36 [(.t 74)]), oO 76 (.append 1 1 (.t 72) (.t 75)), oM 2 76]) .ret))))
def K_clavigerref6_Record_L0 : Kt := (.blk 1 (.seq (.seq (rg [oM 66 3, oM 2 66]) .ret) (.blk 0 (.seq (.seq (.region [(5, 7)] [oM 67 3, oF 68 1 1, oL 69 68, oO 70 (.conv .u8 (.t 69)), oO 71 (.buildSl 1 1 z1 [(0, (1, (.t 70)))]), oO 72 (.append 1 1 (.t 67) (.t 71)), oF 73 3 1, oL 74 73, oO 75 (.call 36 [(.t 74)]), oO 76 (.append 1 1 (.t 72) (.t 75)), oM 2 76]) .ret) .fin))))
theorem A_clavigerref6_Record_ok : Tryz.f16.body.bind (cCode Tryz.prog) = some A_clavigerref6_Record := by kernel_rfl
theorem A_clavigerref6_Record_res : cRes Tryz.prog Tryz.f16.results.toList = some [(.tmp 2)] := by kernel_rfl
theorem A_clavigerref6_Record_nt : Tryz.f16.ntmps = 77 := by kernel_rfl
def A_clavigerref6_Reader_Take : ACode := (.seq (rg [oO 4 (.mov (.c (.slice none 0 0)))]) (.seq (.seq (rg [oM 6 0, oO 7 (.nilChk (.t 6)), oF 8 1 7, oL 9 8, oM 10 9, oG 11 (.mov (.t 1)) 10 false, oG 12 (.mov (.t 0)) 10 false, oG 13 (.nilChk (.t 12)) 10 false, oG 14 (.fieldAddr 0 (.t 13)) 10 false, oG 15 (.load none (.t 14)) 10 false, oG 16 (.lenSl (.t 15)) 10 false, oG 17 (.bin .gtr (.t 11) (.t 16)) 10 false, oO 18 (.pick (.t 10) (.c (.bool true)) (.t 17))]) (.cond (.t 18) (.seq (rg [oM 19 0, oO 20 (.nilChk (.t 19)), oF 21 1 20, oN (.store 1 (.t 21) (.c (.bool true)))]) (.seq (rg [oM 22 0, oO 23 (.nilChk (.t 22)), oF 24 0 23, oN (.store 1 (.t 24) (.c (.slice none 0 0)))]) (.seq (rg [oM 25 1, oO 26 (.mkSl 1 1 z1 (.t 25) (.t 25)), oM 4 26]) .ret))) .skip)) (.seq (rg [oM 27 0, oO 28 (.nilChk (.t 27)), oF 29 0 28, oL 30 29, oM 31 1, oO 32 (.sliceSl 1 (.t 30) none (some (.t 31))), oM 5 32]) (.seq (rg [oM 33 0, oM 34 0, oO 35 (.nilChk (.t 34)), oF 36 0 35, oL 37 36, oM 38 1, oO 39 (.sliceSl 1 (.t 37) (some (.t 38)) none), oO 40 (.nilChk (.t 33)), oF 41 0 40, oN (.store 1 (.t 41) (.t 39))]) (.seq (rg [oO 42 (.buildSl 1 0 z1 []), oM 43 5, oO 44 (.append 1 1 (.t 42) (.t 43)), oM 4 44]) .ret)))))
theorem A_clavigerref6_Reader_Take_ok : Tryz.f55.body.bind (cCode Tryz.prog) = some A_clavigerref6_Reader_Take := by kernel_rfl
theorem A_clavigerref6_Reader_Take_res : cRes Tryz.prog Tryz.f55.results.toList = some [(.tmp 4)] := by kernel_rfl
theorem A_clavigerref6_Reader_Take_nt : Tryz.f55.ntmps = 45 := by kernel_rfl
def A_clavigerref6_Reader_Byte : ACode := (.seq (rg [oO 2 (.mov (ci 0))]) (.seq (rg [oM 3 0, oO 4 (.call 55 [(.t 3), (ci 1)]), oO 5 (.idxSl 1 (.t 4) (ci 0)), oL 6 5, oO 7 (.conv .i64 (.t 6)), oM 2 7]) .ret))
theorem A_clavigerref6_Reader_Byte_ok : Tryz.f24.body.bind (cCode Tryz.prog) = some A_clavigerref6_Reader_Byte := by kernel_rfl
theorem A_clavigerref6_Reader_Byte_res : cRes Tryz.prog Tryz.f24.results.toList = some [(.tmp 2)] := by kernel_rfl
theorem A_clavigerref6_Reader_Byte_nt : Tryz.f24.ntmps = 8 := by kernel_rfl
def A_clavigerref6_Reader_Number_L0 : ACode := (.seq (.seq (rg [oM 8 5, oO 9 (.bin .lss (.t 8) (ci 8))]) (.cond (.t 9) .skip (.exit 0))) (.seq (.block 1 (rg [oM 12 4, oO 13 (.bin .mul (.t 12) (.c (.int .u64 256))), oM 14 3, oM 15 5, oO 16 (.idxSl 1 (.t 14) (.t 15)), oL 17 16, oO 18 (.conv .u64 (.t 17)), oO 19 (.bin .add (.t 13) (.t 18)), oM 4 19])) (rg [oM 10 5, oO 11 (.bin .add (.t 10) (ci 1)), oM 5 11])))
def A_clavigerref6_Reader_Number : ACode := (.seq (rg [oO 2 (.mov (.c (.int .u64 0)))]) (.seq (rg [oM 6 0, oO 7 (.call 55 [(.t 6), (ci 8)]), oM 3 7]) (.seq (rg [oO 4 (.mov (.c (.int .u64 0)))]) (.seq (.seq (rg [oO 5 (.mov (ci 0))]) (.block 0 (.loop A_clavigerref6_Reader_Number_L0))) (.seq (rg [oM 20 4, oM 2 20]) .ret)))))
def K_clavigerref6_Reader_Number_L0 : Kt := (.blk 0 (.seq (.seq (rg [oM 20 4, oM 2 20]) .ret) .fin))
theorem A_clavigerref6_Reader_Number_ok : Tryz.f25.body.bind (cCode Tryz.prog) = some A_clavigerref6_Reader_Number := by kernel_rfl
theorem A_clavigerref6_Reader_Number_res : cRes Tryz.prog Tryz.f25.results.toList = some [(.tmp 2)] := by kernel_rfl
theorem A_clavigerref6_Reader_Number_nt : Tryz.f25.ntmps = 21 := by kernel_rfl
def A_clavigerref6_Reader_Digest : ACode := (.seq (rg [oO 2 (.alloc z16)]) (.seq (rg [oO 3 (.alloc z16)]) (.seq (.region [(0, 2)] [oO 4 (.sliceArr 16 1 (.t 3) none none), oM 5 0, oO 6 (.call 55 [(.t 5), (ci 16)]), oO 7 (.copy 1 (.t 4) (.t 6))]) (.seq (rg [oO 8 (.load (some 16) (.t 3)), oN (.store 16 (.t 2) (.t 8))]) .ret))))
theorem A_clavigerref6_Reader_Digest_ok : Tryz.f74.body.bind (cCode Tryz.prog) = some A_clavigerref6_Reader_Digest := by kernel_rfl
theorem A_clavigerref6_Reader_Digest_res : cRes Tryz.prog Tryz.f74.results.toList = some [(.cell 2 (some 16))] := by kernel_rfl
theorem A_clavigerref6_Reader_Digest_nt : Tryz.f74.ntmps = 9 := by kernel_rfl
def A_clavigerref6_Reader_ID : ACode := (.seq (rg [oO 2 (.alloc z4)]) (.seq (rg [oO 3 (.alloc z4)]) (.seq (.region [(0, 2)] [oO 4 (.sliceArr 4 1 (.t 3) none none), oM 5 0, oO 6 (.call 55 [(.t 5), (ci 4)]), oO 7 (.copy 1 (.t 4) (.t 6))]) (.seq (rg [oO 8 (.load (some 4) (.t 3)), oN (.store 4 (.t 2) (.t 8))]) .ret))))
theorem A_clavigerref6_Reader_ID_ok : Tryz.f73.body.bind (cCode Tryz.prog) = some A_clavigerref6_Reader_ID := by kernel_rfl
theorem A_clavigerref6_Reader_ID_res : cRes Tryz.prog Tryz.f73.results.toList = some [(.cell 2 (some 4))] := by kernel_rfl
theorem A_clavigerref6_Reader_ID_nt : Tryz.f73.ntmps = 9 := by kernel_rfl
def A_clavigerref6_Reader_Vault : ACode := (.seq (rg [oO 2 (.alloc zVlt), oO 3 (.mov (.c (.bool false)))]) (.seq (rg [oM 7 0, oO 8 (.call 73 [(.t 7)]), oO 9 (.build zVlt [(0, (4, (.t 8)))]), oO 4 (.alloc zVlt), oN (.store 42 (.t 4) (.t 9))]) (.seq (rg [oM 10 0, oO 11 (.call 25 [(.t 10)]), oF 12 4 4, oN (.store 1 (.t 12) (.t 11))]) (.seq (rg [oM 13 0, oO 14 (.call 24 [(.t 13)]), oM 5 14]) (.seq (rg [oM 15 5, oO 16 (.bin .rem (.t 15) (ci 2)), oO 17 (.bin .eql (.t 16) (ci 1)), oM 18 5, oO 19 (.bin .quo (.t 18) (ci 2)), oO 20 (.bin .rem (.t 19) (ci 2)), oO 21 (.bin .eql (.t 20) (ci 1)), oF 22 40 4, oN (.store 1 (.t 22) (.t 17)), oF 23 41 4, oN (.store 1 (.t 23) (.t 21))]) (.seq (rg [oM 24 0, oO 25 (.call 24 [(.t 24)]), oF 26 22 4, oN (.store 1 (.t 26) (.t 25))]) (.seq (rg [oM 27 0, oO 28 (.call 24 [(.t 27)]), oF 29 23 4, oN (.store 1 (.t 29) (.t 28))]) (.seq (rg [oM 30 0, oO 31 (.call 74 [(.t 30)]), oF 32 5 4, oN (.store 16 (.t 32) (.t 31))]) (.seq (rg [oM 33 0, oO 34 (.call 74 [(.t 33)]), oF 35 24 4, oN (.store 16 (.t 35) (.t 34))]) (.seq (rg [oM 36 0, oO 37 (.call 24 [(.t 36)]), oM 6 37]) (.seq (rg [oM 38 0, oM 39 6, oO 40 (.call 55 [(.t 38), (.t 39)]), oF 41 21 4, oN (.store 1 (.t 41) (.t 40))]) (.seq (.seq (rg [oM 42 0, oO 43 (.nilChk (.t 42)), oF 44 1 43, oL 45 44, oM 46 45, oG 47 (.mov (.t 5)) 46 false, oG 48 (.bin .gtr (.t 47) (ci 3)) 46 false, oO 49 (.pick (.t 46) (.c (.bool true)) (.t 48)), oM 50 49, oG 51 (.load (some 42) (.t 4)) 50 false, oG 52 (.call 38 [(.t 51)]) 50 false, oG 53 (.un .not (.t 52)) 50 false, oO 54 (.pick (.t 50) (.c (.bool true)) (.t 53))]) (.cond (.t 54) (.seq (rg [oO 55 (.build zVlt []), oN (.store 42 (.t 2) (.t 55)), oO 3 (.mov (.c (.bool false)))]) .ret) .skip)) (.seq (rg [oO 56 (.load (some 42) (.t 4)), oN (.store 42 (.t 2) (.t 56)), oO 3 (.mov (.c (.bool true)))]) .ret)))))))))))))
theorem A_clavigerref6_Reader_Vault_ok : Tryz.f53.body.bind (cCode Tryz.prog) = some A_clavigerref6_Reader_Vault := by kernel_rfl
theorem A_clavigerref6_Reader_Vault_res : cRes Tryz.prog Tryz.f53.results.toList = some [(.cell 2 (some 42)), (.tmp 3)] := by kernel_rfl
theorem A_clavigerref6_Reader_Vault_nt : Tryz.f53.ntmps = 57 := by kernel_rfl
def A_clavigerref6_ToRecord_L0 : ACode := (.seq (.seq (rg [oM 47 7, oO 48 (.bin .gtr (.t 47) (ci 0)), oM 49 48, oG 50 (.mov (.t 6)) 49 true, oO 51 (.pick (.t 49) (.t 50) (.c (.bool false)))]) (.cond (.t 51) .skip (.exit 1))) (.seq (.block 2 (.seq (rg [oM 55 4, oO 56 (.call 53 [(.t 55)]), oM 54 56, oO 57 (.extract (.t 54) 0), oO 58 (.extract (.t 54) 1), oO 8 (.alloc zVlt), oN (.store 42 (.t 8) (.t 57)), oM 9 58]) (.seq (rg [oM 59 9, oM 6 59]) (rg [oF 60 46 5, oL 61 60, oO 62 (.load (some 42) (.t 8)), oO 63 (.buildSl 42 1 zVlt [(0, (42, (.t 62)))]), oO 64 (.append 42 96 (.t 61) (.t 63)), oF 65 46 5, oN (.store 1 (.t 65) (.t 64))])))) (rg [oM 52 7, oO 53 (.bin .sub (.t 52) (ci 1)), oM 7 53])))
def A_clavigerref6_ToRecord : ACode := (.seq (rg [oO 2 (.alloc zRec), oO 3 (.mov (.c (.bool false)))]) (.seq (rg [oM 10 0, oO 11 (.build zRd [(0, (1, (.t 10)))]), oO 12 (.box (.t 11)), oM 4 12]) (.seq (rg [oM 13 4, oO 14 (.call 24 [(.t 13)]), oO 15 (.build zRec [(0, (1, (.t 14)))]), oO 5 (.alloc zRec), oN (.store 47 (.t 5) (.t 15))]) (.seq (rg [oO 6 (.mov (.c (.bool true)))]) (.seq (.seq (rg [oF 16 0 5, oL 17 16]) (.block 0 (.seq (rg [oO 19 (.bin .eql (.t 17) (ci 1)), oM 18 19]) (.cond (.t 18) (rg [oM 21 4, oO 22 (.call 53 [(.t 21)]), oM 20 22, oO 23 (.extract (.t 20) 0), oO 24 (.extract (.t 20) 1), oF 25 4 5, oN (.store 42 (.t 25) (.t 23)), oM 6 24]) (.seq (rg [oO 27 (.bin .eql (.t 17) (ci 2)), oM 26 27]) (.cond (.t 26) (.seq (rg [oM 28 4, oO 29 (.call 24 [(.t 28)]), oF 30 1 5, oN (.store 1 (.t 30) (.t 29))]) (.seq (rg [oM 31 4, oO 32 (.call 24 [(.t 31)]), oF 33 2 5, oN (.store 1 (.t 33) (.t 32))]) (rg [oM 34 4, oO 35 (.call 25 [(.t 34)]), oF 36 3 5, oN (.store 1 (.t 36) (.t 35))]))) (.seq (rg [oO 38 (.bin .eql (.t 17) (ci 3)), oM 37 38]) (.cond (.t 37) (.seq (rg [oM 39 4, oO 40 (.call 24 [(.t 39)]), oF 41 1 5, oN (.store 1 (.t 41) (.t 40))]) (.seq (rg [oM 42 4, oO 43 (.call 25 [(.t 42)]), oF 44 3 5, oN (.store 1 (.t 44) (.t 43))]) (.seq (rg [oM 45 4, oO 46 (.call 24 [(.t 45)]), oM 7 46]) (.block 1 (.loop A_clavigerref6_ToRecord_L0))))) (.seq (rg [oO 67 (.bin .eql (.t 17) (ci 4)), oM 66 67]) (.cond (.t 66) (.seq (rg [oM 68 4, oO 69 (.call 24 [(.t 68)]), oF 70 1 5, oN (.store 1 (.t 70) (.t 69))]) (rg [oM 71 4, oO 72 (.call 25 [(.t 71)]), oF 73 3 5, oN (.store 1 (.t 73) (.t 72))])) .skip)))))))))) (.seq (.seq (rg [oM 74 6, oO 75 (.un .not (.t 74)), oM 76 75, oG 77 (.mov (.t 4)) 76 false, oG 78 (.nilChk (.t 77)) 76 false, oG 79 (.fieldAddr 1 (.t 78)) 76 false, oG 80 (.load none (.t 79)) 76 false, oO 81 (.pick (.t 76) (.c (.bool true)) (.t 80)), oM 82 81, oG 83 (.mov (.t 4)) 82 false, oG 84 (.nilChk (.t 83)) 82 false, oG 85 (.fieldAddr 0 (.t 84)) 82 false, oG 86 (.load none (.t 85)) 82 false, oG 87 (.lenSl (.t 86)) 82 false, oG 88 (.bin .gtr (.t 87) (ci 0)) 82 false, oO 89 (.pick (.t 82) (.c (.bool true)) (.t 88)), oM 90 89, oG 91 (.load (some 47) (.t 5)) 90 false, oG 92 (.call 14 [(.t 91)]) 90 false, oG 93 (.un .not (.t 92)) 90 false, oO 94 (.pick (.t 90) (.c (.bool true)) (.t 93))]) (.cond (.t 94) (.seq (rg [oO 95 (.build zRec []), oN (.store 47 (.t 2) (.t 95)), oO 3 (.mov (.c (.bool false)))]) .ret) .skip)) (.seq (rg [oO 96 (.load (some 47) (.t 5)), oN (.store 47 (.t 2) (.t 96)), oO 3 (.mov (.c (.bool true)))]) .ret)))))))
def K_clavigerref6_ToRecord_L0 : Kt := (.blk 1 (.blk 0 (.seq (.seq (.seq (rg [oM 74 6, oO 75 (.un .not (.t 74)), oM 76 75, oG 77 (.mov (.t 4)) 76 false, oG 78 (.nilChk (.t 77)) 76 false, oG 79 (.fieldAddr 1 (.t 78)) 76 false, oG 80 (.load none (.t 79)) 76 false, oO 81 (.pick (.t 76) (.c (.bool true)) (.t 80)), oM 82 81, oG 83 (.mov (.t 4)) 82 false, oG 84 (.nilChk (.t 83)) 82 false, oG 85 (.fieldAddr 0 (.t 84)) 82 false, oG 86 (.load none (.t 85)) 82 false, oG 87 (.lenSl (.t 86)) 82 false, oG 88 (.bin .gtr (.t 87) (ci 0)) 82 false, oO 89 (.pick (.t 82) (.c (.bool true)) (.t 88)), oM 90 89, oG 91 (.load (some 47) (.t 5)) 90 false, oG 92 (.call 14 [(.t 91)]) 90 false, oG 93 (.un .not (.t 92)) 90 false, oO 94 (.pick (.t 90) (.c (.bool true)) (.t 93))]) (.cond (.t 94) (.seq (rg [oO 95 (.build zRec []), oN (.store 47 (.t 2) (.t 95)), oO 3 (.mov (.c (.bool false)))]) .ret) .skip)) (.seq (rg [oO 96 (.load (some 47) (.t 5)), oN (.store 47 (.t 2) (.t 96)), oO 3 (.mov (.c (.bool true)))]) .ret)) .fin)))
theorem A_clavigerref6_ToRecord_ok : Tryz.f21.body.bind (cCode Tryz.prog) = some A_clavigerref6_ToRecord := by kernel_rfl
theorem A_clavigerref6_ToRecord_res : cRes Tryz.prog Tryz.f21.results.toList = some [(.cell 2 (some 47)), (.tmp 3)] := by kernel_rfl
theorem A_clavigerref6_ToRecord_nt : Tryz.f21.ntmps = 97 := by kernel_rfl
def A_clavigerref6_Same : ACode := (.seq (rg [oO 2 (.box (.t 0)), oO 3 (.box (.t 1)), oO 4 (.mov (.c (.bool false)))]) (.seq (rg [oF 5 0 2, oO 6 (.load (some 4) (.t 5)), oF 7 0 3, oO 8 (.load (some 4) (.t 7)), oO 9 (.eqA false sh4 (.t 6) (.t 8)), oM 10 9, oG 11 (.fieldAddr 4 (.t 2)) 10 true, oG 12 (.load none (.t 11)) 10 true, oG 13 (.fieldAddr 4 (.t 3)) 10 true, oG 14 (.load none (.t 13)) 10 true, oG 15 (.bin .eql (.t 12) (.t 14)) 10 true, oO 16 (.pick (.t 10) (.t 15) (.c (.bool false))), oM 17 16, oG 18 (.fieldAddr 5 (.t 2)) 17 true, oG 19 (.load (some 16) (.t 18)) 17 true, oG 20 (.fieldAddr 5 (.t 3)) 17 true, oG 21 (.load (some 16) (.t 20)) 17 true, oG 22 (.eqA false sh16 (.t 19) (.t 21)) 17 true, oO 23 (.pick (.t 17) (.t 22) (.c (.bool false))), oM 24 23, oG 25 (.fieldAddr 21 (.t 2)) 24 true, oG 26 (.load none (.t 25)) 24 true, oG 27 (.toStr (.t 26)) 24 true, oG 28 (.fieldAddr 21 (.t 3)) 24 true, oG 29 (.load none (.t 28)) 24 true, oG 30 (.toStr (.t 29)) 24 true, oG 31 (.bin .eql (.t 27) (.t 30)) 24 true, oO 32 (.pick (.t 24) (.t 31) (.c (.bool false))), oM 33 32, oG 34 (.fieldAddr 22 (.t 2)) 33 true, oG 35 (.load none (.t 34)) 33 true, oG 36 (.fieldAddr 22 (.t 3)) 33 true, oG 37 (.load none (.t 36)) 33 true, oG 38 (.bin .eql (.t 35) (.t 37)) 33 true, oO 39 (.pick (.t 33) (.t 38) (.c (.bool false))), oM 40 39, oG 41 (.fieldAddr 23 (.t 2)) 40 true, oG 42 (.load none (.t 41)) 40 true, oG 43 (.fieldAddr 23 (.t 3)) 40 true, oG 44 (.load none (.t 43)) 40 true, oG 45 (.bin .eql (.t 42) (.t 44)) 40 true, oO 46 (.pick (.t 40) (.t 45) (.c (.bool false))), oM 47 46, oG 48 (.fieldAddr 24 (.t 2)) 47 true, oG 49 (.load (some 16) (.t 48)) 47 true, oG 50 (.fieldAddr 24 (.t 3)) 47 true, oG 51 (.load (some 16) (.t 50)) 47 true, oG 52 (.eqA false sh16 (.t 49) (.t 51)) 47 true, oO 53 (.pick (.t 47) (.t 52) (.c (.bool false))), oM 54 53, oG 55 (.fieldAddr 40 (.t 2)) 54 true, oG 56 (.load none (.t 55)) 54 true, oG 57 (.fieldAddr 40 (.t 3)) 54 true, oG 58 (.load none (.t 57)) 54 true, oG 59 (.eqB false (.t 56) (.t 58)) 54 true, oO 60 (.pick (.t 54) (.t 59) (.c (.bool false))), oM 61 60, oG 62 (.fieldAddr 41 (.t 2)) 61 true, oG 63 (.load none (.t 62)) 61 true, oG 64 (.fieldAddr 41 (.t 3)) 61 true, oG 65 (.load none (.t 64)) 61 true, oG 66 (.eqB false (.t 63) (.t 65)) 61 true, oO 67 (.pick (.t 61) (.t 66) (.c (.bool false))), oM 4 67]) .ret))
theorem A_clavigerref6_Same_ok : Tryz.f54.body.bind (cCode Tryz.prog) = some A_clavigerref6_Same := by kernel_rfl
theorem A_clavigerref6_Same_res : cRes Tryz.prog Tryz.f54.results.toList = some [(.tmp 4)] := by kernel_rfl
theorem A_clavigerref6_Same_nt : Tryz.f54.ntmps = 68 := by kernel_rfl
def A_clavigerref6_Vaults_L0 : ACode := (.seq (.seq (rg [oM 11 5, oM 12 0, oO 13 (.lenSl (.t 12)), oO 14 (.bin .lss (.t 11) (.t 13))]) (.cond (.t 14) .skip (.exit 0))) (.seq (.block 1 (.seq (rg [oM 17 0, oM 18 5, oO 19 (.idxSl 42 (.t 17) (.t 18)), oO 20 (.load (some 42) (.t 19)), oM 21 1, oM 22 5, oO 23 (.idxSl 42 (.t 21) (.t 22)), oO 24 (.load (some 42) (.t 23)), oO 25 (.call 54 [(.t 20), (.t 24)]), oO 26 (.un .not (.t 25))]) (.cond (.t 26) (.seq (rg [oO 4 (.mov (.c (.bool false)))]) .ret) .skip))) (rg [oM 15 5, oO 16 (.bin .add (.t 15) (ci 1)), oM 5 16])))
def A_clavigerref6_Vaults : ACode := (.seq (rg [oO 4 (.mov (.c (.bool false)))]) (.seq (.seq (rg [oM 6 0, oO 7 (.lenSl (.t 6)), oM 8 1, oO 9 (.lenSl (.t 8)), oO 10 (.bin .neq (.t 7) (.t 9))]) (.cond (.t 10) (.seq (rg [oO 4 (.mov (.c (.bool false)))]) .ret) .skip)) (.seq (.seq (rg [oO 5 (.mov (ci 0))]) (.block 0 (.loop A_clavigerref6_Vaults_L0))) (.seq (rg [oO 4 (.mov (.c (.bool true)))]) .ret))))
def K_clavigerref6_Vaults_L0 : Kt := (.blk 0 (.seq (.seq (rg [oO 4 (.mov (.c (.bool true)))]) .ret) .fin))
theorem A_clavigerref6_Vaults_ok : Tryz.f22.body.bind (cCode Tryz.prog) = some A_clavigerref6_Vaults := by kernel_rfl
theorem A_clavigerref6_Vaults_res : cRes Tryz.prog Tryz.f22.results.toList = some [(.tmp 4)] := by kernel_rfl
theorem A_clavigerref6_Vaults_nt : Tryz.f22.ntmps = 27 := by kernel_rfl
end
end Go.Proofs.YtfpoebmihjbknaaGreat.VA

/- Values that are right: the document's. -/
set_option linter.unusedVariables false
set_option linter.unusedSimpArgs false
set_option maxRecDepth 100000
namespace Go.Proofs.YtfpoebmihjbknaaGreat.VA
open Go
attribute [local irreducible] WK NK XK TK RK FK CK CFK CallRel C
theorem rnum_C (i : Int) : C Tryz.prog 37 [vi .u64 i] [] (vb (decide (i ≤ 1099511627776))) [] := by
  refine C_of mixed Tryz.func37 A_clavigerref6_number_ok A_clavigerref6_number_res _ A_clavigerref6_number_nt ?_
  (repeat' (first | simp (maxSteps := 2000000) -implicitDefEqProofs only [A_clavigerref6_number, len_lst, rk_ext, fk_ext, sm_c, sm_a, numI_len, lr_api, lr, lr2, oO, oN, oG, oNG, oM, oF, oL, rg, ci, seval, resAll, resL, resV, blkAt, undef, fillV, evParts, footOp, wrOp, chk, disj] | split))
  all_goals (refine out_vb (Bool.eq_iff_iff.2 ?_); (try simp only [decide_eq_true_eq, Bool.false_eq_true, true_iff, false_iff]); (try simp only [RightV, RightQ, RightP, whoP, sameV, RightR, EpochP, Vlt.zero] at *); first | done | (simp_all; done) | (simp_all; omega) | omega | grind)
set_option maxHeartbeats 4000000 in
theorem rrightV_C (x : Vlt) : C Tryz.prog 38 [.agg (cVlt x)] [] (vb (decide (RightV x))) [] := by
  refine C_of mixed Tryz.func38 A_clavigerref6_RightVault_ok A_clavigerref6_RightVault_res _ A_clavigerref6_RightVault_nt ?_
  (repeat' (first | simp (maxSteps := 2000000) -implicitDefEqProofs only [A_clavigerref6_RightVault, len_lst, rk_ext, fk_ext, sm_c, sm_a, numI_len, lr_api, lr, lr2, oO, oN, oG, oNG, oM, oF, oL, rg, ci, seval, resAll, resL, resV, blkAt, undef, fillV, evParts, footOp, wrOp, chk, disj] | split | ((first | apply ck_call | apply cfk_call); (first | (apply call_pure (rnum_C x.gen) cll cl)))))
  all_goals (refine out_vb (Bool.eq_iff_iff.2 ?_); (try simp only [decide_eq_true_eq, Bool.false_eq_true, true_iff, false_iff]); (try simp only [RightV, RightQ, RightP, whoP, sameV, RightR, EpochP, Vlt.zero] at *); first | done | (simp_all; done) | (simp_all; omega) | omega | grind)
theorem rnothing_C (a : Vlt) : C Tryz.prog 39 [.agg (cVlt a)] [] (vb (decide (sameV a Vlt.zero))) [] := by
  refine C_of mixed Tryz.func39 A_clavigerref6_nothing_ok A_clavigerref6_nothing_res _ A_clavigerref6_nothing_nt ?_
  have e : sameV a Vlt.zero ↔ (a.id = Bn.zero 4 ∧ a.gen = 0 ∧ a.pin = Bn.zero 16 ∧ ((a.secret.l.length : Nat) : Int) = 0 ∧ a.limit = 0 ∧ a.used = 0 ∧ a.owner = Bn.zero 16 ∧ a.gone = false ∧ a.wiped = false) := by
    have hl : (a.secret.l = []) ↔ ((a.secret.l.length : Nat) : Int) = 0 := by
      rw [← List.length_eq_zero_iff]; omega
    simp only [sameV, Vlt.zero, row_l_nil, hl]
  simp only [e]
  (repeat' (first | simp (maxSteps := 2000000) -implicitDefEqProofs only [A_clavigerref6_nothing, len_lst, rk_ext, fk_ext, sm_c, sm_a, numI_len, lr_api, lr, lr2, oO, oN, oG, oNG, oM, oF, oL, rg, ci, seval, resAll, resL, resV, blkAt, undef, fillV, evParts, footOp, wrOp, chk, disj] | split))
  all_goals (refine out_vb (Bool.eq_iff_iff.2 ?_); (try simp only [decide_eq_true_eq, Bool.false_eq_true, true_iff, false_iff]); (try simp only [RightV, RightQ, RightP, whoP, sameV, RightR, EpochP, Vlt.zero] at *); first | done | (simp_all; done) | (simp_all; omega) | omega | grind)
theorem less_cmp : ∀ a b : List UInt8, Op.bytesLess a b = decide (cmpL a b < 0)
  | [], [] => by simp [Op.bytesLess, cmpL]
  | [], _ :: _ => by simp [Op.bytesLess, cmpL]
  | _ :: _, [] => by simp [Op.bytesLess, cmpL]
  | x :: xs, y :: ys => by
    have ih := less_cmp xs ys
    simp only [Op.bytesLess, ih, cmpL]
    by_cases h : x = y
    · subst h; simp
    · by_cases h2 : x < y <;> simp [h, h2]
theorem st_ge (a b : List UInt8) : evBin .geq (st a) (st b) = some (vb (decide (0 ≤ cmpL a b))) := by
  have : evBin .geq (st a) (st b) = some (vb (!Op.bytesLess a b)) := by
    simp only [st, evBin, binOp, Op.stringOp, pureV, pure, ByteArray.toList_eq]
    rfl
  rw [this, less_cmp]
  congr 3
  rw [Bool.eq_iff_iff]; simp
theorem rrising_C (r : Lst Vlt) : C Tryz.prog 40 [lstV cVlt r] [] (vb (decide (RisingP r.l))) [] := by
  refine C_of mixed Tryz.func40 A_clavigerref6_Rising_ok A_clavigerref6_Rising_res _ A_clavigerref6_Rising_nt ?_
  by_cases h4 : (r.l.length : Int) > 4
  · (repeat' (first | simp (maxSteps := 2000000) -implicitDefEqProofs only [A_clavigerref6_Rising, h4, len_lst, len_lst, rk_ext, fk_ext, sm_c, sm_a, numI_len, lr_api, lr, lr2, oO, oN, oG, oNG, oM, oF, oL, rg, ci, seval, resAll, resL, resV, blkAt, undef, fillV, evParts, footOp, wrOp, chk, disj] | split))
    refine out_vb (Eq.symm (decide_eq_false ?_))
    rintro ⟨h, _⟩; omega
  (repeat' (first | simp (maxSteps := 2000000) -implicitDefEqProofs only [A_clavigerref6_Rising, h4, len_lst, len_lst, rk_ext, fk_ext, sm_c, sm_a, numI_len, lr_api, lr, lr2, oO, oN, oG, oNG, oM, oF, oL, rg, ci, seval, resAll, resL, resV, blkAt, undef, fillV, evParts, footOp, wrOp, chk, disj] | split))
  refine wk_loop (fun m S H => ∃ i : Nat, i ≤ r.l.length ∧ (∀ j, j < i → RightV (r.l.getD j default) ∧ (0 < j → cmpL (r.l.getD (j - 1) default).id.1 (r.l.getD j default).id.1 < 0)) ∧ m = r.l.length - i ∧ S = (lstV cVlt r :: .dead :: .dead :: vi .i64 i :: .dead :: .dead :: .dead :: .dead :: .dead :: .dead :: .dead :: .dead :: .dead :: .dead :: .dead :: .dead :: .dead :: .dead :: .dead :: .dead :: .dead :: .dead :: .dead :: .dead :: .dead :: .dead :: .dead :: .dead :: .dead :: .dead :: .dead :: .dead :: .dead :: .dead :: .dead :: .dead :: .dead :: .dead :: .dead :: []) ∧ H = []) r.l.length ⟨0, Nat.zero_le _, by omega, rfl, rfl, rfl⟩ (by refine .ren _ _ _ [] (by decide) (by intro k h; first | exact absurd h (Nat.not_lt_zero k) | (simp at h; done) | (rcases k with _ | _ | _ | k <;> first | rfl | (exfalso; omega) | (simp at h; done))) ?_ ?_ <;> simp [KeepS, KeepH, ArgRel, ArgRelL, argL_cl, arg_cl, row_l_of, row_l_nil, bn_len, blkAt]) ?_
  rintro m S H ⟨i, hi, hok, rfl, rfl, rfl⟩ J hJ
  have d0 : (0 : Int) ≤ i := by omega
  by_cases hil : i < r.l.length
  · have d1 : (i : Int) < r.l.length := by omega
    have w1 : IntKind.i64.wrap ((i : Int) + 1) = ((i + 1 : Nat) : Int) := by rw [wrap_id _ (by omega) (by omega)]; omega
    have g1 := rd_flat cVlt_len r.l i hil
    obtain ⟨a1, a2⟩ := box_part cVlt_len r.l i 0 4 (r.l.getD i default).id hil (by decide) (rd_Vlt_id _)
    obtain ⟨v, hv⟩ : ∃ v, v = r.l.getD i default := ⟨_, rfl⟩
    rw [← hv] at g1 a2
    rw [List.drop_zero] at a2
    rw [Nat.zero_add] at a1
    by_cases hr : RightV v
    · by_cases hi0 : i = 0
      · have d2 : ¬ (0 : Int) < i := by omega
        (repeat' (first | simp (maxSteps := 2000000) -implicitDefEqProofs only [A_clavigerref6_Rising_L0, d0, d1, d2, w1, g1, hr, idx_lst cVlt_len, len_lst, rk_ext, fk_ext, sm_c, sm_a, numI_len, lr_api, lr, lr2, oO, oN, oG, oNG, oM, oF, oL, rg, ci, seval, resAll, resL, resV, blkAt, undef, fillV, evParts, footOp, wrOp, chk, disj] | split | ((first | apply ck_call | apply cfk_call); (first | (apply call_pure (rrightV_C v) cll cl)))))
        exact hJ _ _ _ _ _ (by omega) ⟨i + 1, by omega, fun j hj => by
          have : j = i := by omega
          subst this
          exact ⟨by rw [← hv]; exact hr, fun h => absurd h (by omega)⟩, rfl, rfl, rfl⟩ (by refine .ren _ _ _ [] (by decide) (by intro k h; first | exact absurd h (Nat.not_lt_zero k) | (simp at h; done) | (rcases k with _ | _ | _ | k <;> first | rfl | (exfalso; omega) | (simp at h; done))) ?_ ?_ <;> simp [KeepS, KeepH, ArgRel, ArgRelL, argL_cl, arg_cl, row_l_of, row_l_nil, bn_len, blkAt])
      · have d2 : (0 : Int) < i := by omega
        have w2 : IntKind.i64.wrap ((i : Int) - 1) = ((i - 1 : Nat) : Int) := by rw [wrap_id _ (by omega) (by omega)]; omega
        have d3 : (0 : Int) ≤ ((i - 1 : Nat) : Int) := by omega
        have d4 : ((i - 1 : Nat) : Int) < r.l.length := by omega
        obtain ⟨u, hu⟩ : ∃ u, u = r.l.getD (i - 1) default := ⟨_, rfl⟩
        obtain ⟨b1, b2⟩ := box_part cVlt_len r.l (i - 1) 0 4 (r.l.getD (i - 1) default).id (by omega) (by decide) (rd_Vlt_id _)
        rw [← hu, List.drop_zero] at b2
        rw [Nat.zero_add] at b1
        by_cases hc : cmpL u.id.1 v.id.1 < 0
        · have hc2 : ¬ 0 ≤ cmpL u.id.1 v.id.1 := by omega
          (repeat' (first | simp (maxSteps := 2000000) -implicitDefEqProofs only [A_clavigerref6_Rising_L0, d0, d1, d2, d3, d4, w1, w2, g1, hr, a1, a2, b1, b2, hc2, st_ge, idx_lst cVlt_len, len_lst, rk_ext, fk_ext, sm_c, sm_a, numI_len, lr_api, lr, lr2, oO, oN, oG, oNG, oM, oF, oL, rg, ci, seval, resAll, resL, resV, blkAt, undef, fillV, evParts, footOp, wrOp, chk, disj] | split | ((first | apply ck_call | apply cfk_call); (first | (apply call_pure (rrightV_C v) cll cl)))))
          exact hJ _ _ _ _ _ (by omega) ⟨i + 1, by omega, fun j hj => by
            by_cases hji : j = i
            · subst hji; exact ⟨by rw [← hv]; exact hr, fun _ => by rw [← hv, ← hu]; exact hc⟩
            · exact hok j (by omega), rfl, rfl, rfl⟩ (by refine .ren _ _ _ [] (by decide) (by intro k h; first | exact absurd h (Nat.not_lt_zero k) | (simp at h; done) | (rcases k with _ | _ | _ | k <;> first | rfl | (exfalso; omega) | (simp at h; done))) ?_ ?_ <;> simp [KeepS, KeepH, ArgRel, ArgRelL, argL_cl, arg_cl, row_l_of, row_l_nil, bn_len, blkAt])
        · have hc2 : 0 ≤ cmpL u.id.1 v.id.1 := by omega
          (repeat' (first | simp (maxSteps := 2000000) -implicitDefEqProofs only [A_clavigerref6_Rising_L0, d0, d1, d2, d3, d4, w1, w2, g1, hr, a1, a2, b1, b2, hc2, st_ge, idx_lst cVlt_len, len_lst, rk_ext, fk_ext, sm_c, sm_a, numI_len, lr_api, lr, lr2, oO, oN, oG, oNG, oM, oF, oL, rg, ci, seval, resAll, resL, resV, blkAt, undef, fillV, evParts, footOp, wrOp, chk, disj] | split | ((first | apply ck_call | apply cfk_call); (first | (apply call_pure (rrightV_C v) cll cl)))))
          refine out_vb (Eq.symm (decide_eq_false ?_))
          rintro ⟨_, h⟩
          have := (h i hil).2 (by omega)
          rw [← hv, ← hu] at this
          exact hc this
    · (repeat' (first | simp (maxSteps := 2000000) -implicitDefEqProofs only [A_clavigerref6_Rising_L0, d0, d1, w1, g1, hr, idx_lst cVlt_len, len_lst, rk_ext, fk_ext, sm_c, sm_a, numI_len, lr_api, lr, lr2, oO, oN, oG, oNG, oM, oF, oL, rg, ci, seval, resAll, resL, resV, blkAt, undef, fillV, evParts, footOp, wrOp, chk, disj] | split | ((first | apply ck_call | apply cfk_call); (first | (apply call_pure (rrightV_C v) cll cl)))))
      refine out_vb (Eq.symm (decide_eq_false ?_))
      rintro ⟨_, h⟩
      have := (h i hil).1
      rw [← hv] at this
      exact hr this
  · obtain rfl : i = r.l.length := by omega
    have d1 : ¬ ((r.l.length : Nat) : Int) < r.l.length := by omega
    (repeat' (first | simp (maxSteps := 2000000) -implicitDefEqProofs only [A_clavigerref6_Rising_L0, K_clavigerref6_Rising_L0, d1, len_lst, rk_ext, fk_ext, sm_c, sm_a, numI_len, lr_api, lr, lr2, oO, oN, oG, oNG, oM, oF, oL, rg, ci, seval, resAll, resL, resV, blkAt, undef, fillV, evParts, footOp, wrOp, chk, disj] | split))
    exact out_vb (Eq.symm (decide_eq_true ⟨by omega, hok⟩))
end Go.Proofs.YtfpoebmihjbknaaGreat.VA

/- Values are read: the document's reader. -/
set_option linter.unusedVariables false
set_option linter.unusedSimpArgs false
set_option maxRecDepth 100000
namespace Go.Proofs.YtfpoebmihjbknaaGreat.VA
open Go
attribute [local irreducible] WK NK XK TK RK FK CK CFK CallRel C
def okRd (r : Rd) : Prop := r.bad = true → r.b = .nil
theorem ok0 (b : Row) : okRd (rd0 b) := fun h => by simp [rd0] at h
theorem ok_drop (n : Nat) (r : Rd) (h : okRd r) : okRd (dropS n r) := by
  unfold dropS
  split
  · intro _; rfl
  · intro hb
    have := h hb
    simp only [] at hb ⊢
    rw [this]; rfl
theorem bad_drop (n : Nat) (hn : 1 ≤ n) (r : Rd) (h : okRd r) (hb : r.bad = true) : dropS n r = ⟨.nil, true⟩ ∧ takeL n r.b.l = List.replicate n 0 := by
  have e := h hb
  unfold dropS takeL
  rw [e, row_l_nil, if_pos (by rw [List.length_nil]; omega), if_pos (by rw [List.length_nil]; omega)]
  exact ⟨rfl, rfl⟩
theorem cut_take (n : Nat) (r : Row) (h : ¬ r.l.length < n) (hn : 1 ≤ n) : (r.cut 0 n).l = takeL n r.l := by
  rw [cut_l, takeL, if_neg h, List.drop_zero, Nat.sub_zero]
theorem rtake_C (n : Nat) (h1 : 1 ≤ n) (h2 : n ≤ 1000000) (r : Rd) (hr : okRd r) : C Tryz.prog 55 [.ref 0 0, vi .i64 n] [cRd r] (rowV (.of (takeL n r.b.l))) [some (cRd (dropS n r))] := by
  refine C_of mixed Tryz.func55 A_clavigerref6_Reader_Take_ok A_clavigerref6_Reader_Take_res _ A_clavigerref6_Reader_Take_nt ?_
  have d0 : (0 : Int) ≤ n := by omega
  have d1 : (n : Int) ≤ 140737488355328 := by omega
  by_cases hb : r.bad = true
  · obtain ⟨e1, e2⟩ := bad_drop n h1 r hr hb
    rw [e1, e2]
    (repeat' (first | simp (maxSteps := 2000000) -implicitDefEqProofs only [A_clavigerref6_Reader_Take, hb, d0, d1, zc_z1, len_lst, rk_ext, fk_ext, sm_c, sm_a, numI_len, lr_api, lr, lr2, oO, oN, oG, oNG, oM, oF, oL, rg, ci, seval, resAll, resL, resV, blkAt, undef, fillV, evParts, footOp, wrOp, chk, disj] | split))
    exact out_updS rfl rfl (by simp) (by decide) (cRd_closed _)
  have hb' : r.bad = false := by simpa using hb
  by_cases h : r.b.l.length < n
  · have c1 : (n : Int) > r.b.l.length := by omega
    have c2 : (r.b.l.length : Int) < n := by omega
    rw [takeL, if_pos h, dropS, if_pos h]
    (repeat' (first | simp (maxSteps := 2000000) -implicitDefEqProofs only [A_clavigerref6_Reader_Take, hb', c1, c2, d0, d1, zc_z1, len_lst, rk_ext, fk_ext, sm_c, sm_a, numI_len, lr_api, lr, lr2, oO, oN, oG, oNG, oM, oF, oL, rg, ci, seval, resAll, resL, resV, blkAt, undef, fillV, evParts, footOp, wrOp, chk, disj] | split))
    exact out_updS rfl rfl (by simp) (by decide) (cRd_closed _)
  · have c1 : ¬ (n : Int) > r.b.l.length := by omega
    have c2 : (n : Int) ≤ r.b.l.length := by omega
    have c3 : ¬ (r.b.l.length : Int) < n := by omega
    have e := cut_take n r.b h h1
    have hl := takeL_len n r.b.l
    have hle : n ≤ 140737488355328 := by omega
    rw [dropS, if_neg h]
    (repeat' (first | simp (maxSteps := 2000000) -implicitDefEqProofs only [A_clavigerref6_Reader_Take, hb', c1, c2, c3, d0, d1, e, hl, hle, len_lst, rk_ext, fk_ext, sm_c, sm_a, numI_len, lr_api, lr, lr2, oO, oN, oG, oNG, oM, oF, oL, rg, ci, seval, resAll, resL, resV, blkAt, undef, fillV, evParts, footOp, wrOp, chk, disj] | split))
    exact out_updS rfl rfl (by simp [hl]) (by decide) (cRd_closed _)
theorem rtake0_C (r : Rd) (hr : okRd r) : C Tryz.prog 55 [.ref 0 0, vi .i64 0] [cRd r] (rowV (.of [])) [some (cRd r)] := by
  refine C_of mixed Tryz.func55 A_clavigerref6_Reader_Take_ok A_clavigerref6_Reader_Take_res _ A_clavigerref6_Reader_Take_nt ?_
  by_cases hb : r.bad = true
  · have e : r = ⟨.nil, true⟩ := by
      have := hr hb
      cases r; simp_all
    subst e
    (repeat' (first | simp (maxSteps := 2000000) -implicitDefEqProofs only [A_clavigerref6_Reader_Take, len_lst, rk_ext, fk_ext, sm_c, sm_a, numI_len, lr_api, lr, lr2, oO, oN, oG, oNG, oM, oF, oL, rg, ci, seval, resAll, resL, resV, blkAt, undef, fillV, evParts, footOp, wrOp, chk, disj] | split))
    exact out_updS rfl rfl (by simp) (by decide) (cRd_closed _)
  obtain ⟨b, bad⟩ := r
  have hb' : bad = false := by simpa using hb
  subst hb'
  have c1 : ¬ (0 : Int) > b.l.length := by omega
  have c2 : (0 : Int) ≤ b.l.length := by omega
  have c3 : ¬ (b.l.length : Int) < 0 := by omega
  have e : (b.cut 0 0).l = [] := by rw [cut_l]; simp
  (repeat' (first | simp (maxSteps := 2000000) -implicitDefEqProofs only [A_clavigerref6_Reader_Take, c1, c2, c3, e, cut_all, len_lst, rk_ext, fk_ext, sm_c, sm_a, numI_len, lr_api, lr, lr2, oO, oN, oG, oNG, oM, oF, oL, rg, ci, seval, resAll, resL, resV, blkAt, undef, fillV, evParts, footOp, wrOp, chk, disj] | split))
  exact out_updS rfl rfl (by simp) (by decide) (cRd_closed _)
theorem rbyte_C (r : Rd) (hr : okRd r) : C Tryz.prog 24 [.ref 0 0] [cRd r] (vi .i64 (oneV r)) [some (cRd (dropS 1 r))] := by
  refine C_of mixed Tryz.func24 A_clavigerref6_Reader_Byte_ok A_clavigerref6_Reader_Byte_res _ A_clavigerref6_Reader_Byte_nt ?_
  have hl := takeL_len 1 r.b.l
  (repeat' (first | simp (maxSteps := 2000000) -implicitDefEqProofs only [A_clavigerref6_Reader_Byte, hl, rd_bs, w64_b, len_lst, rk_ext, fk_ext, sm_c, sm_a, numI_len, lr_api, lr, lr2, oO, oN, oG, oNG, oM, oF, oL, rg, ci, seval, resAll, resL, resV, blkAt, undef, fillV, evParts, footOp, wrOp, chk, disj] | split | ((first | apply ck_call | apply cfk_call); (first | (apply call_upd (rtake_C 1 (by decide) (by decide) r hr) rfl cll cll cll cl)))))
  exact out_updE rfl rfl rfl (cRd_closed _) trivial
theorem rnumber_walk (r : Rd) (hr : okRd r) : C Tryz.prog 25 [.ref 0 0] [cRd r] (vi .u64 (numB (takeL 8 r.b.l))) [some (cRd (dropS 8 r))] := by
  refine C_of mixed Tryz.func25 A_clavigerref6_Reader_Number_ok A_clavigerref6_Reader_Number_res _ A_clavigerref6_Reader_Number_nt ?_
  have hl := takeL_len 8 r.b.l
  (repeat' (first | simp (maxSteps := 2000000) -implicitDefEqProofs only [A_clavigerref6_Reader_Number, hl, len_lst, rk_ext, fk_ext, sm_c, sm_a, numI_len, lr_api, lr, lr2, oO, oN, oG, oNG, oM, oF, oL, rg, ci, seval, resAll, resL, resV, blkAt, undef, fillV, evParts, footOp, wrOp, chk, disj] | split | ((first | apply ck_call | apply cfk_call); (first | (apply call_upd (rtake_C 8 (by decide) (by decide) r hr) rfl cll cll cll cl)))))
  generalize takeL 8 r.b.l = l at hl ⊢
  refine wk_loop (fun m S H => ∃ i : Nat, i ≤ 8 ∧ m = 8 - i ∧ S = (.ref 0 0 :: .dead :: .dead :: rowV (.of l) :: vi .u64 (numB (l.take i)) :: vi .i64 i :: .dead :: .dead :: .dead :: .dead :: .dead :: .dead :: .dead :: .dead :: .dead :: .dead :: .dead :: .dead :: .dead :: .dead :: .dead :: []) ∧ H = [some (cRd (dropS 8 r))]) 8 ⟨0, Nat.zero_le _, rfl, rfl, rfl⟩ (by refine .ren _ _ _ [0] (by decide) (by intro k h; first | exact absurd h (Nat.not_lt_zero k) | (simp at h; done) | (rcases k with _ | _ | _ | k <;> first | rfl | (exfalso; omega) | (simp at h; done))) ?_ ?_ <;> simp [KeepS, KeepH, ArgRel, ArgRelL, argL_cl, arg_cl, row_l_of, row_l_nil, bn_len, blkAt, numB_nil]) ?_
  rintro m S H ⟨i, hi, rfl, rfl, rfl⟩ J hJ
  have d0 : (0 : Int) ≤ i := by omega
  by_cases hi8 : i < 8
  · have d1 : (i : Int) < 8 := by omega
    have w1 : IntKind.i64.wrap ((i : Int) + 1) = ((i + 1 : Nat) : Int) := by rw [wrap_id _ (by omega) (by omega)]; omega
    have e : l.take (i + 1) = l.take i ++ [l.getD i 0] := by rw [List.take_add_one]; simp [List.getElem?_eq_getElem (show i < l.length by omega)]
    have lt := numB_lt (l.take i)
    have hlt : numB (l.take i) * 256 + 256 ≤ 18446744073709551616 := by
      have h7 : (256 : Nat) ^ (l.take i).length ≤ 256 ^ 7 := Nat.pow_le_pow_right (by decide) (by rw [List.length_take]; omega)
      have : (256 : Nat) ^ 7 = 72057594037927936 := by decide
      omega
    have hb := (l.getD i 0).toNat_lt
    have wb : IntKind.u64.wrap ((l.getD i 0).toNat : Int) = ((l.getD i 0).toNat : Int) := IntWalk.u64_in _ ⟨by omega, by omega⟩
    have wm : IntKind.u64.wrap ((numB (l.take i) : Int) * 256) = ((numB (l.take i) * 256 : Nat) : Int) := by rw [IntWalk.u64_in _ ⟨by omega, by omega⟩]; omega
    have wa : IntKind.u64.wrap (((numB (l.take i) * 256 : Nat) : Int) + ((l.getD i 0).toNat : Int)) = ((numB (l.take (i + 1)) : Nat) : Int) := by
      rw [e, numB_snoc, IntWalk.u64_in _ ⟨by omega, by omega⟩]; omega
    (repeat' (first | simp (maxSteps := 2000000) -implicitDefEqProofs only [A_clavigerref6_Reader_Number_L0, d0, d1, hl, w1, wb, wm, wa, hi8, rd_bs_drop, len_lst, rk_ext, fk_ext, sm_c, sm_a, numI_len, lr_api, lr, lr2, oO, oN, oG, oNG, oM, oF, oL, rg, ci, seval, resAll, resL, resV, blkAt, undef, fillV, evParts, footOp, wrOp, chk, disj] | split))
    exact hJ _ _ _ _ _ (by omega) ⟨i + 1, by omega, rfl, rfl, rfl⟩ (by refine .ren _ _ _ [0] (by decide) (by intro k h; first | exact absurd h (Nat.not_lt_zero k) | (simp at h; done) | (rcases k with _ | _ | _ | k <;> first | rfl | (exfalso; omega) | (simp at h; done))) ?_ ?_ <;> simp [KeepS, KeepH, ArgRel, ArgRelL, argL_cl, arg_cl, row_l_of, row_l_nil, bn_len, blkAt])
  · obtain rfl : i = 8 := by omega
    rw [List.take_of_length_le (by omega)]
    (repeat' (first | simp (maxSteps := 2000000) -implicitDefEqProofs only [A_clavigerref6_Reader_Number_L0, K_clavigerref6_Reader_Number_L0, len_lst, rk_ext, fk_ext, sm_c, sm_a, numI_len, lr_api, lr, lr2, oO, oN, oG, oNG, oM, oF, oL, rg, ci, seval, resAll, resL, resV, blkAt, undef, fillV, evParts, footOp, wrOp, chk, disj] | split))
    exact out_updE rfl rfl rfl (cRd_closed _) trivial
theorem rid_C (r : Rd) (hr : okRd r) : C Tryz.prog 73 [.ref 0 0] [cRd r] (.agg (dg (bnT 4 r.b.l))) [some (cRd (dropS 4 r))] := by
  refine C_of mixed Tryz.func73 A_clavigerref6_Reader_ID_ok A_clavigerref6_Reader_ID_res _ A_clavigerref6_Reader_ID_nt ?_
  have hl := takeL_len 4 r.b.l
  have e : bs (takeL 4 r.b.l) = dg (bnT 4 r.b.l) := rfl
  have e2 : ∀ d : Bn 4, splice (dg d) 0 (dg (bnT 4 r.b.l)) = dg (bnT 4 r.b.l) := fun d => sp_all _ _ (by rw [dg_len, dg_len])
  have e3 : (dg (bnT 4 r.b.l)).take 4 = dg (bnT 4 r.b.l) := List.take_of_length_le (by rw [dg_len]; omega)
  (repeat' (first | simp (maxSteps := 2000000) -implicitDefEqProofs only [A_clavigerref6_Reader_ID, Nat.min_self, hl, e, e2, e3, len_lst, rk_ext, fk_ext, sm_c, sm_a, numI_len, lr_api, lr, lr2, oO, oN, oG, oNG, oM, oF, oL, rg, ci, seval, resAll, resL, resV, blkAt, undef, fillV, evParts, footOp, wrOp, chk, disj] | split | ((first | apply ck_call | apply cfk_call); (first | (apply call_upd (rtake_C 4 (by decide) (by decide) r hr) rfl cll cll cll cl)))))
  exact out_updE rfl rfl rfl (cRd_closed _) (dg_closed _)
theorem rdigest_C (r : Rd) (hr : okRd r) : C Tryz.prog 74 [.ref 0 0] [cRd r] (.agg (dg (bnT 16 r.b.l))) [some (cRd (dropS 16 r))] := by
  refine C_of mixed Tryz.func74 A_clavigerref6_Reader_Digest_ok A_clavigerref6_Reader_Digest_res _ A_clavigerref6_Reader_Digest_nt ?_
  have hl := takeL_len 16 r.b.l
  have e : bs (takeL 16 r.b.l) = dg (bnT 16 r.b.l) := rfl
  have e2 : ∀ d : Bn 16, splice (dg d) 0 (dg (bnT 16 r.b.l)) = dg (bnT 16 r.b.l) := fun d => sp_all _ _ (by rw [dg_len, dg_len])
  have e3 : (dg (bnT 16 r.b.l)).take 16 = dg (bnT 16 r.b.l) := List.take_of_length_le (by rw [dg_len]; omega)
  (repeat' (first | simp (maxSteps := 2000000) -implicitDefEqProofs only [A_clavigerref6_Reader_Digest, Nat.min_self, hl, e, e2, e3, len_lst, rk_ext, fk_ext, sm_c, sm_a, numI_len, lr_api, lr, lr2, oO, oN, oG, oNG, oM, oF, oL, rg, ci, seval, resAll, resL, resV, blkAt, undef, fillV, evParts, footOp, wrOp, chk, disj] | split | ((first | apply ck_call | apply cfk_call); (first | (apply call_upd (rtake_C 16 (by decide) (by decide) r hr) rfl cll cll cll cl)))))
  exact out_updE rfl rfl rfl (cRd_closed _) (dg_closed _)
end Go.Proofs.YtfpoebmihjbknaaGreat.VA

/- A vault, a request, a reply are read: the document's. -/
set_option linter.unusedVariables false
set_option linter.unusedSimpArgs false
set_option maxRecDepth 100000
namespace Go.Proofs.YtfpoebmihjbknaaGreat.VA
open Go
attribute [local irreducible] WK NK XK TK RK FK CK CFK CallRel C
def rtextR (r : Rd) : Row := .of (takeL (oneV r).toNat (dropS 1 r).b.l)
theorem ok_text (r : Rd) (h : okRd r) : okRd (textS r) := by
  unfold textS
  split
  · exact ok_drop 1 r h
  · exact ok_drop _ _ (ok_drop 1 r h)
theorem textR_eq (r : Rd) (h : (textS r).bad = false) : textR r = rtextR r := by
  have hr := oneV_range r
  unfold textS at h
  unfold textR rtextR
  by_cases h0 : oneV r = 0
  · rw [if_pos h0] at h ⊢
    rw [h0]
    unfold dropS at h ⊢
    split at h
    · simp at h
    · rename_i hl
      rw [if_neg hl]
      cases hb : r.b with
      | nil => rw [hb] at hl; simp [Row.l] at hl
      | of l => simp [Row.cut, takeL]
  · rw [if_neg h0]
theorem rtakeT_C (r : Rd) (h : okRd r) : C Tryz.prog 55 [.ref 0 0, vi .i64 (oneV r)] [cRd (dropS 1 r)] (rowV (rtextR r)) [some (cRd (textS r))] := by
  have hr := oneV_range r
  have h1 := ok_drop 1 r h
  unfold rtextR textS
  by_cases h0 : oneV r = 0
  · rw [if_pos h0, h0]
    have e : takeL (0 : Int).toNat (dropS 1 r).b.l = [] := by simp [takeL]
    rw [e]
    exact rtake0_C _ h1
  · rw [if_neg h0]
    obtain ⟨n, hn⟩ : ∃ n : Nat, oneV r = n := ⟨(oneV r).toNat, by omega⟩
    rw [hn, Int.toNat_natCast]
    exact rtake_C n (by omega) (by omega) _ h1
def rvltS (r : Rd) : VltS :=
  let s1 := dropS 4 r
  let s2 := dropS 8 s1
  let s3 := dropS 1 s2
  let s4 := dropS 1 s3
  let s5 := dropS 1 s4
  let s6 := dropS 16 s5
  let s7 := dropS 16 s6
  ⟨s1, s2, s3, s4, s5, s6, s7, textS s7⟩
def rgone (f : Int) : Bool := f.tmod 2 == 1
def rwiped (f : Int) : Bool := (IntKind.i64.wrap (f.tdiv 2)).tmod 2 == 1
def rvltV (r : Rd) : Vlt :=
  ⟨bnT 4 r.b.l, numB (takeL 8 (rvltS r).s1.b.l), bnT 16 (rvltS r).s5.b.l, rtextR (rvltS r).s7, oneV (rvltS r).s3, oneV (rvltS r).s4, bnT 16 (rvltS r).s6.b.l, rgone (oneV (rvltS r).s2), rwiped (oneV (rvltS r).s2)⟩
def rvltOK (r : Rd) : Prop := (rvltS r).s8.bad = false ∧ oneV (rvltS r).s2 ≤ 3 ∧ RightV (rvltV r)
instance (r : Rd) : Decidable (rvltOK r) := by unfold rvltOK; infer_instance
attribute [local irreducible] dropS textS textR rtextR oneV takeL bnT numB RightV RightQ RightP badF rgone rwiped okRd
theorem ok_vlt (r : Rd) (h : okRd r) : okRd (rvltS r).s1 ∧ okRd (rvltS r).s2 ∧ okRd (rvltS r).s3 ∧ okRd (rvltS r).s4 ∧ okRd (rvltS r).s5 ∧ okRd (rvltS r).s6 ∧ okRd (rvltS r).s7 ∧ okRd (rvltS r).s8 := by
  have h1 := ok_drop 4 r h
  have h2 := ok_drop 8 _ h1
  have h3 := ok_drop 1 _ h2
  have h4 := ok_drop 1 _ h3
  have h5 := ok_drop 1 _ h4
  have h6 := ok_drop 16 _ h5
  have h7 := ok_drop 16 _ h6
  exact ⟨h1, h2, h3, h4, h5, h6, h7, ok_text _ h7⟩
set_option maxHeartbeats 4000000 in
theorem rvault_C (r : Rd) (hr0 : okRd r) : C Tryz.prog 53 [.ref 0 0] [cRd r] (if rvltOK r then .tup [.agg (cVlt (rvltV r)), vb true] else .tup [.agg (cVlt Vlt.zero), vb false]) [some (cRd (rvltS r).s8)] := by
  refine C_of mixed Tryz.func53 A_clavigerref6_Reader_Vault_ok A_clavigerref6_Reader_Vault_res _ A_clavigerref6_Reader_Vault_nt ?_
  have hx : rvltV r = ⟨bnT 4 r.b.l, numB (takeL 8 (rvltS r).s1.b.l), bnT 16 (rvltS r).s5.b.l, rtextR (rvltS r).s7, oneV (rvltS r).s3, oneV (rvltS r).s4, bnT 16 (rvltS r).s6.b.l, rgone (oneV (rvltS r).s2), rwiped (oneV (rvltS r).s2)⟩ := rfl
  have hok : rvltOK r = ((rvltS r).s8.bad = false ∧ oneV (rvltS r).s2 ≤ 3 ∧ RightV (rvltV r)) := rfl
  obtain ⟨k1, k2, k3, k4, k5, k6, k7, k8⟩ := ok_vlt r hr0
  have c1 : C Tryz.prog 73 [.ref 0 0] [cRd r] (.agg (dg (bnT 4 r.b.l))) [some (cRd (rvltS r).s1)] := rid_C r hr0
  have c2 : C Tryz.prog 25 [.ref 0 0] [cRd (rvltS r).s1] (vi .u64 (numB (takeL 8 (rvltS r).s1.b.l))) [some (cRd (rvltS r).s2)] := rnumber_walk _ k1
  have c3 : C Tryz.prog 24 [.ref 0 0] [cRd (rvltS r).s2] (vi .i64 (oneV (rvltS r).s2)) [some (cRd (rvltS r).s3)] := rbyte_C _ k2
  have c4 : C Tryz.prog 24 [.ref 0 0] [cRd (rvltS r).s3] (vi .i64 (oneV (rvltS r).s3)) [some (cRd (rvltS r).s4)] := rbyte_C _ k3
  have c5 : C Tryz.prog 24 [.ref 0 0] [cRd (rvltS r).s4] (vi .i64 (oneV (rvltS r).s4)) [some (cRd (rvltS r).s5)] := rbyte_C _ k4
  have c6 : C Tryz.prog 74 [.ref 0 0] [cRd (rvltS r).s5] (.agg (dg (bnT 16 (rvltS r).s5.b.l))) [some (cRd (rvltS r).s6)] := rdigest_C _ k5
  have c7 : C Tryz.prog 74 [.ref 0 0] [cRd (rvltS r).s6] (.agg (dg (bnT 16 (rvltS r).s6.b.l))) [some (cRd (rvltS r).s7)] := rdigest_C _ k6
  have c8 := rbyte_C _ k7
  have c9 : C Tryz.prog 55 [.ref 0 0, vi .i64 (oneV (rvltS r).s7)] [cRd (dropS 1 (rvltS r).s7)] (rowV (rtextR (rvltS r).s7)) [some (cRd (rvltS r).s8)] := rtakeT_C _ k7
  have hf := oneV_range (rvltS r).s2
  simp only [hok]
  clear hok k1 k2 k3 k4 k5 k6 k7 k8
  generalize rvltV r = X at *
  generalize rvltS r = z at *
  obtain ⟨s1, s2, s3, s4, s5, s6, s7, s8⟩ := z
  simp only [] at hx c1 c2 c3 c4 c5 c6 c7 c8 c9 hf ⊢
  generalize bnT 4 r.b.l = xid at *
  generalize numB (takeL 8 s1.b.l) = xgen at *
  generalize bnT 16 s5.b.l = xpin at *
  generalize rtextR s7 = xsec at *
  generalize oneV s3 = xlim at *
  generalize oneV s4 = xus at *
  generalize bnT 16 s6.b.l = xown at *
  generalize oneV s2 = f at *
  generalize oneV s7 = n at *
  generalize dropS 1 s7 = s7' at *
  obtain ⟨g, hg⟩ : ∃ g, g = rgone f := ⟨_, rfl⟩
  obtain ⟨w, hw⟩ : ∃ w, w = rwiped f := ⟨_, rfl⟩
  rw [← hg, ← hw] at hx
  have eg : (f.tmod 2 == 1) = g := by rw [hg]; unfold rgone; rfl
  have ew : ((IntKind.i64.wrap (f.tdiv 2)).tmod 2 == 1) = w := by rw [hw]; unfold rwiped; rfl
  by_cases hb : s8.bad = true
  · rw [if_neg (fun h => by rw [hb] at h; exact absurd h.1 (by decide))]
    (repeat' (first | simp (maxSteps := 2000000) -implicitDefEqProofs only [A_clavigerref6_Reader_Vault, hb, eg, ew, len_lst, rk_ext, fk_ext, sm_c, sm_a, numI_len, lr_api, lr, lr2, oO, oN, oG, oNG, oM, oF, oL, rg, ci, seval, resAll, resL, resV, blkAt, undef, fillV, evParts, footOp, wrOp, chk, disj] | split | ((first | apply ck_call | apply cfk_call); (first | (apply call_upd (c1) rfl cll cll cll cl) | (apply call_upd (c2) rfl cll cll cll cl) | (apply call_upd (c3) rfl cll cll cll cl) | (apply call_upd (c4) rfl cll cll cll cl) | (apply call_upd (c5) rfl cll cll cll cl) | (apply call_upd (c6) rfl cll cll cll cl) | (apply call_upd (c7) rfl cll cll cll cl) | (apply call_upd (c8) rfl cll cll cll cl) | (apply call_upd (c9) rfl cll cll cll cl)))))
    all_goals (refine out_updE rfl rfl rfl (cRd_closed _) ?_; simp [Closed, ClosedL, cVlt_closed])
  have hb' : s8.bad = false := by simpa using hb
  by_cases h3 : f > 3
  · rw [if_neg (fun h => by omega)]
    (repeat' (first | simp (maxSteps := 2000000) -implicitDefEqProofs only [A_clavigerref6_Reader_Vault, hb', h3, eg, ew, len_lst, rk_ext, fk_ext, sm_c, sm_a, numI_len, lr_api, lr, lr2, oO, oN, oG, oNG, oM, oF, oL, rg, ci, seval, resAll, resL, resV, blkAt, undef, fillV, evParts, footOp, wrOp, chk, disj] | split | ((first | apply ck_call | apply cfk_call); (first | (apply call_upd (c1) rfl cll cll cll cl) | (apply call_upd (c2) rfl cll cll cll cl) | (apply call_upd (c3) rfl cll cll cll cl) | (apply call_upd (c4) rfl cll cll cll cl) | (apply call_upd (c5) rfl cll cll cll cl) | (apply call_upd (c6) rfl cll cll cll cl) | (apply call_upd (c7) rfl cll cll cll cl) | (apply call_upd (c8) rfl cll cll cll cl) | (apply call_upd (c9) rfl cll cll cll cl)))))
    all_goals (refine out_updE rfl rfl rfl (cRd_closed _) ?_; simp [Closed, ClosedL, cVlt_closed])
  by_cases hr : RightV X
  · rw [if_pos ⟨hb', by omega, hr⟩]
    have rv := rrightV_C X
    subst hx
    (repeat' (first | simp (maxSteps := 2000000) -implicitDefEqProofs only [A_clavigerref6_Reader_Vault, hb', h3, hr, eg, ew, len_lst, rk_ext, fk_ext, sm_c, sm_a, numI_len, lr_api, lr, lr2, oO, oN, oG, oNG, oM, oF, oL, rg, ci, seval, resAll, resL, resV, blkAt, undef, fillV, evParts, footOp, wrOp, chk, disj] | split | ((first | apply ck_call | apply cfk_call); (first | (apply call_upd (c1) rfl cll cll cll cl) | (apply call_upd (c2) rfl cll cll cll cl) | (apply call_upd (c3) rfl cll cll cll cl) | (apply call_upd (c4) rfl cll cll cll cl) | (apply call_upd (c5) rfl cll cll cll cl) | (apply call_upd (c6) rfl cll cll cll cl) | (apply call_upd (c7) rfl cll cll cll cl) | (apply call_upd (c8) rfl cll cll cll cl) | (apply call_upd (c9) rfl cll cll cll cl) | (apply call_pure (rv) cll cl)))))
    all_goals (refine out_updE rfl rfl rfl (cRd_closed _) ?_; simp [Closed, ClosedL, cVlt_closed])
  · rw [if_neg (fun h => hr h.2.2)]
    have rv := rrightV_C X
    subst hx
    (repeat' (first | simp (maxSteps := 2000000) -implicitDefEqProofs only [A_clavigerref6_Reader_Vault, hb', h3, hr, eg, ew, len_lst, rk_ext, fk_ext, sm_c, sm_a, numI_len, lr_api, lr, lr2, oO, oN, oG, oNG, oM, oF, oL, rg, ci, seval, resAll, resL, resV, blkAt, undef, fillV, evParts, footOp, wrOp, chk, disj] | split | ((first | apply ck_call | apply cfk_call); (first | (apply call_upd (c1) rfl cll cll cll cl) | (apply call_upd (c2) rfl cll cll cll cl) | (apply call_upd (c3) rfl cll cll cll cl) | (apply call_upd (c4) rfl cll cll cll cl) | (apply call_upd (c5) rfl cll cll cll cl) | (apply call_upd (c6) rfl cll cll cll cl) | (apply call_upd (c7) rfl cll cll cll cl) | (apply call_upd (c8) rfl cll cll cll cl) | (apply call_upd (c9) rfl cll cll cll cl) | (apply call_pure (rv) cll cl)))))
    all_goals (refine out_updE rfl rfl rfl (cRd_closed _) ?_; simp [Closed, ClosedL, cVlt_closed])
end Go.Proofs.YtfpoebmihjbknaaGreat.VA

/- Requests, replies are read: the document's. -/
set_option linter.unusedVariables false
set_option linter.unusedSimpArgs false
set_option maxRecDepth 100000
namespace Go.Proofs.YtfpoebmihjbknaaGreat.VA
open Go
attribute [local irreducible] WK NK XK TK RK FK CK CFK CallRel C
attribute [local irreducible] dropS textS textR rtextR oneV takeL bnT numB RightV RightQ RightP badF rgone rwiped okRd rd0
end Go.Proofs.YtfpoebmihjbknaaGreat.VA

/- Vaults, requests, replies are written: the document's. -/
set_option linter.unusedVariables false
set_option linter.unusedSimpArgs false
set_option maxRecDepth 100000
namespace Go.Proofs.YtfpoebmihjbknaaGreat.VA
open Go
attribute [local irreducible] WK NK XK TK RK FK CK CFK CallRel C
theorem rnumberI_C (i : Int) (h : 0 ≤ i) (h2 : i < 18446744073709551616) : C Tryz.prog 36 [vi .u64 i] [] (rowV (.of (numI i))) [] := by
  obtain ⟨n, rfl⟩ : ∃ n : Nat, i = n := ⟨i.toNat, by omega⟩
  exact C_shut (rnumber_C n (by omega)) rfl
theorem sm_bn {k : Nat} (d : Bn k) (n : Nat) : Sm d.1 n = (k + n ≤ 140737488355328) := by simp only [Sm, bn_len]
theorem sm_numI (i : Int) (n : Nat) : Sm (numI i) n = (8 + n ≤ 140737488355328) := by simp only [Sm, numI_len]
theorem slB_fld {cells : List V} {off k : Nat} {d : Bn k} (h : rd (some k) cells off = some (.agg (dg d))) (id : Nat) : slB 1 id off k 1 cells = some (k, bs d.1) := by
  unfold rd at h
  unfold slB
  simp only at h
  split at h
  · rename_i hc
    rw [if_pos ⟨rfl, by omega⟩, Nat.mul_one]
    have := Option.some.inj h
    injection this with this
    rw [this, dg]
  · cases h
theorem rputVO_C (x : Vlt) (hw : x.wiped = true → x.gone = true) (g0 : 0 ≤ x.gen) (g1 : x.gen < 18446744073709551616) (hs : x.secret.l.length ≤ 8192) : C Tryz.prog 43 [.agg (cVlt x)] [] (.sref 0 0 (putV x).length 1) [some (bs (putV x))] := by
  refine C_of mixed Tryz.func43 A_clavigerref6_Vault_ok A_clavigerref6_Vault_res _ A_clavigerref6_Vault_nt ?_
  have d0 : (0 : Int) ≤ x.secret.l.length := by omega
  have hz : 4 + (8 + (3 + (16 + (16 + (1 + x.secret.l.length))))) ≤ 140737488355328 := by omega
  have e : putV x = x.id.1 ++ numI x.gen ++ [flagF x, by8 (IntKind.u8.wrap x.limit), by8 (IntKind.u8.wrap x.used)] ++ x.pin.1 ++ x.owner.1 ++ [UInt8.ofNat x.secret.l.length] ++ x.secret.l := by
    simp [putV, vltRows, joinF, b8, Row.l]
  rw [e]
  have f1 := slB_fld (rd_Vlt_id x)
  have f2 := slB_fld (rd_Vlt_pin x)
  have f3 := slB_fld (rd_Vlt_owner x)
  by_cases h1 : x.gone = true
  · by_cases h2 : x.wiped = true
    · have ef : flagF x = by8 3 := by simp [flagF, h1, h2]
      rw [ef]
      (repeat' (first | simp (maxSteps := 2000000) -implicitDefEqProofs only [A_clavigerref6_Vault, d0, h1, h2, hz, sm_bn, sm_numI, bn_len, f1, f2, f3, len_lst, rk_ext, fk_ext, sm_c, sm_a, numI_len, lr_api, lr, lr2, oO, oN, oG, oNG, oM, oF, oL, rg, ci, seval, resAll, resL, resV, blkAt, undef, fillV, evParts, footOp, wrOp, chk, disj] | split | ((first | apply ck_call | apply cfk_call); (first | (apply call_pure (rnumberI_C x.gen g0 g1) cll cl)))))
      exact out_row rfl (bs_closed _)
    · have ef : flagF x = by8 1 := by simp [flagF, h1, h2]
      rw [ef]
      (repeat' (first | simp (maxSteps := 2000000) -implicitDefEqProofs only [A_clavigerref6_Vault, d0, h1, h2, hz, sm_bn, sm_numI, bn_len, f1, f2, f3, len_lst, rk_ext, fk_ext, sm_c, sm_a, numI_len, lr_api, lr, lr2, oO, oN, oG, oNG, oM, oF, oL, rg, ci, seval, resAll, resL, resV, blkAt, undef, fillV, evParts, footOp, wrOp, chk, disj] | split | ((first | apply ck_call | apply cfk_call); (first | (apply call_pure (rnumberI_C x.gen g0 g1) cll cl)))))
      exact out_row rfl (bs_closed _)
  · have h2 : ¬ x.wiped = true := fun h => h1 (hw h)
    have ef : flagF x = by8 0 := by simp [flagF, h1, h2]
    rw [ef]
    (repeat' (first | simp (maxSteps := 2000000) -implicitDefEqProofs only [A_clavigerref6_Vault, d0, h1, h2, hz, sm_bn, sm_numI, bn_len, f1, f2, f3, len_lst, rk_ext, fk_ext, sm_c, sm_a, numI_len, lr_api, lr, lr2, oO, oN, oG, oNG, oM, oF, oL, rg, ci, seval, resAll, resL, resV, blkAt, undef, fillV, evParts, footOp, wrOp, chk, disj] | split | ((first | apply ck_call | apply cfk_call); (first | (apply call_pure (rnumberI_C x.gen g0 g1) cll cl)))))
    exact out_row rfl (bs_closed _)
theorem rputV_C (x : Vlt) (hw : x.wiped = true → x.gone = true) (g0 : 0 ≤ x.gen) (g1 : x.gen < 18446744073709551616) (hs : x.secret.l.length ≤ 8192) : C Tryz.prog 43 [.agg (cVlt x)] [] (rowV (.of (putV x))) [] := C_shut (rputVO_C x hw g0 g1 hs) rfl
end Go.Proofs.YtfpoebmihjbknaaGreat.VA

/- Records are written: the document's. -/
set_option linter.unusedVariables false
set_option linter.unusedSimpArgs false
set_option maxRecDepth 100000
namespace Go.Proofs.YtfpoebmihjbknaaGreat.VA
open Go
attribute [local irreducible] WK NK XK TK RK FK CK CFK CallRel C
theorem right_wg {x : Vlt} (h : RightV x) (hw : x.wiped = true) : x.gone = true := by
  obtain ⟨_, _, h⟩ := h
  split at h
  · assumption
  · rw [h.1] at hw; cases hw
theorem rputVR_C (x : Vlt) (h : RightV x) : C Tryz.prog 43 [.agg (cVlt x)] [] (rowV (.of (putV x))) [] :=
  rputV_C x (right_wg h) (right_gen h) (by have := h.2.1; omega) (by have := right_sec h; omega)
theorem rputRO_C (r : Rec) (h : RightR r) (he : 0 ≤ r.epoch) (he2 : r.epoch < 18446744073709551616) : C Tryz.prog 16 [.agg (cRec r)] [] (.sref 0 0 (putR r).length 1) [some (bs (putR r))] := by
  refine C_of mixed Tryz.func16 A_clavigerref6_Record_ok A_clavigerref6_Record_res _ A_clavigerref6_Record_nt ?_
  have hk := rightR_kind h
  by_cases k1 : r.kind = 1
  · have hv : RightV r.vault := by rcases h with h | ⟨_, h | h | h⟩ <;> first | exact h.2.1 | omega
    have hs : (putV r.vault).length + 1 ≤ 140737488355328 := by have := right_sec hv; rw [putV_len]; omega
    have e : putR r = by8 (IntKind.u8.wrap 1) :: putV r.vault := by rw [putR, if_pos k1, b8, k1]; rfl
    rw [e]
    (repeat' (first | simp (maxSteps := 2000000) -implicitDefEqProofs only [A_clavigerref6_Record, k1, hs, len_lst, rk_ext, fk_ext, sm_c, sm_a, numI_len, lr_api, lr, lr2, oO, oN, oG, oNG, oM, oF, oL, rg, ci, seval, resAll, resL, resV, blkAt, undef, fillV, evParts, footOp, wrOp, chk, disj] | split | ((first | apply ck_call | apply cfk_call); (first | (apply call_pure (rputVR_C r.vault hv) cll cl)))))
    exact out_row rfl (bs_closed _)
  by_cases k2 : r.kind = 2
  · have e : putR r = by8 (IntKind.u8.wrap 2) :: by8 (IntKind.u8.wrap r.shard) :: by8 (IntKind.u8.wrap r.to) :: numI r.epoch := by rw [putR, if_neg k1, if_pos k2, b8, b8, b8, k2]; rfl
    rw [e]
    (repeat' (first | simp (maxSteps := 2000000) -implicitDefEqProofs only [A_clavigerref6_Record, k1, k2, sm_numI, len_lst, rk_ext, fk_ext, sm_c, sm_a, numI_len, lr_api, lr, lr2, oO, oN, oG, oNG, oM, oF, oL, rg, ci, seval, resAll, resL, resV, blkAt, undef, fillV, evParts, footOp, wrOp, chk, disj] | split | ((first | apply ck_call | apply cfk_call); (first | (apply call_pure (rnumberI_C r.epoch he he2) cll cl)))))
    exact out_row rfl (bs_closed _)
  by_cases k3 : r.kind = 3
  · have hr : RisingP r.vaults.l := by rcases h with h | ⟨_, h | h | h⟩ <;> first | exact h.2.2 | omega
    obtain ⟨l4, hvs⟩ := hr
    have d0 : (0 : Int) ≤ r.vaults.l.length := by omega
    have fl := flat_le r.vaults.l fun i hi => (hvs i hi).1
    obtain ⟨pre, hpre⟩ : ∃ pre, pre = by8 (IntKind.u8.wrap 3) :: by8 (IntKind.u8.wrap r.shard) :: (numI r.epoch ++ [UInt8.ofNat r.vaults.l.length]) := ⟨_, rfl⟩
    have lp : pre.length = 11 := by rw [hpre]; simp [numI_len]
    have e : putR r = pre ++ r.vaults.l.flatMap putV := by rw [putR, if_neg k1, if_neg k2, if_pos k3, b8, b8, k3, hpre]; simp
    rw [e]
    (repeat' (first | simp (maxSteps := 2000000) -implicitDefEqProofs only [A_clavigerref6_Record, k1, k2, k3, d0, sm_numI, len_lst, rk_ext, fk_ext, sm_c, sm_a, numI_len, lr_api, lr, lr2, oO, oN, oG, oNG, oM, oF, oL, rg, ci, seval, resAll, resL, resV, blkAt, undef, fillV, evParts, footOp, wrOp, chk, disj] | split | ((first | apply ck_call | apply cfk_call); (first | (apply call_pure (rnumberI_C r.epoch he he2) cll cl)))))
    refine wk_loop (fun m S H => ∃ (i n : Nat) (B : List UInt8), i ≤ r.vaults.l.length ∧ n = B.length ∧ B = pre ++ (r.vaults.l.take i).flatMap putV ∧ m = r.vaults.l.length - i ∧ S = (.dead :: .ref 0 0 :: vnil :: .sref 1 0 n 1 :: vi .i64 i :: .dead :: .dead :: .dead :: .dead :: .dead :: .dead :: .dead :: .dead :: .dead :: .dead :: .dead :: .dead :: .dead :: .dead :: .dead :: .dead :: .dead :: .dead :: .dead :: .dead :: .dead :: .dead :: .dead :: .dead :: .dead :: .dead :: .dead :: .dead :: .dead :: .dead :: .dead :: .dead :: .dead :: .dead :: .dead :: .dead :: .dead :: .dead :: .dead :: .dead :: .dead :: .dead :: .dead :: .dead :: .dead :: .dead :: .dead :: .dead :: .dead :: .dead :: .dead :: .dead :: .dead :: .dead :: .dead :: .dead :: .dead :: .dead :: .dead :: .dead :: .dead :: .dead :: .dead :: .dead :: .dead :: .dead :: .dead :: .dead :: .dead :: .dead :: .dead :: .dead :: []) ∧ H = [some (cRec r), some (bs B)]) r.vaults.l.length ⟨0, 11, by8 3 :: by8 (IntKind.u8.wrap r.shard) :: (numI r.epoch ++ [UInt8.ofNat r.vaults.l.length]), Nat.zero_le _, by rw [show (by8 3 : UInt8) = by8 (IntKind.u8.wrap 3) from rfl, ← hpre, lp], by rw [hpre]; simp; rfl, rfl, rfl, rfl⟩ (by refine .ren _ _ _ [0, 6] (by decide) (by intro k h; first | exact absurd h (Nat.not_lt_zero k) | (simp at h; done) | (rcases k with _ | _ | _ | k <;> first | rfl | (exfalso; omega) | (simp at h; done))) ?_ ?_ <;> simp [KeepS, KeepH, ArgRel, ArgRelL, argL_cl, arg_cl, row_l_of, row_l_nil, bn_len, blkAt, numI_len]) ?_
    rintro m S H ⟨i, n, B, hi, rfl, hB, rfl, rfl, rfl⟩ J hJ
    have c0 : (0 : Int) ≤ i := by omega
    by_cases hil : i < r.vaults.l.length
    · have c1 : (i : Int) < r.vaults.l.length := by omega
      have w1 : IntKind.i64.wrap ((i : Int) + 1) = ((i + 1 : Nat) : Int) := by rw [wrap_id _ (by omega) (by omega)]; omega
      have g1 := rd_flat cVlt_len r.vaults.l i hil
      have hv := (hvs i hil).1
      have e1 : B ++ putV (r.vaults.l.getD i default) = pre ++ (r.vaults.l.take (i + 1)).flatMap putV := by
        rw [hB, take_snoc _ _ hil, List.flatMap_append, List.append_assoc]; simp
      have ft : ((r.vaults.l.take i).flatMap putV).length ≤ 112 * 4 := by
        have := flat_le (r.vaults.l.take i) fun j hj => by
          rw [List.length_take] at hj
          have := (hvs j (by omega)).1
          rw [List.getD_eq_getElem?_getD, List.getElem?_take_of_lt (by omega), ← List.getD_eq_getElem?_getD]
          exact this
        rw [List.length_take] at this
        omega
      have hs : Sm B (putV (r.vaults.l.getD i default)).length := by
        have := right_sec hv
        rw [hB]
        simp only [Sm, List.length_append, lp, putV_len]; omega
      generalize r.vaults.l.getD i default = x at *
      (repeat' (first | simp (maxSteps := 2000000) -implicitDefEqProofs only [A_clavigerref6_Record_L0, c0, c1, w1, g1, hs, idx_lst cVlt_len, len_lst, rk_ext, fk_ext, sm_c, sm_a, numI_len, lr_api, lr, lr2, oO, oN, oG, oNG, oM, oF, oL, rg, ci, seval, resAll, resL, resV, blkAt, undef, fillV, evParts, footOp, wrOp, chk, disj] | split | ((first | apply ck_call | apply cfk_call); (first | (apply call_pure (rputVR_C _ hv) cll cl)))))
      exact hJ _ _ _ _ _ (by omega) ⟨i + 1, (B ++ putV x).length, B ++ putV x, by omega, rfl, e1, rfl, rfl, rfl⟩ (by refine .ren _ _ _ [0, 2] (by decide) (by intro k h; first | exact absurd h (Nat.not_lt_zero k) | (simp at h; done) | (rcases k with _ | _ | _ | k <;> first | rfl | (exfalso; omega) | (simp at h; done))) ?_ ?_ <;> simp [KeepS, KeepH, ArgRel, ArgRelL, argL_cl, arg_cl, row_l_of, row_l_nil, bn_len, blkAt])
    · obtain rfl : i = r.vaults.l.length := by omega
      have c1 : ¬ ((r.vaults.l.length : Nat) : Int) < r.vaults.l.length := by omega
      rw [List.take_length] at hB
      (repeat' (first | simp (maxSteps := 2000000) -implicitDefEqProofs only [A_clavigerref6_Record_L0, K_clavigerref6_Record_L0, c1, len_lst, rk_ext, fk_ext, sm_c, sm_a, numI_len, lr_api, lr, lr2, oO, oN, oG, oNG, oM, oF, oL, rg, ci, seval, resAll, resL, resV, blkAt, undef, fillV, evParts, footOp, wrOp, chk, disj] | split))
      rw [hB]
      exact out_row rfl (bs_closed _)
  · have k4 : r.kind = 4 := by omega
    have e : putR r = by8 (IntKind.u8.wrap 4) :: by8 (IntKind.u8.wrap r.shard) :: numI r.epoch := by rw [putR, if_neg k1, if_neg k2, if_neg k3, b8, b8, k4]; rfl
    rw [e]
    (repeat' (first | simp (maxSteps := 2000000) -implicitDefEqProofs only [A_clavigerref6_Record, k1, k2, k3, k4, sm_numI, len_lst, rk_ext, fk_ext, sm_c, sm_a, numI_len, lr_api, lr, lr2, oO, oN, oG, oNG, oM, oF, oL, rg, ci, seval, resAll, resL, resV, blkAt, undef, fillV, evParts, footOp, wrOp, chk, disj] | split | ((first | apply ck_call | apply cfk_call); (first | (apply call_pure (rnumberI_C r.epoch he he2) cll cl)))))
    exact out_row rfl (bs_closed _)
theorem rputR_C (r : Rec) (h : RightR r) (he : 0 ≤ r.epoch) (he2 : r.epoch < 18446744073709551616) : C Tryz.prog 16 [.agg (cRec r)] [] (rowV (.of (putR r))) [] := C_shut (rputRO_C r h he he2) rfl
end Go.Proofs.YtfpoebmihjbknaaGreat.VA

/- What the document reads is what the program reads: plain laws. -/
set_option linter.unusedVariables false
set_option linter.unusedSimpArgs false
set_option maxRecDepth 100000
namespace Go.Proofs.YtfpoebmihjbknaaGreat.VA
open Go
attribute [local irreducible] WK NK XK TK RK FK CK CFK CallRel C
theorem bad_dropS (n : Nat) (r : Rd) (h : r.bad = true) : (dropS n r).bad = true := by
  unfold dropS; split
  · rfl
  · exact h
theorem bad_textS (r : Rd) (h : r.bad = true) : (textS r).bad = true := by
  unfold textS; split
  · exact bad_dropS _ _ h
  · exact bad_dropS _ _ (bad_dropS _ _ h)
attribute [local irreducible] dropS textS textR rtextR oneV takeL bnT numB RightV okRd
theorem bad_vlt3 (r : Rd) (h : (vltS r).s3.bad = true) : (vltE r).bad = true := by
  have h4 : (vltS r).s4.bad = true := bad_dropS 1 _ h
  have h5 : (vltS r).s5.bad = true := bad_dropS 1 _ h4
  have h6 : (vltS r).s6.bad = true := bad_dropS 16 _ h5
  have h7 : (vltS r).s7.bad = true := bad_dropS 16 _ h6
  have h8 : (vltS r).s8.bad = true := bad_textS _ h7
  simp only [vltE, h8, Bool.true_or]
theorem bad_vltE (r : Rd) (h : r.bad = true) : (vltE r).bad = true := by
  have h1 : (vltS r).s1.bad = true := bad_dropS 4 _ h
  have h2 : (vltS r).s2.bad = true := bad_dropS 8 _ h1
  apply bad_vlt3
  have h3 : (dropS 1 (vltS r).s2).bad = true := bad_dropS 1 _ h2
  show ((dropS 1 (vltS r).s2).bad || badF (oneV (vltS r).s2)) = true
  rw [h3, Bool.true_or]
theorem bad_seq (r : Rd) (i : Nat) (h : (seqV i r).2.bad = true) : ∀ j, i ≤ j → (seqV j r).2.bad = true := by
  intro j hj
  induction j with
  | zero =>
    obtain rfl : i = 0 := by omega
    exact h
  | succ j ih =>
    by_cases hij : i = j + 1
    · subst hij; exact h
    · exact bad_vltE _ (ih (by omega))
theorem badF_ne {f : Int} (h : badF f = false) : f = 0 ∨ f = 1 ∨ f = 3 := by
  unfold badF at h
  simp at h
  omega
theorem vlt_states (r : Rd) (h : badF (oneV (vltS r).s2) = false) : vltS r = rvltS r := by
  have e3 : ({ dropS 1 (vltS r).s2 with bad := (dropS 1 (vltS r).s2).bad || badF (oneV (vltS r).s2) } : Rd) = dropS 1 (vltS r).s2 := by
    rw [h]; cases dropS 1 (vltS r).s2; simp
  have e3' : ({ dropS 1 (dropS 8 (dropS 4 r)) with bad := (dropS 1 (dropS 8 (dropS 4 r))).bad || badF (oneV (dropS 8 (dropS 4 r))) } : Rd) = dropS 1 (dropS 8 (dropS 4 r)) := e3
  unfold vltS rvltS
  simp only [e3']
theorem vlt_same (r : Rd) : ((vltE r).bad = false ↔ rvltOK r) ∧ (rvltOK r → vltV r = rvltV r ∧ vltE r = (rvltS r).s8) := by
  have h2 : (vltS r).s2 = (rvltS r).s2 := rfl
  by_cases hb : badF (oneV (vltS r).s2) = false
  · have hs := vlt_states r hb
    have hf := badF_ne hb
    have key : (rvltS r).s8.bad = false → vltV r = rvltV r := fun h8 => by
      have et : textR (vltS r).s7 = rtextR (vltS r).s7 := textR_eq _ (by rw [hs]; exact h8)
      have eg : (oneV (vltS r).s2 != 0) = rgone (oneV (vltS r).s2) ∧ (oneV (vltS r).s2 == 3) = rwiped (oneV (vltS r).s2) := by
        rcases hf with e | e | e <;> rw [e] <;> decide
      unfold vltV rvltV
      rw [et, eg.1, eg.2, hs]
    have hle : oneV (vltS r).s2 ≤ 3 := by omega
    have hE : (vltE r).bad = ((rvltS r).s8.bad || !decide (RightV (vltV r))) := by unfold vltE; rw [hs]
    have iff1 : (vltE r).bad = false ↔ rvltOK r := by
      rw [hE]
      unfold rvltOK
      constructor
      · intro h
        have h8 : (rvltS r).s8.bad = false := by cases h' : (rvltS r).s8.bad with
          | false => rfl
          | true => rw [h'] at h; simp at h
        rw [h8] at h
        simp at h
        exact ⟨h8, by rw [← h2]; exact hle, by rw [← key h8]; exact h⟩
      · rintro ⟨h8, _, hr⟩
        rw [h8, key h8]; simp [hr]
    refine ⟨iff1, fun hok => ⟨key hok.1, ?_⟩⟩
    have hbad := iff1.2 hok
    have e : vltE r = ⟨(rvltS r).s8.b, (vltE r).bad⟩ := by unfold vltE; rw [hs]
    rw [e, hbad, ← hok.1]
  · have hb' : badF (oneV (vltS r).s2) = true := by simpa using hb
    have hbad : (vltE r).bad = true := bad_vlt3 r (by
      show ((dropS 1 (vltS r).s2).bad || badF (oneV (vltS r).s2)) = true
      rw [hb', Bool.or_true])
    have hno : ¬ rvltOK r := by
      rintro ⟨_, hle, hr⟩
      have hr1 := oneV_range (rvltS r).s2
      rw [← h2] at hle hr1
      have hf : oneV (vltS r).s2 = 2 := by
        unfold badF at hb'
        simp at hb'
        omega
      have e1 : (rvltV r).gone = false := by
        show rgone (oneV (vltS r).s2) = false
        rw [hf]; decide
      have e2 : (rvltV r).wiped = true := by
        show rwiped (oneV (vltS r).s2) = true
        rw [hf]; decide
      unfold RightV at hr
      have := hr.2.2
      rw [e1, if_neg (by decide), e2] at this
      exact absurd this.1 (by decide)
    exact ⟨⟨fun h => absurd h (by rw [hbad]; decide), fun h => absurd h hno⟩, fun h => absurd h hno⟩
theorem vlt_bad (r : Rd) (h : ¬ rvltOK r) : (vltE r).bad = true := by
  cases hb : (vltE r).bad with
  | true => rfl
  | false => exact absurd ((vlt_same r).1.1 hb) h
theorem ok_vltE (r : Rd) (h : okRd r) (hv : rvltOK r) : okRd (vltE r) := by
  rw [((vlt_same r).2 hv).2]
  exact (ok_vlt r h).2.2.2.2.2.2.2
end Go.Proofs.YtfpoebmihjbknaaGreat.VA

/- Records that are right, values that are the same: the document's. -/
set_option linter.unusedVariables false
set_option linter.unusedSimpArgs false
set_option maxRecDepth 100000
namespace Go.Proofs.YtfpoebmihjbknaaGreat.VA
open Go
attribute [local irreducible] WK NK XK TK RK FK CK CFK CallRel C
set_option maxHeartbeats 8000000
theorem rrightR1 (r : Rec) (k1 : r.kind = 1) : C Tryz.prog 14 [.agg (cRec r)] [] (vb (decide (RightR r))) [] := by
  have e : RightR r ↔ (RightV r.vault ∧ r.shard = 0 ∧ r.to = 0 ∧ r.epoch = 0 ∧ ((r.vaults.l.length : Nat) : Int) = 0) := by unfold RightR; simp [k1]
  simp only [e]
  refine C_of mixed Tryz.func14 A_clavigerref6_RightRecord_ok A_clavigerref6_RightRecord_res _ A_clavigerref6_RightRecord_nt ?_
  by_cases h1 : 0 ≤ r.shard <;> by_cases h2 : 1 ≤ r.epoch <;> by_cases h3 : 0 ≤ r.to
  all_goals ((repeat' (first | simp (maxSteps := 2000000) -implicitDefEqProofs only [A_clavigerref6_RightRecord, len_lst, k1, h1, h2, h3, len_lst, rk_ext, fk_ext, sm_c, sm_a, numI_len, lr_api, lr, lr2, oO, oN, oG, oNG, oM, oF, oL, rg, ci, seval, resAll, resL, resV, blkAt, undef, fillV, evParts, footOp, wrOp, chk, disj] | split | ((first | apply ck_call | apply cfk_call); (first | (apply call_pure (rnothing_C r.vault) cll cl) | (apply call_pure (rrightV_C r.vault) cll cl) | (apply call_pure (rrising_C r.vaults) cll cl) | (apply call_pure (rnum_C r.epoch) cll cl))))))
  all_goals (refine out_vb (Bool.eq_iff_iff.2 ?_); (try simp only [decide_eq_true_eq, Bool.false_eq_true, true_iff, false_iff]); (try simp only [RightR, EpochP] at *); first | done | (simp_all; done) | (simp_all; omega) | omega | grind)
theorem rrightR2 (r : Rec) (k2 : r.kind = 2) : C Tryz.prog 14 [.agg (cRec r)] [] (vb (decide (RightR r))) [] := by
  have e : RightR r ↔ ((0 ≤ r.shard ∧ r.shard < 16) ∧ (1 ≤ r.epoch ∧ r.epoch ≤ 1099511627776) ∧ (0 ≤ r.to ∧ r.to < 8) ∧ sameV r.vault Vlt.zero ∧ ((r.vaults.l.length : Nat) : Int) = 0) := by unfold RightR EpochP; simp [k2]; grind
  simp only [e]
  refine C_of mixed Tryz.func14 A_clavigerref6_RightRecord_ok A_clavigerref6_RightRecord_res _ A_clavigerref6_RightRecord_nt ?_
  by_cases h1 : 0 ≤ r.shard <;> by_cases h2 : 1 ≤ r.epoch <;> by_cases h3 : 0 ≤ r.to
  all_goals ((repeat' (first | simp (maxSteps := 2000000) -implicitDefEqProofs only [A_clavigerref6_RightRecord, len_lst, k2, h1, h2, h3, len_lst, rk_ext, fk_ext, sm_c, sm_a, numI_len, lr_api, lr, lr2, oO, oN, oG, oNG, oM, oF, oL, rg, ci, seval, resAll, resL, resV, blkAt, undef, fillV, evParts, footOp, wrOp, chk, disj] | split | ((first | apply ck_call | apply cfk_call); (first | (apply call_pure (rnothing_C r.vault) cll cl) | (apply call_pure (rrightV_C r.vault) cll cl) | (apply call_pure (rrising_C r.vaults) cll cl) | (apply call_pure (rnum_C r.epoch) cll cl))))))
  all_goals (refine out_vb (Bool.eq_iff_iff.2 ?_); (try simp only [decide_eq_true_eq, Bool.false_eq_true, true_iff, false_iff]); (try simp only [RightR, EpochP] at *); first | done | (simp_all; done) | (simp_all; omega) | omega | grind)
theorem rrightR3 (r : Rec) (k2 : r.kind = 3) : C Tryz.prog 14 [.agg (cRec r)] [] (vb (decide (RightR r))) [] := by
  have e : RightR r ↔ ((0 ≤ r.shard ∧ r.shard < 16) ∧ (1 ≤ r.epoch ∧ r.epoch ≤ 1099511627776) ∧ r.to = 0 ∧ sameV r.vault Vlt.zero ∧ RisingP r.vaults.l) := by unfold RightR EpochP; simp [k2]; grind
  simp only [e]
  refine C_of mixed Tryz.func14 A_clavigerref6_RightRecord_ok A_clavigerref6_RightRecord_res _ A_clavigerref6_RightRecord_nt ?_
  by_cases h1 : 0 ≤ r.shard <;> by_cases h2 : 1 ≤ r.epoch <;> by_cases h3 : 0 ≤ r.to
  all_goals ((repeat' (first | simp (maxSteps := 2000000) -implicitDefEqProofs only [A_clavigerref6_RightRecord, len_lst, k2, h1, h2, h3, len_lst, rk_ext, fk_ext, sm_c, sm_a, numI_len, lr_api, lr, lr2, oO, oN, oG, oNG, oM, oF, oL, rg, ci, seval, resAll, resL, resV, blkAt, undef, fillV, evParts, footOp, wrOp, chk, disj] | split | ((first | apply ck_call | apply cfk_call); (first | (apply call_pure (rnothing_C r.vault) cll cl) | (apply call_pure (rrightV_C r.vault) cll cl) | (apply call_pure (rrising_C r.vaults) cll cl) | (apply call_pure (rnum_C r.epoch) cll cl))))))
  all_goals (refine out_vb (Bool.eq_iff_iff.2 ?_); (try simp only [decide_eq_true_eq, Bool.false_eq_true, true_iff, false_iff]); (try simp only [RightR, EpochP] at *); first | done | (simp_all; done) | (simp_all; omega) | omega | grind)
theorem rrightR4 (r : Rec) (k2 : r.kind = 4) : C Tryz.prog 14 [.agg (cRec r)] [] (vb (decide (RightR r))) [] := by
  have e : RightR r ↔ ((0 ≤ r.shard ∧ r.shard < 16) ∧ (1 ≤ r.epoch ∧ r.epoch ≤ 1099511627776) ∧ r.to = 0 ∧ sameV r.vault Vlt.zero ∧ ((r.vaults.l.length : Nat) : Int) = 0) := by unfold RightR EpochP; simp [k2]; grind
  simp only [e]
  refine C_of mixed Tryz.func14 A_clavigerref6_RightRecord_ok A_clavigerref6_RightRecord_res _ A_clavigerref6_RightRecord_nt ?_
  by_cases h1 : 0 ≤ r.shard <;> by_cases h2 : 1 ≤ r.epoch <;> by_cases h3 : 0 ≤ r.to
  all_goals ((repeat' (first | simp (maxSteps := 2000000) -implicitDefEqProofs only [A_clavigerref6_RightRecord, len_lst, k2, h1, h2, h3, len_lst, rk_ext, fk_ext, sm_c, sm_a, numI_len, lr_api, lr, lr2, oO, oN, oG, oNG, oM, oF, oL, rg, ci, seval, resAll, resL, resV, blkAt, undef, fillV, evParts, footOp, wrOp, chk, disj] | split | ((first | apply ck_call | apply cfk_call); (first | (apply call_pure (rnothing_C r.vault) cll cl) | (apply call_pure (rrightV_C r.vault) cll cl) | (apply call_pure (rrising_C r.vaults) cll cl) | (apply call_pure (rnum_C r.epoch) cll cl))))))
  all_goals (refine out_vb (Bool.eq_iff_iff.2 ?_); (try simp only [decide_eq_true_eq, Bool.false_eq_true, true_iff, false_iff]); (try simp only [RightR, EpochP] at *); first | done | (simp_all; done) | (simp_all; omega) | omega | grind)
theorem rrightR0 (r : Rec) (k1 : ¬ r.kind = 1) (k2 : ¬ r.kind = 2) (k3 : ¬ r.kind = 3) (k4 : ¬ r.kind = 4) : C Tryz.prog 14 [.agg (cRec r)] [] (vb (decide (RightR r))) [] := by
  have e : ¬ RightR r := by
    intro h
    have := rightR_kind h
    omega
  rw [decide_eq_false e]
  refine C_of mixed Tryz.func14 A_clavigerref6_RightRecord_ok A_clavigerref6_RightRecord_res _ A_clavigerref6_RightRecord_nt ?_
  by_cases h1 : 0 ≤ r.shard <;> by_cases h2 : 1 ≤ r.epoch <;> by_cases h3 : 0 ≤ r.to
  all_goals ((repeat' (first | simp (maxSteps := 2000000) -implicitDefEqProofs only [A_clavigerref6_RightRecord, len_lst, k1, k2, k3, k4, h1, h2, h3, len_lst, rk_ext, fk_ext, sm_c, sm_a, numI_len, lr_api, lr, lr2, oO, oN, oG, oNG, oM, oF, oL, rg, ci, seval, resAll, resL, resV, blkAt, undef, fillV, evParts, footOp, wrOp, chk, disj] | split | ((first | apply ck_call | apply cfk_call); (first | (apply call_pure (rnum_C r.epoch) cll cl))))))
  all_goals (exact out_eq rfl trivial)
theorem rrightR_C (r : Rec) : C Tryz.prog 14 [.agg (cRec r)] [] (vb (decide (RightR r))) [] := by
  by_cases k1 : r.kind = 1
  · exact rrightR1 r k1
  by_cases k2 : r.kind = 2
  · exact rrightR2 r k2
  by_cases k3 : r.kind = 3
  · exact rrightR3 r k3
  by_cases k4 : r.kind = 4
  · exact rrightR4 r k4
  exact rrightR0 r k1 k2 k3 k4
theorem rsame_C (a b : Vlt) : C Tryz.prog 54 [.agg (cVlt a), .agg (cVlt b)] [] (vb (decide (sameV a b))) [] := by
  refine C_of mixed Tryz.func54 A_clavigerref6_Same_ok A_clavigerref6_Same_res _ A_clavigerref6_Same_nt ?_
  (repeat' (first | simp (maxSteps := 2000000) -implicitDefEqProofs only [A_clavigerref6_Same, len_lst, rk_ext, fk_ext, sm_c, sm_a, numI_len, lr_api, lr, lr2, oO, oN, oG, oNG, oM, oF, oL, rg, ci, seval, resAll, resL, resV, blkAt, undef, fillV, evParts, footOp, wrOp, chk, disj] | split))
  all_goals (refine out_vb (Bool.eq_iff_iff.2 ?_); (try simp only [decide_eq_true_eq, Bool.false_eq_true, true_iff, false_iff]); (try simp only [sameV] at *); first | done | (simp_all; done) | (simp_all; omega) | omega | grind)
end Go.Proofs.YtfpoebmihjbknaaGreat.VA

/- Records are read: the document's. -/
set_option linter.unusedVariables false
set_option linter.unusedSimpArgs false
set_option maxRecDepth 100000
namespace Go.Proofs.YtfpoebmihjbknaaGreat.VA
open Go
attribute [local irreducible] WK NK XK TK RK FK CK CFK CallRel C
theorem rvaultT_C (r : Rd) (hr : okRd r) (h : rvltOK r) : C Tryz.prog 53 [.ref 0 0] [cRd r] (.tup [.agg (cVlt (vltV r)), vb true]) [some (cRd (vltE r))] := by
  have := rvault_C r hr
  obtain ⟨h1, h2⟩ := (vlt_same r).2 h
  rw [if_pos h] at this
  rw [h1, h2]; exact this
theorem rvaultN_C (r : Rd) (hr : okRd r) (h : ¬ rvltOK r) : C Tryz.prog 53 [.ref 0 0] [cRd r] (.tup [.agg (cVlt Vlt.zero), vb false]) [some (cRd (rvltS r).s8)] := by
  have := rvault_C r hr
  rwa [if_neg h] at this
attribute [local irreducible] dropS textS textR oneV takeL bnT numB RightV RightQ RightP RightR badF vltV vltE rd0 rvltOK rvltS rvltV
theorem cast0 : ((0 : Nat) : Int) = 0 := rfl
theorem lt00 : ((0 : Int) < 0) = False := eq_false (by decide)
def rec3 (xs xe : Int) (N : Nat) (s : Rd) : RecS := ⟨⟨3, xs, 0, xe, Vlt.zero, lstOf (seqV N s).1⟩, (seqV N s).2⟩
def R3 (s : RecS) : Prop := endP s.e ∧ RightR s.x
theorem rightR3_len {xs xe : Int} {v : Lst Vlt} (h : RightR ⟨3, xs, 0, xe, Vlt.zero, v⟩) : v.l.length ≤ 4 := by
  unfold RightR at h
  rcases h with h | ⟨_, h | h | h⟩
  · simp at h
  · simp at h
  · exact h.2.2.1
  · simp at h
theorem rec3_iff (xs xe : Int) (N : Nat) (s : Rd) : R3 (rec3 xs xe (min N 5) s) ↔ R3 (rec3 xs xe N s) := by
  by_cases h : N ≤ 5
  · rw [Nat.min_eq_left h]
  · have no : ∀ k, 5 ≤ k → ¬ R3 (rec3 xs xe k s) := fun k hk h => by
      have := rightR3_len h.2
      rw [lstOf_l, seqV_len] at this
      omega
    exact ⟨fun h' => absurd h' (no _ (by omega)), fun h' => absurd h' (no _ (by omega))⟩
theorem rec3_bad (xs xe : Int) (N i : Nat) (s : Rd) (h : (seqV i s).2.bad = true) (hi : i ≤ N) : ¬ R3 (rec3 xs xe N s) := fun h' => by
  have := bad_seq s i h N hi
  exact absurd h'.1.1 (by show ¬ (seqV N s).2.bad = false; rw [this]; decide)
def rrecOut (s : RecS) : V := if endP s.e ∧ RightR s.x then .tup [.agg (cRec s.x), vb true] else .tup [.agg (cRec Rec.zero), vb false]
theorem rrecOut_no {s : RecS} (h : ¬ R3 s) : rrecOut s = .tup [.agg (cRec Rec.zero), vb false] := if_neg h
theorem rrecOut_yes {s : RecS} (h : R3 s) : rrecOut s = .tup [.agg (cRec s.x), vb true] := if_pos h
theorem rrecOut_3 (xs xe : Int) (N : Nat) (s : Rd) : rrecOut (rec3 xs xe (min N 5) s) = rrecOut (rec3 xs xe N s) := by
  by_cases h : R3 (rec3 xs xe N s)
  · have h5 := (rec3_iff xs xe N s).2 h
    rw [rrecOut_yes h, rrecOut_yes h5]
    have hl := rightR3_len h.2
    rw [lstOf_l, seqV_len] at hl
    rw [Nat.min_eq_left (by omega)]
  · rw [rrecOut_no h, rrecOut_no fun h' => h ((rec3_iff xs xe N s).1 h')]
set_option maxHeartbeats 8000000 in
theorem rtoRecord3_C (b : Row) (r : Rd) (e0 : (⟨b, Rd.zero.bad⟩ : Rd) = r) (hr : okRd r) (hk : oneV r = 3) : C Tryz.prog 21 [rowV b] []
    (rrecOut (rec3 (oneV (dropS 1 r)) (numB (takeL 8 (dropS 1 (dropS 1 r)).b.l)) (oneV (dropS 8 (dropS 1 (dropS 1 r)))).toNat (dropS 1 (dropS 8 (dropS 1 (dropS 1 r)))))) [] := by
  refine C_of mixed Tryz.func21 A_clavigerref6_ToRecord_ok A_clavigerref6_ToRecord_res _ A_clavigerref6_ToRecord_nt ?_
  have k1 := ok_drop 1 r hr
  have k2 := ok_drop 1 _ k1
  have k3 := ok_drop 8 _ k2
  have k4 := ok_drop 1 _ k3
  have c1 := rbyte_C r hr
  rw [hk] at c1
  have c2 := rbyte_C (dropS 1 r) k1
  have c3 := rnumber_walk (dropS 1 (dropS 1 r)) k2
  have c4 := rbyte_C (dropS 8 (dropS 1 (dropS 1 r))) k3
  have hr4 := oneV_range (dropS 8 (dropS 1 (dropS 1 r)))
  generalize oneV (dropS 1 r) = xs at *
  generalize numB (takeL 8 (dropS 1 (dropS 1 r)).b.l) = xe at *
  generalize oneV (dropS 8 (dropS 1 (dropS 1 r))) = xm at *
  generalize dropS 1 (dropS 8 (dropS 1 (dropS 1 r))) = s4 at *
  generalize dropS 8 (dropS 1 (dropS 1 r)) = s3 at *
  generalize dropS 1 (dropS 1 r) = s2 at *
  generalize dropS 1 r = s1 at *
  obtain ⟨N, rfl⟩ : ∃ n : Nat, xm = n := ⟨xm.toNat, by omega⟩
  rw [Int.toNat_natCast]
  (repeat' (first | simp (maxSteps := 2000000) -implicitDefEqProofs only [A_clavigerref6_ToRecord, e0, zr_shard, zr_to, zr_epoch, zr_vault, zr_vaults, len_lst, rk_ext, fk_ext, sm_c, sm_a, numI_len, lr_api, lr, lr2, oO, oN, oG, oNG, oM, oF, oL, rg, ci, seval, resAll, resL, resV, blkAt, undef, fillV, evParts, footOp, wrOp, chk, disj] | split | ((first | apply ck_call | apply cfk_call); (first | (apply call_upd (c1) rfl cll cll cll cl) | (apply call_upd (c2) rfl cll cll cll cl) | (apply call_upd (c3) rfl cll cll cll cl) | (apply call_upd (c4) rfl cll cll cll cl)))))
  refine wk_loop (fun m S H => ∃ i : Nat, i ≤ N ∧ m = N - i ∧ (
      (okRd (seqV i s4).2 ∧ S = (.dead :: .dead :: .ref 0 0 :: vb false :: .ref 1 0 :: .ref 2 0 :: vb true :: vi .i64 ((N - i : Nat) : Int) :: .dead :: .dead :: .dead :: .dead :: .dead :: .dead :: .dead :: .dead :: .dead :: .dead :: .dead :: .dead :: .dead :: .dead :: .dead :: .dead :: .dead :: .dead :: .dead :: .dead :: .dead :: .dead :: .dead :: .dead :: .dead :: .dead :: .dead :: .dead :: .dead :: .dead :: .dead :: .dead :: .dead :: .dead :: .dead :: .dead :: .dead :: .dead :: .dead :: .dead :: .dead :: .dead :: .dead :: .dead :: .dead :: .dead :: .dead :: .dead :: .dead :: .dead :: .dead :: .dead :: .dead :: .dead :: .dead :: .dead :: .dead :: .dead :: .dead :: .dead :: .dead :: .dead :: .dead :: .dead :: .dead :: .dead :: .dead :: .dead :: .dead :: .dead :: .dead :: .dead :: .dead :: .dead :: .dead :: .dead :: .dead :: .dead :: .dead :: .dead :: .dead :: .dead :: .dead :: .dead :: .dead :: .dead :: .dead :: .dead :: .dead :: []) ∧
        (i = 0 ∧ H = [some (cRec Rec.zero), some (cRd s4), some (cRec ⟨3, xs, 0, xe, Vlt.zero, .nil⟩)] ∨
         0 < i ∧ H = [some (cRec Rec.zero), some (cRd (seqV i s4).2), some (gRec_vaults ⟨3, xs, 0, xe, Vlt.zero, .nil⟩ (.sref 3 0 i 42)), some ((seqV i s4).1.flatMap cVlt)])) ∨
      (¬ R3 (rec3 xs xe N s4) ∧ S = (.dead :: .dead :: .ref 0 0 :: vb false :: .dead :: .dead :: vb false :: vi .i64 ((N - i : Nat) : Int) :: .dead :: .dead :: .dead :: .dead :: .dead :: .dead :: .dead :: .dead :: .dead :: .dead :: .dead :: .dead :: .dead :: .dead :: .dead :: .dead :: .dead :: .dead :: .dead :: .dead :: .dead :: .dead :: .dead :: .dead :: .dead :: .dead :: .dead :: .dead :: .dead :: .dead :: .dead :: .dead :: .dead :: .dead :: .dead :: .dead :: .dead :: .dead :: .dead :: .dead :: .dead :: .dead :: .dead :: .dead :: .dead :: .dead :: .dead :: .dead :: .dead :: .dead :: .dead :: .dead :: .dead :: .dead :: .dead :: .dead :: .dead :: .dead :: .dead :: .dead :: .dead :: .dead :: .dead :: .dead :: .dead :: .dead :: .dead :: .dead :: .dead :: .dead :: .dead :: .dead :: .dead :: .dead :: .dead :: .dead :: .dead :: .dead :: .dead :: .dead :: .dead :: .dead :: .dead :: .dead :: .dead :: .dead :: .dead :: .dead :: .dead :: []) ∧ H = [some (cRec Rec.zero)]))) N
    ⟨0, Nat.zero_le _, rfl, .inl ⟨k4, rfl, .inl ⟨rfl, rfl⟩⟩⟩ (by refine .ren _ _ _ [0, 1, 2] (by decide) (by intro k h; first | exact absurd h (Nat.not_lt_zero k) | (simp at h; done) | (rcases k with _ | _ | _ | k <;> first | rfl | (exfalso; omega) | (simp at h; done))) ?_ ?_ <;> simp [KeepS, KeepH, ArgRel, ArgRelL, argL_cl, arg_cl, row_l_of, row_l_nil, bn_len, blkAt]) ?_
  rintro m S H ⟨i, hi, rfl, ⟨hok, rfl, hH⟩ | ⟨hno, rfl, rfl⟩⟩ J hJ
  · by_cases hin : i < N
    · have d0 : (0 : Int) < ((N - i : Nat) : Int) := by omega
      have w1 : IntKind.i64.wrap (((N - i : Nat) : Int) - 1) = ((N - (i + 1) : Nat) : Int) := by rw [wrap_id _ (by omega) (by omega)]; omega
      by_cases hv : rvltOK (seqV i s4).2
      · have hok' : okRd (seqV (i + 1) s4).2 := ok_vltE _ hok hv
        rcases hH with ⟨hi0, rfl⟩ | ⟨hi0, rfl⟩
        · have e0' : (seqV i s4).2 = s4 := by rw [hi0]; rfl
          rw [e0'] at hv hok
          have cv := rvaultT_C s4 hok hv
          have hs : seqV 1 s4 = ([vltV s4], vltE s4) := rfl
          have e1 : i + 1 = 1 := by omega
          (repeat' (first | simp (maxSteps := 2000000) -implicitDefEqProofs only [A_clavigerref6_ToRecord_L0, d0, w1, blk_zVlt, slB_st, lstV_nil, zr_shard, zr_to, zr_epoch, zr_vault, zr_vaults, len_lst, rk_ext, fk_ext, sm_c, sm_a, numI_len, lr_api, lr, lr2, oO, oN, oG, oNG, oM, oF, oL, rg, ci, seval, resAll, resL, resV, blkAt, undef, fillV, evParts, footOp, wrOp, chk, disj] | split | ((first | apply ck_call | apply cfk_call); (first | (apply call_upd (cv) rfl cll cll cll cl)))))
          exact hJ _ _ _ _ _ (by omega) ⟨i + 1, by omega, rfl, .inl ⟨hok', rfl, .inr ⟨by omega, rfl⟩⟩⟩ (by refine .ren _ _ _ [0, 1, 2, 5] (by decide) (by intro k h; first | exact absurd h (Nat.not_lt_zero k) | (simp at h; done) | (rcases k with _ | _ | _ | k <;> first | rfl | (exfalso; omega) | (simp at h; done))) ?_ ?_ <;> simp [KeepS, KeepH, ArgRel, ArgRelL, argL_cl, arg_cl, row_l_of, row_l_nil, bn_len, blkAt, argGG_Rec, hs, e1])
        · have cv := rvaultT_C (seqV i s4).2 hok hv
          have ln := seqV_len s4 i
          have af := fun H id => app_fl cVlt_len H (seqV i s4).1 (vltV (seqV i s4).2) id i 96 ln.symm (by omega) (by decide)
          (repeat' (first | simp (maxSteps := 2000000) -implicitDefEqProofs only [A_clavigerref6_ToRecord_L0, d0, w1, blk_zVlt, slB_st, af, zr_shard, zr_to, zr_epoch, zr_vault, zr_vaults, len_lst, rk_ext, fk_ext, sm_c, sm_a, numI_len, lr_api, lr, lr2, oO, oN, oG, oNG, oM, oF, oL, rg, ci, seval, resAll, resL, resV, blkAt, undef, fillV, evParts, footOp, wrOp, chk, disj] | split | ((first | apply ck_call | apply cfk_call); (first | (apply call_upd (cv) rfl cll cll cll cl)))))
          exact hJ _ _ _ _ _ (by omega) ⟨i + 1, by omega, rfl, .inl ⟨hok', rfl, .inr ⟨by omega, rfl⟩⟩⟩ (by refine .ren _ _ _ [0, 1, 2, 6] (by decide) (by intro k h; first | exact absurd h (Nat.not_lt_zero k) | (simp at h; done) | (rcases k with _ | _ | _ | k <;> first | rfl | (exfalso; omega) | (simp at h; done))) ?_ ?_ <;> simp [KeepS, KeepH, ArgRel, ArgRelL, argL_cl, arg_cl, row_l_of, row_l_nil, bn_len, blkAt, argGG_Rec, seqV, flat_closed cVlt_closed])
      · have hbad : ¬ R3 (rec3 xs xe N s4) := rec3_bad xs xe N (i + 1) s4 (vlt_bad _ hv) (by omega)
        rcases hH with ⟨hi0, rfl⟩ | ⟨hi0, rfl⟩
        · have e0' : (seqV i s4).2 = s4 := by rw [hi0]; rfl
          rw [e0'] at hv hok
          have cv := rvaultN_C s4 hok hv
          (repeat' (first | simp (maxSteps := 2000000) -implicitDefEqProofs only [A_clavigerref6_ToRecord_L0, d0, w1, blk_zVlt, slB_st, lstV_nil, zr_shard, zr_to, zr_epoch, zr_vault, zr_vaults, len_lst, rk_ext, fk_ext, sm_c, sm_a, numI_len, lr_api, lr, lr2, oO, oN, oG, oNG, oM, oF, oL, rg, ci, seval, resAll, resL, resV, blkAt, undef, fillV, evParts, footOp, wrOp, chk, disj] | split | ((first | apply ck_call | apply cfk_call); (first | (apply call_upd (cv) rfl cll cll cll cl)))))
          exact hJ _ _ _ _ _ (by omega) ⟨i + 1, by omega, rfl, .inr ⟨hbad, rfl, rfl⟩⟩ (by refine .ren _ _ _ [0] (by decide) (by intro k h; first | exact absurd h (Nat.not_lt_zero k) | (simp at h; done) | (rcases k with _ | _ | _ | k <;> first | rfl | (exfalso; omega) | (simp at h; done))) ?_ ?_ <;> simp [KeepS, KeepH, ArgRel, ArgRelL, argL_cl, arg_cl, row_l_of, row_l_nil, bn_len, blkAt])
        · have cv := rvaultN_C (seqV i s4).2 hok hv
          have ln := seqV_len s4 i
          have af := fun H id => app_fl cVlt_len H (seqV i s4).1 Vlt.zero id i 96 ln.symm (by omega) (by decide)
          (repeat' (first | simp (maxSteps := 2000000) -implicitDefEqProofs only [A_clavigerref6_ToRecord_L0, d0, w1, blk_zVlt, slB_st, af, zr_shard, zr_to, zr_epoch, zr_vault, zr_vaults, len_lst, rk_ext, fk_ext, sm_c, sm_a, numI_len, lr_api, lr, lr2, oO, oN, oG, oNG, oM, oF, oL, rg, ci, seval, resAll, resL, resV, blkAt, undef, fillV, evParts, footOp, wrOp, chk, disj] | split | ((first | apply ck_call | apply cfk_call); (first | (apply call_upd (cv) rfl cll cll cll cl)))))
          exact hJ _ _ _ _ _ (by omega) ⟨i + 1, by omega, rfl, .inr ⟨hbad, rfl, rfl⟩⟩ (by refine .ren _ _ _ [0] (by decide) (by intro k h; first | exact absurd h (Nat.not_lt_zero k) | (simp at h; done) | (rcases k with _ | _ | _ | k <;> first | rfl | (exfalso; omega) | (simp at h; done))) ?_ ?_ <;> simp [KeepS, KeepH, ArgRel, ArgRelL, argL_cl, arg_cl, row_l_of, row_l_nil, bn_len, blkAt])
    · obtain rfl : i = N := by omega
      have d0 : ¬ (0 : Int) < ((i - i : Nat) : Int) := by omega
      rcases hH with ⟨rfl, rfl⟩ | ⟨hi0, rfl⟩
      · show WK _ _ (Post _ _ (rrecOut ⟨⟨3, xs, 0, xe, Vlt.zero, .nil⟩, s4⟩) _) _ _ _ _
        unfold rrecOut
        simp only []
        by_cases he : endP s4
        · obtain ⟨e1, e2⟩ := he
          have e3 : ¬ (0 : Int) < s4.b.l.length := by omega
          by_cases hr : RightR ⟨3, xs, 0, xe, Vlt.zero, .nil⟩
          · rw [if_pos ⟨⟨e1, e2⟩, hr⟩]
            (repeat' (first | simp (maxSteps := 2000000) -implicitDefEqProofs only [A_clavigerref6_ToRecord_L0, K_clavigerref6_ToRecord_L0, d0, Nat.sub_self, cast0, lt00, e1, e3, hr, zr_shard, zr_to, zr_epoch, zr_vault, zr_vaults, len_lst, rk_ext, fk_ext, sm_c, sm_a, numI_len, lr_api, lr, lr2, oO, oN, oG, oNG, oM, oF, oL, rg, ci, seval, resAll, resL, resV, blkAt, undef, fillV, evParts, footOp, wrOp, chk, disj] | split | ((first | apply ck_call | apply cfk_call); (first | (apply call_pure (rrightR_C ⟨3, xs, 0, xe, Vlt.zero, .nil⟩) cll cl)))))
            all_goals (refine out_eq ?_ ?_; rfl; simp [Closed, ClosedL, cRec_closed])
          · rw [if_neg (fun h => hr h.2)]
            (repeat' (first | simp (maxSteps := 2000000) -implicitDefEqProofs only [A_clavigerref6_ToRecord_L0, K_clavigerref6_ToRecord_L0, d0, Nat.sub_self, cast0, lt00, e1, e3, hr, zr_shard, zr_to, zr_epoch, zr_vault, zr_vaults, len_lst, rk_ext, fk_ext, sm_c, sm_a, numI_len, lr_api, lr, lr2, oO, oN, oG, oNG, oM, oF, oL, rg, ci, seval, resAll, resL, resV, blkAt, undef, fillV, evParts, footOp, wrOp, chk, disj] | split | ((first | apply ck_call | apply cfk_call); (first | (apply call_pure (rrightR_C ⟨3, xs, 0, xe, Vlt.zero, .nil⟩) cll cl)))))
            all_goals (refine out_eq ?_ ?_; rfl; simp [Closed, ClosedL, cRec_closed])
        · rw [if_neg (fun h => he h.1)]
          by_cases e1 : s4.bad = true
          · (repeat' (first | simp (maxSteps := 2000000) -implicitDefEqProofs only [A_clavigerref6_ToRecord_L0, K_clavigerref6_ToRecord_L0, d0, Nat.sub_self, cast0, lt00, e1, zr_shard, zr_to, zr_epoch, zr_vault, zr_vaults, len_lst, rk_ext, fk_ext, sm_c, sm_a, numI_len, lr_api, lr, lr2, oO, oN, oG, oNG, oM, oF, oL, rg, ci, seval, resAll, resL, resV, blkAt, undef, fillV, evParts, footOp, wrOp, chk, disj] | split))
            all_goals (refine out_eq ?_ ?_; rfl; simp [Closed, ClosedL, cRec_closed])
          · have e1' : s4.bad = false := by simpa using e1
            have e3 : (0 : Int) < s4.b.l.length := by
              have : ¬ s4.b.l.length = 0 := fun h => he ⟨e1', h⟩
              omega
            (repeat' (first | simp (maxSteps := 2000000) -implicitDefEqProofs only [A_clavigerref6_ToRecord_L0, K_clavigerref6_ToRecord_L0, d0, Nat.sub_self, cast0, lt00, e1', e3, zr_shard, zr_to, zr_epoch, zr_vault, zr_vaults, len_lst, rk_ext, fk_ext, sm_c, sm_a, numI_len, lr_api, lr, lr2, oO, oN, oG, oNG, oM, oF, oL, rg, ci, seval, resAll, resL, resV, blkAt, undef, fillV, evParts, footOp, wrOp, chk, disj] | split))
            all_goals (refine out_eq ?_ ?_; rfl; simp [Closed, ClosedL, cRec_closed])
      · have ln := seqV_len s4 i
        have hne : (seqV i s4).1 ≠ [] := by intro h; rw [h] at ln; simp at ln; omega
        unfold rec3
        rw [show lstOf (seqV i s4).1 = .of (seqV i s4).1 from if_neg hne]
        generalize (seqV i s4).1 = rv at *
        generalize (seqV i s4).2 = E at *
        have hag : ∀ {H : Heap} {bs' : List Nat}, blkAt H 3 = some (rv.flatMap cVlt) → 3 ∈ bs' → ArgRel H [] bs' (.agg (gRec_vaults ⟨3, xs, 0, xe, Vlt.zero, .nil⟩ (.sref 3 0 i 42))) (.agg (cRec ⟨3, xs, 0, xe, Vlt.zero, .of rv⟩)) := fun hb hm =>
          arg_agg (argG_Rec_vaults _ (arg_lst cVlt_len cVlt_closed hb hm ln.symm))
        unfold rrecOut
        simp only []
        by_cases he : endP E
        · obtain ⟨e1, e2⟩ := he
          have e3 : ¬ (0 : Int) < E.b.l.length := by omega
          by_cases hr : RightR ⟨3, xs, 0, xe, Vlt.zero, .of rv⟩
          · rw [if_pos ⟨⟨e1, e2⟩, hr⟩]
            (repeat' (first | simp (maxSteps := 2000000) -implicitDefEqProofs only [A_clavigerref6_ToRecord_L0, K_clavigerref6_ToRecord_L0, d0, Nat.sub_self, cast0, lt00, e1, e3, zr_shard, zr_to, zr_epoch, zr_vault, zr_vaults, len_lst, rk_ext, fk_ext, sm_c, sm_a, numI_len, lr_api, lr, lr2, oO, oN, oG, oNG, oM, oF, oL, rg, ci, seval, resAll, resL, resV, blkAt, undef, fillV, evParts, footOp, wrOp, chk, disj] | split))
            refine ck_call _ _ (call_roA (rrightR_C ⟨3, xs, 0, xe, Vlt.zero, .of rv⟩) ?_ (args_c (hag rfl ?_) args_n) trivial trivial) ?_
            · intro id hid; simp only [ids_cons, ids_nil, ids_agg, gRec_ids] at hid; simp at hid; subst hid; exact ⟨_, rfl⟩
            · simp only [ids_cons, ids_nil, ids_agg, gRec_ids]; simp
            simp (maxSteps := 2000000) -implicitDefEqProofs only [hr, zr_shard, zr_to, zr_epoch, zr_vault, zr_vaults, len_lst, rk_ext, fk_ext, sm_c, sm_a, numI_len, lr_api, lr, lr2, oO, oN, oG, oNG, oM, oF, oL, rg, ci, seval, resAll, resL, resV, blkAt, undef, fillV, evParts, footOp, wrOp, chk, disj]
            exact out_show [3] (fun id h => by simp at h; subst h; exact ⟨_, rfl⟩) (arg_tup (argL_cons (hag rfl (by simp)) (argL_cons (arg_closed _ trivial) argL_nil)))
          · rw [if_neg (fun h => hr h.2)]
            (repeat' (first | simp (maxSteps := 2000000) -implicitDefEqProofs only [A_clavigerref6_ToRecord_L0, K_clavigerref6_ToRecord_L0, d0, Nat.sub_self, cast0, lt00, e1, e3, zr_shard, zr_to, zr_epoch, zr_vault, zr_vaults, len_lst, rk_ext, fk_ext, sm_c, sm_a, numI_len, lr_api, lr, lr2, oO, oN, oG, oNG, oM, oF, oL, rg, ci, seval, resAll, resL, resV, blkAt, undef, fillV, evParts, footOp, wrOp, chk, disj] | split))
            refine ck_call _ _ (call_roA (rrightR_C ⟨3, xs, 0, xe, Vlt.zero, .of rv⟩) ?_ (args_c (hag rfl ?_) args_n) trivial trivial) ?_
            · intro id hid; simp only [ids_cons, ids_nil, ids_agg, gRec_ids] at hid; simp at hid; subst hid; exact ⟨_, rfl⟩
            · simp only [ids_cons, ids_nil, ids_agg, gRec_ids]; simp
            simp (maxSteps := 2000000) -implicitDefEqProofs only [hr, zr_shard, zr_to, zr_epoch, zr_vault, zr_vaults, len_lst, rk_ext, fk_ext, sm_c, sm_a, numI_len, lr_api, lr, lr2, oO, oN, oG, oNG, oM, oF, oL, rg, ci, seval, resAll, resL, resV, blkAt, undef, fillV, evParts, footOp, wrOp, chk, disj]
            all_goals (refine out_eq ?_ ?_; rfl; simp [Closed, ClosedL, cRec_closed])
        · rw [if_neg (fun h => he h.1)]
          by_cases e1 : E.bad = true
          · (repeat' (first | simp (maxSteps := 2000000) -implicitDefEqProofs only [A_clavigerref6_ToRecord_L0, K_clavigerref6_ToRecord_L0, d0, Nat.sub_self, cast0, lt00, e1, zr_shard, zr_to, zr_epoch, zr_vault, zr_vaults, len_lst, rk_ext, fk_ext, sm_c, sm_a, numI_len, lr_api, lr, lr2, oO, oN, oG, oNG, oM, oF, oL, rg, ci, seval, resAll, resL, resV, blkAt, undef, fillV, evParts, footOp, wrOp, chk, disj] | split))
            all_goals (refine out_eq ?_ ?_; rfl; simp [Closed, ClosedL, cRec_closed])
          · have e1' : E.bad = false := by simpa using e1
            have e3 : (0 : Int) < E.b.l.length := by
              have : ¬ E.b.l.length = 0 := fun h => he ⟨e1', h⟩
              omega
            (repeat' (first | simp (maxSteps := 2000000) -implicitDefEqProofs only [A_clavigerref6_ToRecord_L0, K_clavigerref6_ToRecord_L0, d0, Nat.sub_self, cast0, lt00, e1', e3, zr_shard, zr_to, zr_epoch, zr_vault, zr_vaults, len_lst, rk_ext, fk_ext, sm_c, sm_a, numI_len, lr_api, lr, lr2, oO, oN, oG, oNG, oM, oF, oL, rg, ci, seval, resAll, resL, resV, blkAt, undef, fillV, evParts, footOp, wrOp, chk, disj] | split))
            all_goals (refine out_eq ?_ ?_; rfl; simp [Closed, ClosedL, cRec_closed])
  · rw [rrecOut_no hno]
    by_cases hin : i < N
    · have d0 : (0 : Int) < ((N - i : Nat) : Int) := by omega
      (repeat' (first | simp (maxSteps := 2000000) -implicitDefEqProofs only [A_clavigerref6_ToRecord_L0, K_clavigerref6_ToRecord_L0, d0, Nat.sub_self, cast0, lt00, zr_shard, zr_to, zr_epoch, zr_vault, zr_vaults, len_lst, rk_ext, fk_ext, sm_c, sm_a, numI_len, lr_api, lr, lr2, oO, oN, oG, oNG, oM, oF, oL, rg, ci, seval, resAll, resL, resV, blkAt, undef, fillV, evParts, footOp, wrOp, chk, disj] | split))
      all_goals (refine out_eq ?_ ?_; rfl; simp [Closed, ClosedL, cRec_closed])
    · have d0 : ¬ (0 : Int) < ((N - i : Nat) : Int) := by omega
      (repeat' (first | simp (maxSteps := 2000000) -implicitDefEqProofs only [A_clavigerref6_ToRecord_L0, K_clavigerref6_ToRecord_L0, d0, Nat.sub_self, cast0, lt00, zr_shard, zr_to, zr_epoch, zr_vault, zr_vaults, len_lst, rk_ext, fk_ext, sm_c, sm_a, numI_len, lr_api, lr, lr2, oO, oN, oG, oNG, oM, oF, oL, rg, ci, seval, resAll, resL, resV, blkAt, undef, fillV, evParts, footOp, wrOp, chk, disj] | split))
      all_goals (refine out_eq ?_ ?_; rfl; simp [Closed, ClosedL, cRec_closed])
end Go.Proofs.YtfpoebmihjbknaaGreat.VA

/- Records are read: the document's, of each kind. -/
set_option linter.unusedVariables false
set_option linter.unusedSimpArgs false
set_option maxRecDepth 100000
namespace Go.Proofs.YtfpoebmihjbknaaGreat.VA
open Go
attribute [local irreducible] WK NK XK TK RK FK CK CFK CallRel C
attribute [local irreducible] dropS textS textR oneV takeL bnT numB RightV RightQ RightP RightR badF vltV vltE rd0 rvltOK rvltS rvltV
set_option maxHeartbeats 8000000 in
theorem rtoRecord_C (b : Row) : C Tryz.prog 21 [rowV b] [] (rrecOut (recS (rd0 b))) [] := by
  have e0 : (⟨b, Rd.zero.bad⟩ : Rd) = rd0 b := rd0_of b
  have k0 := ok0 b
  generalize rd0 b = r at *
  by_cases k3 : oneV r = 3
  · have h := rtoRecord3_C b r e0 k0 k3
    rw [← rrecOut_3] at h
    unfold recS
    rw [k3, if_neg (by decide), if_neg (by decide), if_pos rfl]
    have hr4 := oneV_range (dropS 8 (dropS 1 (dropS 1 r)))
    have e5 : (min (oneV (dropS 8 (dropS 1 (dropS 1 r)))) 5).toNat = min (oneV (dropS 8 (dropS 1 (dropS 1 r)))).toNat 5 := by omega
    rw [e5]
    exact h
  refine C_of mixed Tryz.func21 A_clavigerref6_ToRecord_ok A_clavigerref6_ToRecord_res _ A_clavigerref6_ToRecord_nt ?_
  have o1 := ok_drop 1 r k0
  have c1 := rbyte_C r k0
  obtain ⟨k, hk⟩ : ∃ k, k = oneV r := ⟨_, rfl⟩
  rw [← hk] at c1
  unfold recS
  rw [← hk]
  by_cases k1 : k = 1
  · rw [if_pos k1]
    subst k1
    by_cases hv : rvltOK (dropS 1 r)
    · have c2 := rvaultT_C (dropS 1 r) o1 hv
      generalize vltV (dropS 1 r) = X at *
      generalize vltE (dropS 1 r) = E at *
      generalize dropS 1 r = s1 at *
      unfold rrecOut
      simp only []
      by_cases he : endP E
      · obtain ⟨e1, e2⟩ := he
        have e3 : ¬ (0 : Int) < (E).b.l.length := by omega
        by_cases hr : RightR ⟨1, 0, 0, 0, X, .nil⟩
        · rw [if_pos ⟨⟨e1, e2⟩, hr⟩]
          (repeat' (first | simp (maxSteps := 2000000) -implicitDefEqProofs only [A_clavigerref6_ToRecord, e0, e1, e3, hr, e1, zr_shard, zr_to, zr_epoch, zr_vault, zr_vaults, len_lst, rk_ext, fk_ext, sm_c, sm_a, numI_len, lr_api, lr, lr2, oO, oN, oG, oNG, oM, oF, oL, rg, ci, seval, resAll, resL, resV, blkAt, undef, fillV, evParts, footOp, wrOp, chk, disj] | split | ((first | apply ck_call | apply cfk_call); (first | (apply call_upd (c1) rfl cll cll cll cl) | (apply call_upd (c2) rfl cll cll cll cl) | (apply call_pure (rrightR_C ⟨1, 0, 0, 0, X, .nil⟩) cll cl)))))
          all_goals (refine out_eq ?_ ?_; rfl; simp [Closed, ClosedL, cRec_closed])
        · rw [if_neg (fun h => hr h.2)]
          (repeat' (first | simp (maxSteps := 2000000) -implicitDefEqProofs only [A_clavigerref6_ToRecord, e0, e1, e3, hr, e1, zr_shard, zr_to, zr_epoch, zr_vault, zr_vaults, len_lst, rk_ext, fk_ext, sm_c, sm_a, numI_len, lr_api, lr, lr2, oO, oN, oG, oNG, oM, oF, oL, rg, ci, seval, resAll, resL, resV, blkAt, undef, fillV, evParts, footOp, wrOp, chk, disj] | split | ((first | apply ck_call | apply cfk_call); (first | (apply call_upd (c1) rfl cll cll cll cl) | (apply call_upd (c2) rfl cll cll cll cl) | (apply call_pure (rrightR_C ⟨1, 0, 0, 0, X, .nil⟩) cll cl)))))
          all_goals (refine out_eq ?_ ?_; rfl; simp [Closed, ClosedL, cRec_closed])
      · rw [if_neg (fun h => he h.1)]
        by_cases e1 : (E).bad = true
        · (repeat' (first | simp (maxSteps := 2000000) -implicitDefEqProofs only [A_clavigerref6_ToRecord, e0, e1, e1, zr_shard, zr_to, zr_epoch, zr_vault, zr_vaults, len_lst, rk_ext, fk_ext, sm_c, sm_a, numI_len, lr_api, lr, lr2, oO, oN, oG, oNG, oM, oF, oL, rg, ci, seval, resAll, resL, resV, blkAt, undef, fillV, evParts, footOp, wrOp, chk, disj] | split | ((first | apply ck_call | apply cfk_call); (first | (apply call_upd (c1) rfl cll cll cll cl) | (apply call_upd (c2) rfl cll cll cll cl)))))
          all_goals (refine out_eq ?_ ?_; rfl; simp [Closed, ClosedL, cRec_closed])
        · have e1' : (E).bad = false := by simpa using e1
          have e3 : (0 : Int) < (E).b.l.length := by
            have : ¬ (E).b.l.length = 0 := fun h => he ⟨e1', h⟩
            omega
          (repeat' (first | simp (maxSteps := 2000000) -implicitDefEqProofs only [A_clavigerref6_ToRecord, e0, e1', e3, e1, zr_shard, zr_to, zr_epoch, zr_vault, zr_vaults, len_lst, rk_ext, fk_ext, sm_c, sm_a, numI_len, lr_api, lr, lr2, oO, oN, oG, oNG, oM, oF, oL, rg, ci, seval, resAll, resL, resV, blkAt, undef, fillV, evParts, footOp, wrOp, chk, disj] | split | ((first | apply ck_call | apply cfk_call); (first | (apply call_upd (c1) rfl cll cll cll cl) | (apply call_upd (c2) rfl cll cll cll cl)))))
          all_goals (refine out_eq ?_ ?_; rfl; simp [Closed, ClosedL, cRec_closed])
    · have c2 := rvaultN_C (dropS 1 r) o1 hv
      have hb := vlt_bad _ hv
      have no : ¬ R3 ⟨⟨1, 0, 0, 0, vltV (dropS 1 r), .nil⟩, vltE (dropS 1 r)⟩ := fun h => by
        have := h.1.1
        rw [hb] at this; cases this
      rw [rrecOut_no no]
      (repeat' (first | simp (maxSteps := 2000000) -implicitDefEqProofs only [A_clavigerref6_ToRecord, e0, zr_shard, zr_to, zr_epoch, zr_vault, zr_vaults, len_lst, rk_ext, fk_ext, sm_c, sm_a, numI_len, lr_api, lr, lr2, oO, oN, oG, oNG, oM, oF, oL, rg, ci, seval, resAll, resL, resV, blkAt, undef, fillV, evParts, footOp, wrOp, chk, disj] | split | ((first | apply ck_call | apply cfk_call); (first | (apply call_upd (c1) rfl cll cll cll cl) | (apply call_upd (c2) rfl cll cll cll cl)))))
      all_goals (refine out_eq ?_ ?_; rfl; simp [Closed, ClosedL, cRec_closed])
  rw [if_neg k1]
  by_cases k2 : k = 2
  · rw [if_pos k2]
    subst k2
    have o2 := ok_drop 1 _ o1
    have o3 := ok_drop 1 _ o2
    have c2 := rbyte_C (dropS 1 r) o1
    have c3 := rbyte_C (dropS 1 (dropS 1 r)) o2
    have c4 := rnumber_walk (dropS 1 (dropS 1 (dropS 1 r))) o3
    generalize oneV (dropS 1 r) = xs at *
    generalize oneV (dropS 1 (dropS 1 r)) = xt at *
    generalize numB (takeL 8 (dropS 1 (dropS 1 (dropS 1 r))).b.l) = xe at *
    generalize dropS 8 (dropS 1 (dropS 1 (dropS 1 r))) = E at *
    generalize dropS 1 (dropS 1 (dropS 1 r)) = s3 at *
    generalize dropS 1 (dropS 1 r) = s2 at *
    generalize dropS 1 r = s1 at *
    unfold rrecOut
    simp only []
    by_cases he : endP E
    · obtain ⟨e1, e2⟩ := he
      have e3 : ¬ (0 : Int) < (E).b.l.length := by omega
      by_cases hr : RightR ⟨2, xs, xt, xe, Vlt.zero, .nil⟩
      · rw [if_pos ⟨⟨e1, e2⟩, hr⟩]
        (repeat' (first | simp (maxSteps := 2000000) -implicitDefEqProofs only [A_clavigerref6_ToRecord, e0, e1, e3, hr, e1, zr_shard, zr_to, zr_epoch, zr_vault, zr_vaults, len_lst, rk_ext, fk_ext, sm_c, sm_a, numI_len, lr_api, lr, lr2, oO, oN, oG, oNG, oM, oF, oL, rg, ci, seval, resAll, resL, resV, blkAt, undef, fillV, evParts, footOp, wrOp, chk, disj] | split | ((first | apply ck_call | apply cfk_call); (first | (apply call_upd (c1) rfl cll cll cll cl) | (apply call_upd (c2) rfl cll cll cll cl) | (apply call_upd (c3) rfl cll cll cll cl) | (apply call_upd (c4) rfl cll cll cll cl) | (apply call_pure (rrightR_C ⟨2, xs, xt, xe, Vlt.zero, .nil⟩) cll cl)))))
        all_goals (refine out_eq ?_ ?_; rfl; simp [Closed, ClosedL, cRec_closed])
      · rw [if_neg (fun h => hr h.2)]
        (repeat' (first | simp (maxSteps := 2000000) -implicitDefEqProofs only [A_clavigerref6_ToRecord, e0, e1, e3, hr, e1, zr_shard, zr_to, zr_epoch, zr_vault, zr_vaults, len_lst, rk_ext, fk_ext, sm_c, sm_a, numI_len, lr_api, lr, lr2, oO, oN, oG, oNG, oM, oF, oL, rg, ci, seval, resAll, resL, resV, blkAt, undef, fillV, evParts, footOp, wrOp, chk, disj] | split | ((first | apply ck_call | apply cfk_call); (first | (apply call_upd (c1) rfl cll cll cll cl) | (apply call_upd (c2) rfl cll cll cll cl) | (apply call_upd (c3) rfl cll cll cll cl) | (apply call_upd (c4) rfl cll cll cll cl) | (apply call_pure (rrightR_C ⟨2, xs, xt, xe, Vlt.zero, .nil⟩) cll cl)))))
        all_goals (refine out_eq ?_ ?_; rfl; simp [Closed, ClosedL, cRec_closed])
    · rw [if_neg (fun h => he h.1)]
      by_cases e1 : (E).bad = true
      · (repeat' (first | simp (maxSteps := 2000000) -implicitDefEqProofs only [A_clavigerref6_ToRecord, e0, e1, e1, zr_shard, zr_to, zr_epoch, zr_vault, zr_vaults, len_lst, rk_ext, fk_ext, sm_c, sm_a, numI_len, lr_api, lr, lr2, oO, oN, oG, oNG, oM, oF, oL, rg, ci, seval, resAll, resL, resV, blkAt, undef, fillV, evParts, footOp, wrOp, chk, disj] | split | ((first | apply ck_call | apply cfk_call); (first | (apply call_upd (c1) rfl cll cll cll cl) | (apply call_upd (c2) rfl cll cll cll cl) | (apply call_upd (c3) rfl cll cll cll cl) | (apply call_upd (c4) rfl cll cll cll cl)))))
        all_goals (refine out_eq ?_ ?_; rfl; simp [Closed, ClosedL, cRec_closed])
      · have e1' : (E).bad = false := by simpa using e1
        have e3 : (0 : Int) < (E).b.l.length := by
          have : ¬ (E).b.l.length = 0 := fun h => he ⟨e1', h⟩
          omega
        (repeat' (first | simp (maxSteps := 2000000) -implicitDefEqProofs only [A_clavigerref6_ToRecord, e0, e1', e3, e1, zr_shard, zr_to, zr_epoch, zr_vault, zr_vaults, len_lst, rk_ext, fk_ext, sm_c, sm_a, numI_len, lr_api, lr, lr2, oO, oN, oG, oNG, oM, oF, oL, rg, ci, seval, resAll, resL, resV, blkAt, undef, fillV, evParts, footOp, wrOp, chk, disj] | split | ((first | apply ck_call | apply cfk_call); (first | (apply call_upd (c1) rfl cll cll cll cl) | (apply call_upd (c2) rfl cll cll cll cl) | (apply call_upd (c3) rfl cll cll cll cl) | (apply call_upd (c4) rfl cll cll cll cl)))))
        all_goals (refine out_eq ?_ ?_; rfl; simp [Closed, ClosedL, cRec_closed])
  rw [if_neg k2]
  rw [← hk] at k3
  rw [if_neg k3]
  by_cases k4 : k = 4
  · rw [if_pos k4]
    subst k4
    have o2 := ok_drop 1 _ o1
    have c2 := rbyte_C (dropS 1 r) o1
    have c3 := rnumber_walk (dropS 1 (dropS 1 r)) o2
    generalize oneV (dropS 1 r) = xs at *
    generalize numB (takeL 8 (dropS 1 (dropS 1 r)).b.l) = xe at *
    generalize dropS 8 (dropS 1 (dropS 1 r)) = E at *
    generalize dropS 1 (dropS 1 r) = s2 at *
    generalize dropS 1 r = s1 at *
    unfold rrecOut
    simp only []
    by_cases he : endP E
    · obtain ⟨e1, e2⟩ := he
      have e3 : ¬ (0 : Int) < (E).b.l.length := by omega
      by_cases hr : RightR ⟨4, xs, 0, xe, Vlt.zero, .nil⟩
      · rw [if_pos ⟨⟨e1, e2⟩, hr⟩]
        (repeat' (first | simp (maxSteps := 2000000) -implicitDefEqProofs only [A_clavigerref6_ToRecord, e0, e1, e3, hr, e1, zr_shard, zr_to, zr_epoch, zr_vault, zr_vaults, len_lst, rk_ext, fk_ext, sm_c, sm_a, numI_len, lr_api, lr, lr2, oO, oN, oG, oNG, oM, oF, oL, rg, ci, seval, resAll, resL, resV, blkAt, undef, fillV, evParts, footOp, wrOp, chk, disj] | split | ((first | apply ck_call | apply cfk_call); (first | (apply call_upd (c1) rfl cll cll cll cl) | (apply call_upd (c2) rfl cll cll cll cl) | (apply call_upd (c3) rfl cll cll cll cl) | (apply call_pure (rrightR_C ⟨4, xs, 0, xe, Vlt.zero, .nil⟩) cll cl)))))
        all_goals (refine out_eq ?_ ?_; rfl; simp [Closed, ClosedL, cRec_closed])
      · rw [if_neg (fun h => hr h.2)]
        (repeat' (first | simp (maxSteps := 2000000) -implicitDefEqProofs only [A_clavigerref6_ToRecord, e0, e1, e3, hr, e1, zr_shard, zr_to, zr_epoch, zr_vault, zr_vaults, len_lst, rk_ext, fk_ext, sm_c, sm_a, numI_len, lr_api, lr, lr2, oO, oN, oG, oNG, oM, oF, oL, rg, ci, seval, resAll, resL, resV, blkAt, undef, fillV, evParts, footOp, wrOp, chk, disj] | split | ((first | apply ck_call | apply cfk_call); (first | (apply call_upd (c1) rfl cll cll cll cl) | (apply call_upd (c2) rfl cll cll cll cl) | (apply call_upd (c3) rfl cll cll cll cl) | (apply call_pure (rrightR_C ⟨4, xs, 0, xe, Vlt.zero, .nil⟩) cll cl)))))
        all_goals (refine out_eq ?_ ?_; rfl; simp [Closed, ClosedL, cRec_closed])
    · rw [if_neg (fun h => he h.1)]
      by_cases e1 : (E).bad = true
      · (repeat' (first | simp (maxSteps := 2000000) -implicitDefEqProofs only [A_clavigerref6_ToRecord, e0, e1, e1, zr_shard, zr_to, zr_epoch, zr_vault, zr_vaults, len_lst, rk_ext, fk_ext, sm_c, sm_a, numI_len, lr_api, lr, lr2, oO, oN, oG, oNG, oM, oF, oL, rg, ci, seval, resAll, resL, resV, blkAt, undef, fillV, evParts, footOp, wrOp, chk, disj] | split | ((first | apply ck_call | apply cfk_call); (first | (apply call_upd (c1) rfl cll cll cll cl) | (apply call_upd (c2) rfl cll cll cll cl) | (apply call_upd (c3) rfl cll cll cll cl)))))
        all_goals (refine out_eq ?_ ?_; rfl; simp [Closed, ClosedL, cRec_closed])
      · have e1' : (E).bad = false := by simpa using e1
        have e3 : (0 : Int) < (E).b.l.length := by
          have : ¬ (E).b.l.length = 0 := fun h => he ⟨e1', h⟩
          omega
        (repeat' (first | simp (maxSteps := 2000000) -implicitDefEqProofs only [A_clavigerref6_ToRecord, e0, e1', e3, e1, zr_shard, zr_to, zr_epoch, zr_vault, zr_vaults, len_lst, rk_ext, fk_ext, sm_c, sm_a, numI_len, lr_api, lr, lr2, oO, oN, oG, oNG, oM, oF, oL, rg, ci, seval, resAll, resL, resV, blkAt, undef, fillV, evParts, footOp, wrOp, chk, disj] | split | ((first | apply ck_call | apply cfk_call); (first | (apply call_upd (c1) rfl cll cll cll cl) | (apply call_upd (c2) rfl cll cll cll cl) | (apply call_upd (c3) rfl cll cll cll cl)))))
        all_goals (refine out_eq ?_ ?_; rfl; simp [Closed, ClosedL, cRec_closed])
  · rw [if_neg k4]
    generalize dropS 1 r = E at *
    clear hk
    unfold rrecOut
    simp only []
    by_cases he : endP E
    · obtain ⟨e1, e2⟩ := he
      have e3 : ¬ (0 : Int) < (E).b.l.length := by omega
      by_cases hr : RightR ⟨k, 0, 0, 0, Vlt.zero, .nil⟩
      · rw [if_pos ⟨⟨e1, e2⟩, hr⟩]
        (repeat' (first | simp (maxSteps := 2000000) -implicitDefEqProofs only [A_clavigerref6_ToRecord, e0, e1, e3, hr, k1, k2, k3, k4, zr_shard, zr_to, zr_epoch, zr_vault, zr_vaults, len_lst, rk_ext, fk_ext, sm_c, sm_a, numI_len, lr_api, lr, lr2, oO, oN, oG, oNG, oM, oF, oL, rg, ci, seval, resAll, resL, resV, blkAt, undef, fillV, evParts, footOp, wrOp, chk, disj] | split | ((first | apply ck_call | apply cfk_call); (first | (apply call_upd (c1) rfl cll cll cll cl) | (apply call_pure (rrightR_C ⟨k, 0, 0, 0, Vlt.zero, .nil⟩) cll cl)))))
        all_goals (refine out_eq ?_ ?_; rfl; simp [Closed, ClosedL, cRec_closed])
      · rw [if_neg (fun h => hr h.2)]
        (repeat' (first | simp (maxSteps := 2000000) -implicitDefEqProofs only [A_clavigerref6_ToRecord, e0, e1, e3, hr, k1, k2, k3, k4, zr_shard, zr_to, zr_epoch, zr_vault, zr_vaults, len_lst, rk_ext, fk_ext, sm_c, sm_a, numI_len, lr_api, lr, lr2, oO, oN, oG, oNG, oM, oF, oL, rg, ci, seval, resAll, resL, resV, blkAt, undef, fillV, evParts, footOp, wrOp, chk, disj] | split | ((first | apply ck_call | apply cfk_call); (first | (apply call_upd (c1) rfl cll cll cll cl) | (apply call_pure (rrightR_C ⟨k, 0, 0, 0, Vlt.zero, .nil⟩) cll cl)))))
        all_goals (refine out_eq ?_ ?_; rfl; simp [Closed, ClosedL, cRec_closed])
    · rw [if_neg (fun h => he h.1)]
      by_cases e1 : (E).bad = true
      · (repeat' (first | simp (maxSteps := 2000000) -implicitDefEqProofs only [A_clavigerref6_ToRecord, e0, e1, k1, k2, k3, k4, zr_shard, zr_to, zr_epoch, zr_vault, zr_vaults, len_lst, rk_ext, fk_ext, sm_c, sm_a, numI_len, lr_api, lr, lr2, oO, oN, oG, oNG, oM, oF, oL, rg, ci, seval, resAll, resL, resV, blkAt, undef, fillV, evParts, footOp, wrOp, chk, disj] | split | ((first | apply ck_call | apply cfk_call); (first | (apply call_upd (c1) rfl cll cll cll cl)))))
        all_goals (refine out_eq ?_ ?_; rfl; simp [Closed, ClosedL, cRec_closed])
      · have e1' : (E).bad = false := by simpa using e1
        have e3 : (0 : Int) < (E).b.l.length := by
          have : ¬ (E).b.l.length = 0 := fun h => he ⟨e1', h⟩
          omega
        (repeat' (first | simp (maxSteps := 2000000) -implicitDefEqProofs only [A_clavigerref6_ToRecord, e0, e1', e3, k1, k2, k3, k4, zr_shard, zr_to, zr_epoch, zr_vault, zr_vaults, len_lst, rk_ext, fk_ext, sm_c, sm_a, numI_len, lr_api, lr, lr2, oO, oN, oG, oNG, oM, oF, oL, rg, ci, seval, resAll, resL, resV, blkAt, undef, fillV, evParts, footOp, wrOp, chk, disj] | split | ((first | apply ck_call | apply cfk_call); (first | (apply call_upd (c1) rfl cll cll cll cl)))))
        all_goals (refine out_eq ?_ ?_; rfl; simp [Closed, ClosedL, cRec_closed])
end Go.Proofs.YtfpoebmihjbknaaGreat.VA

/- Vaults, requests, replies, records that are the same: the document's. -/
set_option linter.unusedVariables false
set_option linter.unusedSimpArgs false
set_option maxRecDepth 100000
namespace Go.Proofs.YtfpoebmihjbknaaGreat.VA
open Go
attribute [local irreducible] WK NK XK TK RK FK CK CFK CallRel C
def samesV (a b : List Vlt) : Prop := a.length = b.length ∧ ∀ i, i < a.length → sameV (a.getD i default) (b.getD i default)
theorem samesV_self (a : List Vlt) : samesV a a := ⟨rfl, fun i _ => ⟨rfl, rfl, rfl, rfl, rfl, rfl, rfl, rfl, rfl⟩⟩
theorem rvaultsT_C (a b : Lst Vlt) (h : samesV a.l b.l) (hl : a.l.length ≤ 1000000) : C Tryz.prog 22 [lstV cVlt a, lstV cVlt b] [] (vb true) [] := by
  refine C_of mixed Tryz.func22 A_clavigerref6_Vaults_ok A_clavigerref6_Vaults_res _ A_clavigerref6_Vaults_nt ?_
  have e : (a.l.length : Int) = b.l.length := by rw [h.1]
  have hm : a.l.length ≤ 140737488355328 := by omega
  (repeat' (first | simp (maxSteps := 2000000) -implicitDefEqProofs only [A_clavigerref6_Vaults, e, len_lst, rk_ext, fk_ext, sm_c, sm_a, numI_len, lr_api, lr, lr2, oO, oN, oG, oNG, oM, oF, oL, rg, ci, seval, resAll, resL, resV, blkAt, undef, fillV, evParts, footOp, wrOp, chk, disj] | split))
  refine wk_loop (fun m S H => ∃ i : Nat, i ≤ a.l.length ∧ m = a.l.length - i ∧ S = (lstV cVlt a :: lstV cVlt b :: .dead :: .dead :: vb false :: vi .i64 i :: .dead :: .dead :: .dead :: .dead :: .dead :: .dead :: .dead :: .dead :: .dead :: .dead :: .dead :: .dead :: .dead :: .dead :: .dead :: .dead :: .dead :: .dead :: .dead :: .dead :: .dead :: []) ∧ H = []) (a.l.length) ⟨0, Nat.zero_le _, rfl, rfl, rfl⟩ (by refine .ren _ _ _ [] (by decide) (by intro k h; first | exact absurd h (Nat.not_lt_zero k) | (simp at h; done) | (rcases k with _ | _ | _ | k <;> first | rfl | (exfalso; omega) | (simp at h; done))) ?_ ?_ <;> simp [KeepS, KeepH, ArgRel, ArgRelL, argL_cl, arg_cl, row_l_of, row_l_nil, bn_len, blkAt]) ?_
  rintro m S H ⟨i, hi, rfl, rfl, rfl⟩ J hJ
  have d0 : (0 : Int) ≤ i := by omega
  by_cases hin : i < a.l.length
  · have d1 : (i : Int) < b.l.length := by omega
    have d1' : i < b.l.length := by omega
    have w1 : IntKind.i64.wrap ((i : Int) + 1) = ((i + 1 : Nat) : Int) := by rw [wrap_id _ (by omega) (by omega)]; omega
    have g1 := rd_flat cVlt_len a.l i hin
    have g2 := rd_flat cVlt_len b.l i d1'
    have hs := h.2 i hin
    generalize a.l.getD i default = x at *
    generalize b.l.getD i default = y at *
    (repeat' (first | simp (maxSteps := 2000000) -implicitDefEqProofs only [A_clavigerref6_Vaults_L0, e, d0, d1, w1, g1, g2, hs, idx_lst cVlt_len, len_lst, rk_ext, fk_ext, sm_c, sm_a, numI_len, lr_api, lr, lr2, oO, oN, oG, oNG, oM, oF, oL, rg, ci, seval, resAll, resL, resV, blkAt, undef, fillV, evParts, footOp, wrOp, chk, disj] | split | ((first | apply ck_call | apply cfk_call); (first | (apply call_pure (rsame_C x y) cll cl)))))
    exact hJ _ _ _ _ _ (by omega) ⟨i + 1, by omega, rfl, rfl, rfl⟩ (by refine .ren _ _ _ [] (by decide) (by intro k h; first | exact absurd h (Nat.not_lt_zero k) | (simp at h; done) | (rcases k with _ | _ | _ | k <;> first | rfl | (exfalso; omega) | (simp at h; done))) ?_ ?_ <;> simp [KeepS, KeepH, ArgRel, ArgRelL, argL_cl, arg_cl, row_l_of, row_l_nil, bn_len, blkAt])
  · obtain rfl : i = a.l.length := by omega
    have d1 : ¬ ((a.l.length : Nat) : Int) < a.l.length := by omega
    (repeat' (first | simp (maxSteps := 2000000) -implicitDefEqProofs only [A_clavigerref6_Vaults_L0, K_clavigerref6_Vaults_L0, d1, len_lst, rk_ext, fk_ext, sm_c, sm_a, numI_len, lr_api, lr, lr2, oO, oN, oG, oNG, oM, oF, oL, rg, ci, seval, resAll, resL, resV, blkAt, undef, fillV, evParts, footOp, wrOp, chk, disj] | split))
    exact out_eq rfl trivial
def sameR (a b : Rec) : Prop := a.kind = b.kind ∧ a.shard = b.shard ∧ a.to = b.to ∧ a.epoch = b.epoch ∧ sameV a.vault b.vault ∧ samesV a.vaults.l b.vaults.l
end Go.Proofs.YtfpoebmihjbknaaGreat.VA

/- What is written is read: plain laws of the codec. -/
set_option linter.unusedVariables false
set_option linter.unusedSimpArgs false
set_option maxRecDepth 100000
namespace Go.Proofs.YtfpoebmihjbknaaGreat.VA
open Go
attribute [local irreducible] WK NK XK TK RK FK CK CFK CallRel C
theorem ofNat_toNat' (a : Nat) : (UInt8.ofNat a).toNat = a % 256 := by simp
theorem numB_numF' (n : Nat) (hn : n < 18446744073709551616) : numB (numF n) = n := by
  simp only [numB, numF, List.foldl_cons, List.foldl_nil, ofNat_toNat']
  omega
theorem right_wgB {x : Vlt} (h : RightV x) (hw : x.wiped = true) : x.gone = true := by
  have := h.2.2
  split at this
  · assumption
  · rw [hw] at this; exact absurd this.1 (by decide)
def At (r : Rd) (l : List UInt8) : Prop := r.bad = false ∧ r.b.l = l
theorem at_rd0 (b : Row) : At (rd0 b) b.l := ⟨rfl, rfl⟩
theorem at_drop {r : Rd} {a l : List UInt8} (n : Nat) (h : At r (a ++ l)) (ha : a.length = n) : At (dropS n r) l ∧ takeL n r.b.l = a := by
  obtain ⟨h1, h2⟩ := h
  have hl : ¬ r.b.l.length < n := by rw [h2, List.length_append]; omega
  refine ⟨⟨?_, ?_⟩, ?_⟩
  · unfold dropS; rw [if_neg hl]; exact h1
  · unfold dropS; rw [if_neg hl]
    simp only [cut_l, h2]
    rw [← ha, List.drop_left' rfl, List.take_of_length_le (by rw [List.length_append]; omega)]
  · unfold takeL; rw [if_neg hl, h2, ← ha, List.take_left' rfl]
theorem at_one {r : Rd} {x : UInt8} {l : List UInt8} (h : At r (x :: l)) : At (dropS 1 r) l ∧ oneV r = x.toNat := by
  obtain ⟨h1, h2⟩ := at_drop (a := [x]) 1 h rfl
  refine ⟨h1, ?_⟩
  unfold oneV; rw [h2]; rfl
theorem at_num {r : Rd} {g : Int} {l : List UInt8} (h : At r (numI g ++ l)) (h0 : 0 ≤ g) (h1 : g < 18446744073709551616) : At (dropS 8 r) l ∧ (numB (takeL 8 r.b.l) : Int) = g := by
  obtain ⟨h2, h3⟩ := at_drop 8 h (numI_len g)
  refine ⟨h2, ?_⟩
  rw [h3, numI, numB_numF' _ (by omega)]; omega
theorem at_bn {r : Rd} {n : Nat} {d : Bn n} {l : List UInt8} (h : At r (d.1 ++ l)) : At (dropS n r) l ∧ bnT n r.b.l = d := by
  obtain ⟨h2, h3⟩ := at_drop n h d.2
  exact ⟨h2, Subtype.ext h3⟩
theorem at_text {r : Rd} {s l : List UInt8} (h : At r (UInt8.ofNat s.length :: (s ++ l))) (hs : s.length ≤ 255) : At (textS r) l ∧ (textR r).l = s := by
  obtain ⟨h1, h2⟩ := at_one h
  have e : oneV r = s.length := by rw [h2, ofNat_toNat']; omega
  unfold textS textR
  by_cases h0 : s.length = 0
  · have e0 : oneV r = 0 := by omega
    rw [if_pos e0, if_pos e0]
    have : s = [] := List.length_eq_zero_iff.1 h0
    subst this
    exact ⟨h1, by rw [cut_l]; simp⟩
  · have e0 : ¬ oneV r = 0 := by omega
    rw [if_neg e0, if_neg e0, e, Int.toNat_natCast]
    obtain ⟨h3, h4⟩ := at_drop s.length h1 rfl
    exact ⟨h3, by rw [row_l_of, h4]⟩
theorem b8_nat {i : Int} (h0 : 0 ≤ i) (h1 : i ≤ 255) : ((b8 i).toNat : Int) = i := by
  have e : IntKind.u8.wrap i = i % 256 := rfl
  rw [b8, e, by8, ofNat_toNat']; omega
attribute [local irreducible] dropS textS textR oneV takeL bnT numB
theorem vlt_back {x : Vlt} {r : Rd} {l : List UInt8} (hr : RightV x) (h : At r (putV x ++ l)) : sameV (vltV r) x ∧ At (vltE r) l ∧ RightV (vltV r) := by
  have hg := hr.1
  have hg2 := hr.2.1
  have hs := right_sec hr
  have e : putV x ++ l = x.id.1 ++ (numI x.gen ++ (flagF x :: b8 x.limit :: b8 x.used :: (x.pin.1 ++ (x.owner.1 ++ (UInt8.ofNat x.secret.l.length :: (x.secret.l ++ l)))))) := by
    simp [putV, vltRows, joinF, Row.l]
  rw [e] at h
  obtain ⟨a1, v1⟩ := at_bn h
  obtain ⟨a2, v2⟩ := at_num a1 (by omega) (by omega)
  obtain ⟨a3, v3⟩ := at_one a2
  have hf : badF (flagF x).toNat = false ∧ (((flagF x).toNat : Int) != 0) = x.gone ∧ (((flagF x).toNat : Int) == 3) = x.wiped := by
    unfold flagF
    by_cases hw : x.wiped = true
    · have hgo := right_wgB hr hw
      rw [if_pos hw, hw, hgo]; decide
    · have hw' : x.wiped = false := by simpa using hw
      rw [if_neg hw, hw']
      by_cases hgo : x.gone = true
      · rw [if_pos hgo, hgo]; decide
      · have hgo' : x.gone = false := by simpa using hgo
        rw [if_neg hgo, hgo']; decide
  have v3' : oneV (vltS r).s2 = (flagF x).toNat := v3
  have e3 : (vltS r).s3 = dropS 1 (dropS 8 (dropS 4 r)) := by
    show ({ dropS 1 (vltS r).s2 with bad := (dropS 1 (vltS r).s2).bad || badF (oneV (vltS r).s2) } : Rd) = dropS 1 (vltS r).s2
    rw [v3', hf.1]; cases dropS 1 (vltS r).s2; simp
  have hlu : 0 ≤ x.limit ∧ x.limit ≤ 32 ∧ 0 ≤ x.used ∧ x.used ≤ 32 := by
    have := hr.2.2
    split at this <;> omega
  obtain ⟨a4, v4⟩ := at_one a3
  obtain ⟨a5, v5⟩ := at_one a4
  obtain ⟨a6, v6⟩ := at_bn a5
  obtain ⟨a7, v7⟩ := at_bn a6
  obtain ⟨a8, v8⟩ := at_text a7 (by omega)
  rw [b8_nat (by omega) (by omega)] at v4 v5
  have w1 : (vltS r).s1 = dropS 4 r := rfl
  have w3 := e3
  have w4 : (vltS r).s4 = dropS 1 (dropS 1 (dropS 8 (dropS 4 r))) := by rw [show (vltS r).s4 = dropS 1 (vltS r).s3 from rfl, w3]
  have w5 : (vltS r).s5 = dropS 1 (dropS 1 (dropS 1 (dropS 8 (dropS 4 r)))) := by rw [show (vltS r).s5 = dropS 1 (vltS r).s4 from rfl, w4]
  have w6 : (vltS r).s6 = dropS 16 (dropS 1 (dropS 1 (dropS 1 (dropS 8 (dropS 4 r))))) := by rw [show (vltS r).s6 = dropS 16 (vltS r).s5 from rfl, w5]
  have w7 : (vltS r).s7 = dropS 16 (dropS 16 (dropS 1 (dropS 1 (dropS 1 (dropS 8 (dropS 4 r)))))) := by rw [show (vltS r).s7 = dropS 16 (vltS r).s6 from rfl, w6]
  have w8 : (vltS r).s8 = textS (dropS 16 (dropS 16 (dropS 1 (dropS 1 (dropS 1 (dropS 8 (dropS 4 r))))))) := by rw [show (vltS r).s8 = textS (vltS r).s7 from rfl, w7]
  have hsame : sameV (vltV r) x := by
    refine ⟨v1, ?_, ?_, ?_, ?_, ?_, ?_, ?_, ?_⟩
    · show (numB (takeL 8 (vltS r).s1.b.l) : Int) = _
      rw [w1]; exact v2
    · show bnT 16 (vltS r).s5.b.l = _
      rw [w5]; exact v6
    · show (textR (vltS r).s7).l = _
      rw [w7]; exact v8
    · show oneV (vltS r).s3 = _
      rw [w3]; exact v4
    · show oneV (vltS r).s4 = _
      rw [w4]; exact v5
    · show bnT 16 (vltS r).s6.b.l = _
      rw [w6]; exact v7
    · show (oneV (vltS r).s2 != 0) = _
      rw [v3']; exact hf.2.1
    · show (oneV (vltS r).s2 == 3) = _
      rw [v3']; exact hf.2.2
  have hright : RightV (vltV r) := by
    obtain ⟨s1, s2, s3, s4, s5, s6, s7, s8, s9⟩ := hsame
    unfold RightV at hr ⊢
    rw [s2, s3, s4, s5, s6, s7, s8, s9]; exact hr
  refine ⟨hsame, ⟨?_, ?_⟩, hright⟩
  · show ((vltS r).s8.bad || !decide (RightV (vltV r))) = false
    rw [w8, a8.1, decide_eq_true hright]; rfl
  · show (vltS r).s8.b.l = l
    rw [w8]; exact a8.2
end Go.Proofs.YtfpoebmihjbknaaGreat.VA

/- What is written is read: requests, records. -/
set_option linter.unusedVariables false
set_option linter.unusedSimpArgs false
set_option maxRecDepth 100000
namespace Go.Proofs.YtfpoebmihjbknaaGreat.VA
open Go
attribute [local irreducible] WK NK XK TK RK FK CK CFK CallRel C
attribute [local irreducible] dropS textS textR oneV takeL bnT numB
theorem rightV_same {a b : Vlt} (h : sameV a b) (hb : RightV b) : RightV a := by
  obtain ⟨s1, s2, s3, s4, s5, s6, s7, s8, s9⟩ := h
  unfold RightV at hb ⊢
  rw [s2, s3, s4, s5, s6, s7, s8, s9]; exact hb
theorem sameV_trans {a b c : Vlt} (h : sameV a b) (k : sameV b c) : sameV a c := by
  obtain ⟨s1, s2, s3, s4, s5, s6, s7, s8, s9⟩ := h
  obtain ⟨t1, t2, t3, t4, t5, t6, t7, t8, t9⟩ := k
  exact ⟨s1.trans t1, s2.trans t2, s3.trans t3, s4.trans t4, s5.trans t5, s6.trans t6, s7.trans t7, s8.trans t8, s9.trans t9⟩
theorem sameV_symm {a b : Vlt} (h : sameV a b) : sameV b a := by
  obtain ⟨s1, s2, s3, s4, s5, s6, s7, s8, s9⟩ := h
  exact ⟨s1.symm, s2.symm, s3.symm, s4.symm, s5.symm, s6.symm, s7.symm, s8.symm, s9.symm⟩
theorem rising_same {a b : List Vlt} (h : samesV a b) (hb : RisingP b) : RisingP a := by
  refine ⟨by rw [h.1]; exact hb.1, fun i hi => ?_⟩
  have hi' : i < b.length := by rw [← h.1]; exact hi
  obtain ⟨h1, h2⟩ := hb.2 i hi'
  refine ⟨rightV_same (h.2 i hi) h1, fun h0 => ?_⟩
  rw [(h.2 i hi).1, (h.2 (i - 1) (by omega)).1]
  exact h2 h0
theorem rightR_same {a b : Rec} (h : sameR a b) (hb : RightR b) : RightR a := by
  obtain ⟨h1, h2, h3, h4, h5, h6⟩ := h
  unfold RightR EpochP at hb ⊢
  rw [h1, h2, h3, h4, h6.1]
  rcases hb with ⟨k, hv, hb⟩ | ⟨⟨e1, e2, e3, e4, e5⟩, hb⟩
  · exact .inl ⟨k, rightV_same h5 hv, hb⟩
  · refine .inr ⟨⟨e1, e2, e3, e4, sameV_trans h5 e5⟩, ?_⟩
    rcases hb with hb | ⟨k, t, hr⟩ | hb
    · exact .inl hb
    · exact .inr (.inl ⟨k, t, rising_same h6 hr⟩)
    · exact .inr (.inr hb)
attribute [local irreducible] vltV vltE putV
theorem seq_back {l : List Vlt} {r : Rd} {rest : List UInt8} (hl : ∀ i, i < l.length → RightV (l.getD i default)) (h : At r (l.flatMap putV ++ rest)) : ∀ i, i ≤ l.length → At (seqV i r).2 ((l.drop i).flatMap putV ++ rest) ∧ ∀ j, j < i → sameV ((seqV i r).1.getD j default) (l.getD j default)
  | 0, _ => ⟨h, fun j hj => by omega⟩
  | i + 1, hi => by
    obtain ⟨h1, h2⟩ := seq_back hl h i (by omega)
    have e : l.drop i = l.getD i default :: l.drop (i + 1) := by rw [List.drop_eq_getElem_cons (by omega)]; simp [List.getElem?_eq_getElem (show i < l.length by omega)]
    rw [e, List.flatMap_cons, List.append_assoc] at h1
    obtain ⟨s, a, _⟩ := vlt_back (hl i (by omega)) h1
    refine ⟨a, fun j hj => ?_⟩
    have ln := seqV_len r i
    show sameV (((seqV i r).1 ++ [vltV (seqV i r).2]).getD j default) _
    by_cases hji : j < i
    · rw [List.getD_eq_getElem?_getD, List.getElem?_append_left (by omega), ← List.getD_eq_getElem?_getD]
      exact h2 j hji
    · obtain rfl : j = i := by omega
      rw [List.getD_eq_getElem?_getD, List.getElem?_append_right (by omega), ln, Nat.sub_self]
      exact s
theorem rec_back {x : Rec} {r : Rd} (hx : RightR x) (he : 0 ≤ x.epoch) (h : At r (putR x)) : sameR (recS r).x x ∧ endP (recS r).e ∧ RightR (recS r).x := by
  suffices hh : sameR (recS r).x x ∧ endP (recS r).e from ⟨hh.1, hh.2, rightR_same hh.1 hx⟩
  have fin : ∀ {E : Rd}, At E [] → endP E := fun h => ⟨h.1, by rw [h.2]; rfl⟩
  rcases hx with ⟨k, hv, z1, z2, z3, z4⟩ | ⟨⟨e1, e2, e3, e4, e5⟩, ⟨k, t1, t2, z4⟩ | ⟨k, t, hr⟩ | ⟨k, t, z4⟩⟩
  · have e : putR x = b8 1 :: (putV x.vault ++ []) := by unfold putR; rw [if_pos k, k]; simp
    rw [e] at h
    obtain ⟨a1, v1⟩ := at_one h
    obtain ⟨s, a2, _⟩ := vlt_back hv a1
    have v1' : oneV r = 1 := v1
    unfold recS
    rw [if_pos v1']
    refine ⟨⟨k.symm, z1.symm, z2.symm, z3.symm, s, ?_⟩, fin a2⟩
    rw [List.length_eq_zero_iff.1 z4]; exact samesV_self _
  · have e : putR x = b8 2 :: b8 x.shard :: b8 x.to :: (numI x.epoch ++ []) := by unfold putR; rw [if_neg (by omega), if_pos k, k]; simp
    rw [e] at h
    obtain ⟨a1, v1⟩ := at_one h
    obtain ⟨a2, v2⟩ := at_one a1
    obtain ⟨a3, v3⟩ := at_one a2
    obtain ⟨a4, v4⟩ := at_num a3 he (by omega)
    rw [b8_nat (by omega) (by omega)] at v2 v3
    have v1' : oneV r = 2 := v1
    unfold recS
    rw [v1', if_neg (by decide), if_pos rfl]
    refine ⟨⟨k.symm, v2, v3, v4, sameV_symm e5, ?_⟩, fin a4⟩
    rw [List.length_eq_zero_iff.1 z4]; exact samesV_self _
  · have hl4 := hr.1
    have e : putR x = b8 3 :: b8 x.shard :: (numI x.epoch ++ (UInt8.ofNat x.vaults.l.length :: (x.vaults.l.flatMap putV ++ []))) := by unfold putR; rw [if_neg (by omega), if_neg (by omega), if_pos k, k]; simp
    rw [e] at h
    obtain ⟨a1, v1⟩ := at_one h
    obtain ⟨a2, v2⟩ := at_one a1
    obtain ⟨a3, v3⟩ := at_num a2 he (by omega)
    obtain ⟨a4, v4⟩ := at_one a3
    rw [b8_nat (by omega) (by omega)] at v2
    have v1' : oneV r = 3 := v1
    have v4' : oneV (dropS 8 (dropS 1 (dropS 1 r))) = x.vaults.l.length := by rw [v4, ofNat_toNat']; omega
    obtain ⟨b1, b2⟩ := seq_back (fun i hi => (hr.2 i hi).1) a4 x.vaults.l.length (Nat.le_refl _)
    unfold recS
    rw [v1', if_neg (by decide), if_neg (by decide), if_pos rfl]
    have hm : (min (oneV (dropS 8 (dropS 1 (dropS 1 r)))) 5).toNat = x.vaults.l.length := by omega
    rw [hm]
    rw [List.drop_length] at b1
    refine ⟨⟨k.symm, v2, t.symm, v3, sameV_symm e5, ?_⟩, fin b1⟩
    show samesV (lstOf _).l _
    rw [lstOf_l]
    exact ⟨seqV_len _ _, fun i hi => b2 i (by rw [seqV_len] at hi; exact hi)⟩
  · have e : putR x = b8 4 :: b8 x.shard :: (numI x.epoch ++ []) := by unfold putR; rw [if_neg (by omega), if_neg (by omega), if_neg (by omega), k]; simp
    rw [e] at h
    obtain ⟨a1, v1⟩ := at_one h
    obtain ⟨a2, v2⟩ := at_one a1
    obtain ⟨a3, v3⟩ := at_num a2 he (by omega)
    rw [b8_nat (by omega) (by omega)] at v2
    have v1' : oneV r = 4 := v1
    unfold recS
    rw [v1', if_neg (by decide), if_neg (by decide), if_neg (by decide), if_pos rfl]
    refine ⟨⟨k.symm, v2, t.symm, v3, sameV_symm e5, ?_⟩, fin a3⟩
    rw [List.length_eq_zero_iff.1 z4]; exact samesV_self _
end Go.Proofs.YtfpoebmihjbknaaGreat.VA
