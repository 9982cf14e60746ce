/- Texts of this proof, one behind the other: Lref6, Jcodec, Rcodec, Scodec, Ucodec, Vcodec, Wcodec, Pcodec, Kcodec, Xcodec, Ycodec, Acodec, Back, Back2. -/
import Derived.Test.YtfpoebmihjbknaaPC
import Derived.Test.YtfpoebmihjbknaaVC
/- The compact code of the document's codec. -/
set_option linter.unusedVariables false
set_option maxRecDepth 100000
namespace Go.Proofs.Ytfpoebmihjbknaa.VA
open Go
noncomputable section
def A_clavigerref6_number : ACode := (.seq (rg [oO 2 (.mov (.c (.bool false)))]) (.seq (rg [oM 3 0, oO 4 (.bin .leq (.t 3) (.c (.int .u64 1099511627776))), oM 2 4]) .ret))
theorem A_clavigerref6_number_ok : Try.f26.body.bind (cCode Try.prog) = some A_clavigerref6_number := by kernel_rfl
theorem A_clavigerref6_number_res : cRes Try.prog Try.f26.results.toList = some [(.tmp 2)] := by kernel_rfl
theorem A_clavigerref6_number_nt : Try.f26.ntmps = 5 := by kernel_rfl
def A_clavigerref6_RightVault : ACode := (.seq (rg [oO 1 (.box (.t 0)), oO 2 (.mov (.c (.bool false)))]) (.seq (.seq (rg [oF 3 4 1, oL 4 3, oO 5 (.bin .lss (.t 4) (.c (.int .u64 1))), oM 6 5, oG 7 (.fieldAddr 4 (.t 1)) 6 false, oG 8 (.load none (.t 7)) 6 false, oG 9 (.call 26 [(.t 8)]) 6 false, oG 10 (.un .not (.t 9)) 6 false, oO 11 (.pick (.t 6) (.c (.bool true)) (.t 10))]) (.cond (.t 11) (.seq (rg [oO 2 (.mov (.c (.bool false)))]) .ret) .skip)) (.seq (.seq (rg [oF 12 40 1, oL 13 12]) (.cond (.t 13) (.seq (rg [oF 14 22 1, oL 15 14, oO 16 (.bin .eql (.t 15) (ci 0)), oM 17 16, oG 18 (.fieldAddr 23 (.t 1)) 17 true, oG 19 (.load none (.t 18)) 17 true, oG 20 (.bin .eql (.t 19) (ci 0)) 17 true, oO 21 (.pick (.t 17) (.t 20) (.c (.bool false))), oM 22 21, oG 23 (.fieldAddr 5 (.t 1)) 22 true, oG 24 (.load (some 16) (.t 23)) 22 true, oG 25 (.build z16 []) 22 true, oG 26 (.eqA false sh16 (.t 24) (.t 25)) 22 true, oO 27 (.pick (.t 22) (.t 26) (.c (.bool false))), oM 28 27, oG 29 (.fieldAddr 24 (.t 1)) 28 true, oG 30 (.load (some 16) (.t 29)) 28 true, oG 31 (.build z16 []) 28 true, oG 32 (.eqA false sh16 (.t 30) (.t 31)) 28 true, oO 33 (.pick (.t 28) (.t 32) (.c (.bool false))), oM 34 33, oG 35 (.fieldAddr 21 (.t 1)) 34 true, oG 36 (.load none (.t 35)) 34 true, oG 37 (.lenSl (.t 36)) 34 true, oG 38 (.bin .eql (.t 37) (ci 0)) 34 true, oO 39 (.pick (.t 34) (.t 38) (.c (.bool false))), oM 2 39]) .ret) .skip)) (.seq (rg [oF 40 41 1, oL 41 40, oO 42 (.un .not (.t 41)), oM 43 42, oG 44 (.fieldAddr 22 (.t 1)) 43 true, oG 45 (.load none (.t 44)) 43 true, oG 46 (.bin .geq (.t 45) (ci 1)) 43 true, oO 47 (.pick (.t 43) (.t 46) (.c (.bool false))), oM 48 47, oG 49 (.fieldAddr 22 (.t 1)) 48 true, oG 50 (.load none (.t 49)) 48 true, oG 51 (.bin .leq (.t 50) (ci 32)) 48 true, oO 52 (.pick (.t 48) (.t 51) (.c (.bool false))), oM 53 52, oG 54 (.fieldAddr 23 (.t 1)) 53 true, oG 55 (.load none (.t 54)) 53 true, oG 56 (.bin .geq (.t 55) (ci 0)) 53 true, oO 57 (.pick (.t 53) (.t 56) (.c (.bool false))), oM 58 57, oG 59 (.fieldAddr 23 (.t 1)) 58 true, oG 60 (.load none (.t 59)) 58 true, oG 61 (.fieldAddr 22 (.t 1)) 58 true, oG 62 (.load none (.t 61)) 58 true, oG 63 (.bin .lss (.t 60) (.t 62)) 58 true, oO 64 (.pick (.t 58) (.t 63) (.c (.bool false))), oM 65 64, oG 66 (.fieldAddr 21 (.t 1)) 65 true, oG 67 (.load none (.t 66)) 65 true, oG 68 (.lenSl (.t 67)) 65 true, oG 69 (.bin .leq (.t 68) (ci 64)) 65 true, oO 70 (.pick (.t 65) (.t 69) (.c (.bool false))), oM 2 70]) .ret))))
theorem A_clavigerref6_RightVault_ok : Try.f27.body.bind (cCode Try.prog) = some A_clavigerref6_RightVault := by kernel_rfl
theorem A_clavigerref6_RightVault_res : cRes Try.prog Try.f27.results.toList = some [(.tmp 2)] := by kernel_rfl
theorem A_clavigerref6_RightVault_nt : Try.f27.ntmps = 71 := by kernel_rfl
def A_clavigerref6_Rising_L0 : ACode := (.seq (.seq (rg [oM 7 3, oM 8 0, oO 9 (.lenSl (.t 8)), oO 10 (.bin .lss (.t 7) (.t 9))]) (.cond (.t 10) .skip (.exit 0))) (.seq (.block 1 (.seq (rg [oM 13 0, oM 14 3, oO 15 (.idxSl 42 (.t 13) (.t 14)), oO 16 (.load (some 42) (.t 15)), oO 17 (.call 27 [(.t 16)]), oO 18 (.un .not (.t 17)), oM 19 18, oG 20 (.mov (.t 3)) 19 false, oG 21 (.bin .gtr (.t 20) (ci 0)) 19 false, oG 22 (.mov (.t 21)) 19 false, oG 23 (.mov (.t 0)) 22 true, oG 24 (.mov (.t 3)) 22 true, oG 25 (.bin .sub (.t 24) (ci 1)) 22 true, oG 26 (.idxSl 42 (.t 23) (.t 25)) 22 true, oG 27 (.fieldAddr 0 (.t 26)) 22 true, oG 28 (.sliceArr 4 1 (.t 27) none none) 22 true, oG 29 (.toStr (.t 28)) 22 true, oG 30 (.mov (.t 0)) 22 true, oG 31 (.mov (.t 3)) 22 true, oG 32 (.idxSl 42 (.t 30) (.t 31)) 22 true, oG 33 (.fieldAddr 0 (.t 32)) 22 true, oG 34 (.sliceArr 4 1 (.t 33) none none) 22 true, oG 35 (.toStr (.t 34)) 22 true, oG 36 (.bin .geq (.t 29) (.t 35)) 22 true, oG 37 (.pick (.t 22) (.t 36) (.c (.bool false))) 19 false, oO 38 (.pick (.t 19) (.c (.bool true)) (.t 37))]) (.cond (.t 38) (.seq (rg [oO 2 (.mov (.c (.bool false)))]) .ret) .skip))) (rg [oM 11 3, oO 12 (.bin .add (.t 11) (ci 1)), oM 3 12])))
def A_clavigerref6_Rising : ACode := (.seq (rg [oO 2 (.mov (.c (.bool false)))]) (.seq (.seq (rg [oM 4 0, oO 5 (.lenSl (.t 4)), oO 6 (.bin .gtr (.t 5) (ci 4))]) (.cond (.t 6) (.seq (rg [oO 2 (.mov (.c (.bool false)))]) .ret) .skip)) (.seq (.seq (rg [oO 3 (.mov (ci 0))]) (.block 0 (.loop A_clavigerref6_Rising_L0))) (.seq (rg [oO 2 (.mov (.c (.bool true)))]) .ret))))
def K_clavigerref6_Rising_L0 : Kt := (.blk 0 (.seq (.seq (rg [oO 2 (.mov (.c (.bool true)))]) .ret) .fin))
theorem A_clavigerref6_Rising_ok : Try.f29.body.bind (cCode Try.prog) = some A_clavigerref6_Rising := by kernel_rfl
theorem A_clavigerref6_Rising_res : cRes Try.prog Try.f29.results.toList = some [(.tmp 2)] := by kernel_rfl
theorem A_clavigerref6_Rising_nt : Try.f29.ntmps = 39 := by kernel_rfl
def A_clavigerref6_nothing : ACode := (.seq (rg [oO 1 (.box (.t 0)), oO 2 (.mov (.c (.bool false)))]) (.seq (rg [oF 3 0 1, oO 4 (.load (some 4) (.t 3)), oO 5 (.build z4 []), oO 6 (.eqA false sh4 (.t 4) (.t 5)), oM 7 6, oG 8 (.fieldAddr 4 (.t 1)) 7 true, oG 9 (.load none (.t 8)) 7 true, oG 10 (.bin .eql (.t 9) (.c (.int .u64 0))) 7 true, oO 11 (.pick (.t 7) (.t 10) (.c (.bool false))), oM 12 11, oG 13 (.fieldAddr 5 (.t 1)) 12 true, oG 14 (.load (some 16) (.t 13)) 12 true, oG 15 (.build z16 []) 12 true, oG 16 (.eqA false sh16 (.t 14) (.t 15)) 12 true, oO 17 (.pick (.t 12) (.t 16) (.c (.bool false))), oM 18 17, oG 19 (.fieldAddr 21 (.t 1)) 18 true, oG 20 (.load none (.t 19)) 18 true, oG 21 (.lenSl (.t 20)) 18 true, oG 22 (.bin .eql (.t 21) (ci 0)) 18 true, oO 23 (.pick (.t 18) (.t 22) (.c (.bool false))), oM 24 23, oG 25 (.fieldAddr 22 (.t 1)) 24 true, oG 26 (.load none (.t 25)) 24 true, oG 27 (.bin .eql (.t 26) (ci 0)) 24 true, oO 28 (.pick (.t 24) (.t 27) (.c (.bool false))), oM 29 28, oG 30 (.fieldAddr 23 (.t 1)) 29 true, oG 31 (.load none (.t 30)) 29 true, oG 32 (.bin .eql (.t 31) (ci 0)) 29 true, oO 33 (.pick (.t 29) (.t 32) (.c (.bool false))), oM 34 33, oG 35 (.fieldAddr 24 (.t 1)) 34 true, oG 36 (.load (some 16) (.t 35)) 34 true, oG 37 (.build z16 []) 34 true, oG 38 (.eqA false sh16 (.t 36) (.t 37)) 34 true, oO 39 (.pick (.t 34) (.t 38) (.c (.bool false))), oM 40 39, oG 41 (.fieldAddr 40 (.t 1)) 40 true, oG 42 (.load none (.t 41)) 40 true, oG 43 (.un .not (.t 42)) 40 true, oO 44 (.pick (.t 40) (.t 43) (.c (.bool false))), oM 45 44, oG 46 (.fieldAddr 41 (.t 1)) 45 true, oG 47 (.load none (.t 46)) 45 true, oG 48 (.un .not (.t 47)) 45 true, oO 49 (.pick (.t 45) (.t 48) (.c (.bool false))), oM 2 49]) .ret))
theorem A_clavigerref6_nothing_ok : Try.f28.body.bind (cCode Try.prog) = some A_clavigerref6_nothing := by kernel_rfl
theorem A_clavigerref6_nothing_res : cRes Try.prog Try.f28.results.toList = some [(.tmp 2)] := by kernel_rfl
theorem A_clavigerref6_nothing_nt : Try.f28.ntmps = 50 := by kernel_rfl
def A_clavigerref6_RightRecord : ACode := (.seq (rg [oO 1 (.box (.t 0)), oO 2 (.mov (.c (.bool false)))]) (.seq (rg [oF 6 1 1, oL 7 6, oO 8 (.bin .geq (.t 7) (ci 0)), oM 9 8, oG 10 (.fieldAddr 1 (.t 1)) 9 true, oG 11 (.load none (.t 10)) 9 true, oG 12 (.bin .lss (.t 11) (ci 16)) 9 true, oO 13 (.pick (.t 9) (.t 12) (.c (.bool false))), oM 3 13]) (.seq (rg [oF 14 3 1, oL 15 14, oO 16 (.bin .geq (.t 15) (.c (.int .u64 1))), oM 17 16, oG 18 (.fieldAddr 3 (.t 1)) 17 true, oG 19 (.load none (.t 18)) 17 true, oG 20 (.call 26 [(.t 19)]) 17 true, oO 21 (.pick (.t 17) (.t 20) (.c (.bool false))), oM 4 21]) (.seq (rg [oF 22 2 1, oL 23 22, oO 24 (.bin .geq (.t 23) (ci 0)), oM 25 24, oG 26 (.fieldAddr 2 (.t 1)) 25 true, oG 27 (.load none (.t 26)) 25 true, oG 28 (.bin .lss (.t 27) (ci 8)) 25 true, oO 29 (.pick (.t 25) (.t 28) (.c (.bool false))), oM 5 29]) (.seq (.seq (rg [oF 30 0 1, oL 31 30]) (.block 0 (.seq (rg [oO 33 (.bin .eql (.t 31) (ci 1)), oM 32 33]) (.cond (.t 32) (.seq (rg [oF 34 4 1, oO 35 (.load (some 42) (.t 34)), oO 36 (.call 27 [(.t 35)]), oM 37 36, oG 38 (.fieldAddr 1 (.t 1)) 37 true, oG 39 (.load none (.t 38)) 37 true, oG 40 (.bin .eql (.t 39) (ci 0)) 37 true, oO 41 (.pick (.t 37) (.t 40) (.c (.bool false))), oM 42 41, oG 43 (.fieldAddr 2 (.t 1)) 42 true, oG 44 (.load none (.t 43)) 42 true, oG 45 (.bin .eql (.t 44) (ci 0)) 42 true, oO 46 (.pick (.t 42) (.t 45) (.c (.bool false))), oM 47 46, oG 48 (.fieldAddr 3 (.t 1)) 47 true, oG 49 (.load none (.t 48)) 47 true, oG 50 (.bin .eql (.t 49) (.c (.int .u64 0))) 47 true, oO 51 (.pick (.t 47) (.t 50) (.c (.bool false))), oM 52 51, oG 53 (.fieldAddr 46 (.t 1)) 52 true, oG 54 (.load none (.t 53)) 52 true, oG 55 (.lenSl (.t 54)) 52 true, oG 56 (.bin .eql (.t 55) (ci 0)) 52 true, oO 57 (.pick (.t 52) (.t 56) (.c (.bool false))), oM 2 57]) .ret) (.seq (rg [oO 59 (.bin .eql (.t 31) (ci 2)), oM 58 59]) (.cond (.t 58) (.seq (rg [oM 60 3, oM 61 60, oG 62 (.mov (.t 4)) 61 true, oO 63 (.pick (.t 61) (.t 62) (.c (.bool false))), oM 64 63, oG 65 (.mov (.t 5)) 64 true, oO 66 (.pick (.t 64) (.t 65) (.c (.bool false))), oM 67 66, oG 68 (.fieldAddr 4 (.t 1)) 67 true, oG 69 (.load (some 42) (.t 68)) 67 true, oG 70 (.call 28 [(.t 69)]) 67 true, oO 71 (.pick (.t 67) (.t 70) (.c (.bool false))), oM 72 71, oG 73 (.fieldAddr 46 (.t 1)) 72 true, oG 74 (.load none (.t 73)) 72 true, oG 75 (.lenSl (.t 74)) 72 true, oG 76 (.bin .eql (.t 75) (ci 0)) 72 true, oO 77 (.pick (.t 72) (.t 76) (.c (.bool false))), oM 2 77]) .ret) (.seq (rg [oO 79 (.bin .eql (.t 31) (ci 3)), oM 78 79]) (.cond (.t 78) (.seq (rg [oM 80 3, oM 81 80, oG 82 (.mov (.t 4)) 81 true, oO 83 (.pick (.t 81) (.t 82) (.c (.bool false))), oM 84 83, oG 85 (.fieldAddr 2 (.t 1)) 84 true, oG 86 (.load none (.t 85)) 84 true, oG 87 (.bin .eql (.t 86) (ci 0)) 84 true, oO 88 (.pick (.t 84) (.t 87) (.c (.bool false))), oM 89 88, oG 90 (.fieldAddr 4 (.t 1)) 89 true, oG 91 (.load (some 42) (.t 90)) 89 true, oG 92 (.call 28 [(.t 91)]) 89 true, oO 93 (.pick (.t 89) (.t 92) (.c (.bool false))), oM 94 93, oG 95 (.fieldAddr 46 (.t 1)) 94 true, oG 96 (.load none (.t 95)) 94 true, oG 97 (.call 29 [(.t 96)]) 94 true, oO 98 (.pick (.t 94) (.t 97) (.c (.bool false))), oM 2 98]) .ret) (.seq (rg [oO 100 (.bin .eql (.t 31) (ci 4)), oM 99 100]) (.cond (.t 99) (.seq (rg [oM 101 3, oM 102 101, oG 103 (.mov (.t 4)) 102 true, oO 104 (.pick (.t 102) (.t 103) (.c (.bool false))), oM 105 104, oG 106 (.fieldAddr 2 (.t 1)) 105 true, oG 107 (.load none (.t 106)) 105 true, oG 108 (.bin .eql (.t 107) (ci 0)) 105 true, oO 109 (.pick (.t 105) (.t 108) (.c (.bool false))), oM 110 109, oG 111 (.fieldAddr 4 (.t 1)) 110 true, oG 112 (.load (some 42) (.t 111)) 110 true, oG 113 (.call 28 [(.t 112)]) 110 true, oO 114 (.pick (.t 110) (.t 113) (.c (.bool false))), oM 115 114, oG 116 (.fieldAddr 46 (.t 1)) 115 true, oG 117 (.load none (.t 116)) 115 true, oG 118 (.lenSl (.t 117)) 115 true, oG 119 (.bin .eql (.t 118) (ci 0)) 115 true, oO 120 (.pick (.t 115) (.t 119) (.c (.bool false))), oM 2 120]) .ret) .skip)))))))))) (.seq (rg [oO 2 (.mov (.c (.bool false)))]) .ret))))))
theorem A_clavigerref6_RightRecord_ok : Try.f12.body.bind (cCode Try.prog) = some A_clavigerref6_RightRecord := by kernel_rfl
theorem A_clavigerref6_RightRecord_res : cRes Try.prog Try.f12.results.toList = some [(.tmp 2)] := by kernel_rfl
theorem A_clavigerref6_RightRecord_nt : Try.f12.ntmps = 121 := by kernel_rfl
def A_clavigerref6_Same : ACode := (.seq (rg [oO 2 (.box (.t 0)), oO 3 (.box (.t 1)), oO 4 (.mov (.c (.bool false)))]) (.seq (rg [oF 5 0 2, oO 6 (.load (some 4) (.t 5)), oF 7 0 3, oO 8 (.load (some 4) (.t 7)), oO 9 (.eqA false sh4 (.t 6) (.t 8)), oM 10 9, oG 11 (.fieldAddr 4 (.t 2)) 10 true, oG 12 (.load none (.t 11)) 10 true, oG 13 (.fieldAddr 4 (.t 3)) 10 true, oG 14 (.load none (.t 13)) 10 true, oG 15 (.bin .eql (.t 12) (.t 14)) 10 true, oO 16 (.pick (.t 10) (.t 15) (.c (.bool false))), oM 17 16, oG 18 (.fieldAddr 5 (.t 2)) 17 true, oG 19 (.load (some 16) (.t 18)) 17 true, oG 20 (.fieldAddr 5 (.t 3)) 17 true, oG 21 (.load (some 16) (.t 20)) 17 true, oG 22 (.eqA false sh16 (.t 19) (.t 21)) 17 true, oO 23 (.pick (.t 17) (.t 22) (.c (.bool false))), oM 24 23, oG 25 (.fieldAddr 21 (.t 2)) 24 true, oG 26 (.load none (.t 25)) 24 true, oG 27 (.toStr (.t 26)) 24 true, oG 28 (.fieldAddr 21 (.t 3)) 24 true, oG 29 (.load none (.t 28)) 24 true, oG 30 (.toStr (.t 29)) 24 true, oG 31 (.bin .eql (.t 27) (.t 30)) 24 true, oO 32 (.pick (.t 24) (.t 31) (.c (.bool false))), oM 33 32, oG 34 (.fieldAddr 22 (.t 2)) 33 true, oG 35 (.load none (.t 34)) 33 true, oG 36 (.fieldAddr 22 (.t 3)) 33 true, oG 37 (.load none (.t 36)) 33 true, oG 38 (.bin .eql (.t 35) (.t 37)) 33 true, oO 39 (.pick (.t 33) (.t 38) (.c (.bool false))), oM 40 39, oG 41 (.fieldAddr 23 (.t 2)) 40 true, oG 42 (.load none (.t 41)) 40 true, oG 43 (.fieldAddr 23 (.t 3)) 40 true, oG 44 (.load none (.t 43)) 40 true, oG 45 (.bin .eql (.t 42) (.t 44)) 40 true, oO 46 (.pick (.t 40) (.t 45) (.c (.bool false))), oM 47 46, oG 48 (.fieldAddr 24 (.t 2)) 47 true, oG 49 (.load (some 16) (.t 48)) 47 true, oG 50 (.fieldAddr 24 (.t 3)) 47 true, oG 51 (.load (some 16) (.t 50)) 47 true, oG 52 (.eqA false sh16 (.t 49) (.t 51)) 47 true, oO 53 (.pick (.t 47) (.t 52) (.c (.bool false))), oM 54 53, oG 55 (.fieldAddr 40 (.t 2)) 54 true, oG 56 (.load none (.t 55)) 54 true, oG 57 (.fieldAddr 40 (.t 3)) 54 true, oG 58 (.load none (.t 57)) 54 true, oG 59 (.eqB false (.t 56) (.t 58)) 54 true, oO 60 (.pick (.t 54) (.t 59) (.c (.bool false))), oM 61 60, oG 62 (.fieldAddr 41 (.t 2)) 61 true, oG 63 (.load none (.t 62)) 61 true, oG 64 (.fieldAddr 41 (.t 3)) 61 true, oG 65 (.load none (.t 64)) 61 true, oG 66 (.eqB false (.t 63) (.t 65)) 61 true, oO 67 (.pick (.t 61) (.t 66) (.c (.bool false))), oM 4 67]) .ret))
theorem A_clavigerref6_Same_ok : Try.f25.body.bind (cCode Try.prog) = some A_clavigerref6_Same := by kernel_rfl
theorem A_clavigerref6_Same_res : cRes Try.prog Try.f25.results.toList = some [(.tmp 4)] := by kernel_rfl
theorem A_clavigerref6_Same_nt : Try.f25.ntmps = 68 := by kernel_rfl
def A_clavigerref6_Vaults_L0 : ACode := (.seq (.seq (rg [oM 11 5, oM 12 0, oO 13 (.lenSl (.t 12)), oO 14 (.bin .lss (.t 11) (.t 13))]) (.cond (.t 14) .skip (.exit 0))) (.seq (.block 1 (.seq (rg [oM 17 0, oM 18 5, oO 19 (.idxSl 42 (.t 17) (.t 18)), oO 20 (.load (some 42) (.t 19)), oM 21 1, oM 22 5, oO 23 (.idxSl 42 (.t 21) (.t 22)), oO 24 (.load (some 42) (.t 23)), oO 25 (.call 25 [(.t 20), (.t 24)]), oO 26 (.un .not (.t 25))]) (.cond (.t 26) (.seq (rg [oO 4 (.mov (.c (.bool false)))]) .ret) .skip))) (rg [oM 15 5, oO 16 (.bin .add (.t 15) (ci 1)), oM 5 16])))
def A_clavigerref6_Vaults : ACode := (.seq (rg [oO 4 (.mov (.c (.bool false)))]) (.seq (.seq (rg [oM 6 0, oO 7 (.lenSl (.t 6)), oM 8 1, oO 9 (.lenSl (.t 8)), oO 10 (.bin .neq (.t 7) (.t 9))]) (.cond (.t 10) (.seq (rg [oO 4 (.mov (.c (.bool false)))]) .ret) .skip)) (.seq (.seq (rg [oO 5 (.mov (ci 0))]) (.block 0 (.loop A_clavigerref6_Vaults_L0))) (.seq (rg [oO 4 (.mov (.c (.bool true)))]) .ret))))
def K_clavigerref6_Vaults_L0 : Kt := (.blk 0 (.seq (.seq (rg [oO 4 (.mov (.c (.bool true)))]) .ret) .fin))
theorem A_clavigerref6_Vaults_ok : Try.f11.body.bind (cCode Try.prog) = some A_clavigerref6_Vaults := by kernel_rfl
theorem A_clavigerref6_Vaults_res : cRes Try.prog Try.f11.results.toList = some [(.tmp 4)] := by kernel_rfl
theorem A_clavigerref6_Vaults_nt : Try.f11.ntmps = 27 := by kernel_rfl
end
end Go.Proofs.Ytfpoebmihjbknaa.VA

/- Values that are right: the document's. -/
set_option linter.unusedVariables false
set_option linter.unusedSimpArgs false
set_option maxRecDepth 100000
namespace Go.Proofs.Ytfpoebmihjbknaa.VA
open Go
attribute [local irreducible] WK NK XK TK RK FK CK CFK CallRel C
theorem rnum_C (i : Int) : C Try.prog 26 [vi .u64 i] [] (vb (decide (i ≤ 1099511627776))) [] := by
  refine C_of mixed Try.func26 A_clavigerref6_number_ok A_clavigerref6_number_res _ A_clavigerref6_number_nt ?_
  (repeat' (first | simp (maxSteps := 2000000) -implicitDefEqProofs only [A_clavigerref6_number, len_lst, rk_ext, fk_ext, sm_c, sm_a, numI_len, lr_api, lr, lr2, oO, oN, oG, oNG, oM, oF, oL, rg, ci, seval, resAll, resL, resV, blkAt, undef, fillV, evParts, footOp, wrOp, chk, disj] | split))
  all_goals (refine out_vb (Bool.eq_iff_iff.2 ?_); (try simp only [decide_eq_true_eq, Bool.false_eq_true, true_iff, false_iff]); (try simp only [RightV, RightQ, RightP, whoP, sameV, RightR, EpochP, Vlt.zero] at *); first | done | (simp_all; done) | (simp_all; omega) | omega | grind)
set_option maxHeartbeats 4000000 in
theorem rrightV_C (x : Vlt) : C Try.prog 27 [.agg (cVlt x)] [] (vb (decide (RightV x))) [] := by
  refine C_of mixed Try.func27 A_clavigerref6_RightVault_ok A_clavigerref6_RightVault_res _ A_clavigerref6_RightVault_nt ?_
  (repeat' (first | simp (maxSteps := 2000000) -implicitDefEqProofs only [A_clavigerref6_RightVault, len_lst, rk_ext, fk_ext, sm_c, sm_a, numI_len, lr_api, lr, lr2, oO, oN, oG, oNG, oM, oF, oL, rg, ci, seval, resAll, resL, resV, blkAt, undef, fillV, evParts, footOp, wrOp, chk, disj] | split | ((first | apply ck_call | apply cfk_call); (first | (apply call_pure (rnum_C x.gen) cll cl)))))
  all_goals (refine out_vb (Bool.eq_iff_iff.2 ?_); (try simp only [decide_eq_true_eq, Bool.false_eq_true, true_iff, false_iff]); (try simp only [RightV, RightQ, RightP, whoP, sameV, RightR, EpochP, Vlt.zero] at *); first | done | (simp_all; done) | (simp_all; omega) | omega | grind)
theorem rnothing_C (a : Vlt) : C Try.prog 28 [.agg (cVlt a)] [] (vb (decide (sameV a Vlt.zero))) [] := by
  refine C_of mixed Try.func28 A_clavigerref6_nothing_ok A_clavigerref6_nothing_res _ A_clavigerref6_nothing_nt ?_
  have e : sameV a Vlt.zero ↔ (a.id = Bn.zero 4 ∧ a.gen = 0 ∧ a.pin = Bn.zero 16 ∧ ((a.secret.l.length : Nat) : Int) = 0 ∧ a.limit = 0 ∧ a.used = 0 ∧ a.owner = Bn.zero 16 ∧ a.gone = false ∧ a.wiped = false) := by
    have hl : (a.secret.l = []) ↔ ((a.secret.l.length : Nat) : Int) = 0 := by
      rw [← List.length_eq_zero_iff]; omega
    simp only [sameV, Vlt.zero, row_l_nil, hl]
  simp only [e]
  (repeat' (first | simp (maxSteps := 2000000) -implicitDefEqProofs only [A_clavigerref6_nothing, len_lst, rk_ext, fk_ext, sm_c, sm_a, numI_len, lr_api, lr, lr2, oO, oN, oG, oNG, oM, oF, oL, rg, ci, seval, resAll, resL, resV, blkAt, undef, fillV, evParts, footOp, wrOp, chk, disj] | split))
  all_goals (refine out_vb (Bool.eq_iff_iff.2 ?_); (try simp only [decide_eq_true_eq, Bool.false_eq_true, true_iff, false_iff]); (try simp only [RightV, RightQ, RightP, whoP, sameV, RightR, EpochP, Vlt.zero] at *); first | done | (simp_all; done) | (simp_all; omega) | omega | grind)
theorem less_cmp : ∀ a b : List UInt8, Op.bytesLess a b = decide (cmpL a b < 0)
  | [], [] => by simp [Op.bytesLess, cmpL]
  | [], _ :: _ => by simp [Op.bytesLess, cmpL]
  | _ :: _, [] => by simp [Op.bytesLess, cmpL]
  | x :: xs, y :: ys => by
    have ih := less_cmp xs ys
    simp only [Op.bytesLess, ih, cmpL]
    by_cases h : x = y
    · subst h; simp
    · by_cases h2 : x < y <;> simp [h, h2]
theorem st_ge (a b : List UInt8) : evBin .geq (st a) (st b) = some (vb (decide (0 ≤ cmpL a b))) := by
  have : evBin .geq (st a) (st b) = some (vb (!Op.bytesLess a b)) := by
    simp only [st, evBin, binOp, Op.stringOp, pureV, pure, ByteArray.toList_eq]
    rfl
  rw [this, less_cmp]
  congr 3
  rw [Bool.eq_iff_iff]; simp
theorem rrising_C (r : Lst Vlt) : C Try.prog 29 [lstV cVlt r] [] (vb (decide (RisingP r.l))) [] := by
  refine C_of mixed Try.func29 A_clavigerref6_Rising_ok A_clavigerref6_Rising_res _ A_clavigerref6_Rising_nt ?_
  by_cases h4 : (r.l.length : Int) > 4
  · (repeat' (first | simp (maxSteps := 2000000) -implicitDefEqProofs only [A_clavigerref6_Rising, h4, len_lst, len_lst, rk_ext, fk_ext, sm_c, sm_a, numI_len, lr_api, lr, lr2, oO, oN, oG, oNG, oM, oF, oL, rg, ci, seval, resAll, resL, resV, blkAt, undef, fillV, evParts, footOp, wrOp, chk, disj] | split))
    refine out_vb (Eq.symm (decide_eq_false ?_))
    rintro ⟨h, _⟩; omega
  (repeat' (first | simp (maxSteps := 2000000) -implicitDefEqProofs only [A_clavigerref6_Rising, h4, len_lst, len_lst, rk_ext, fk_ext, sm_c, sm_a, numI_len, lr_api, lr, lr2, oO, oN, oG, oNG, oM, oF, oL, rg, ci, seval, resAll, resL, resV, blkAt, undef, fillV, evParts, footOp, wrOp, chk, disj] | split))
  refine wk_loop (fun m S H => ∃ i : Nat, i ≤ r.l.length ∧ (∀ j, j < i → RightV (r.l.getD j default) ∧ (0 < j → cmpL (r.l.getD (j - 1) default).id.1 (r.l.getD j default).id.1 < 0)) ∧ m = r.l.length - i ∧ S = (lstV cVlt r :: .dead :: .dead :: vi .i64 i :: .dead :: .dead :: .dead :: .dead :: .dead :: .dead :: .dead :: .dead :: .dead :: .dead :: .dead :: .dead :: .dead :: .dead :: .dead :: .dead :: .dead :: .dead :: .dead :: .dead :: .dead :: .dead :: .dead :: .dead :: .dead :: .dead :: .dead :: .dead :: .dead :: .dead :: .dead :: .dead :: .dead :: .dead :: .dead :: []) ∧ H = []) r.l.length ⟨0, Nat.zero_le _, by omega, rfl, rfl, rfl⟩ (by refine .ren _ _ _ [] (by decide) (by intro k h; first | exact absurd h (Nat.not_lt_zero k) | (simp at h; done) | (rcases k with _ | _ | _ | k <;> first | rfl | (exfalso; omega) | (simp at h; done))) ?_ ?_ <;> simp [KeepS, KeepH, ArgRel, ArgRelL, argL_cl, arg_cl, row_l_of, row_l_nil, bn_len, blkAt]) ?_
  rintro m S H ⟨i, hi, hok, rfl, rfl, rfl⟩ J hJ
  have d0 : (0 : Int) ≤ i := by omega
  by_cases hil : i < r.l.length
  · have d1 : (i : Int) < r.l.length := by omega
    have w1 : IntKind.i64.wrap ((i : Int) + 1) = ((i + 1 : Nat) : Int) := by rw [wrap_id _ (by omega) (by omega)]; omega
    have g1 := rd_flat cVlt_len r.l i hil
    obtain ⟨a1, a2⟩ := box_part cVlt_len r.l i 0 4 (r.l.getD i default).id hil (by decide) (rd_Vlt_id _)
    obtain ⟨v, hv⟩ : ∃ v, v = r.l.getD i default := ⟨_, rfl⟩
    rw [← hv] at g1 a2
    rw [List.drop_zero] at a2
    rw [Nat.zero_add] at a1
    by_cases hr : RightV v
    · by_cases hi0 : i = 0
      · have d2 : ¬ (0 : Int) < i := by omega
        (repeat' (first | simp (maxSteps := 2000000) -implicitDefEqProofs only [A_clavigerref6_Rising_L0, d0, d1, d2, w1, g1, hr, idx_lst cVlt_len, len_lst, rk_ext, fk_ext, sm_c, sm_a, numI_len, lr_api, lr, lr2, oO, oN, oG, oNG, oM, oF, oL, rg, ci, seval, resAll, resL, resV, blkAt, undef, fillV, evParts, footOp, wrOp, chk, disj] | split | ((first | apply ck_call | apply cfk_call); (first | (apply call_pure (rrightV_C v) cll cl)))))
        exact hJ _ _ _ _ _ (by omega) ⟨i + 1, by omega, fun j hj => by
          have : j = i := by omega
          subst this
          exact ⟨by rw [← hv]; exact hr, fun h => absurd h (by omega)⟩, rfl, rfl, rfl⟩ (by refine .ren _ _ _ [] (by decide) (by intro k h; first | exact absurd h (Nat.not_lt_zero k) | (simp at h; done) | (rcases k with _ | _ | _ | k <;> first | rfl | (exfalso; omega) | (simp at h; done))) ?_ ?_ <;> simp [KeepS, KeepH, ArgRel, ArgRelL, argL_cl, arg_cl, row_l_of, row_l_nil, bn_len, blkAt])
      · have d2 : (0 : Int) < i := by omega
        have w2 : IntKind.i64.wrap ((i : Int) - 1) = ((i - 1 : Nat) : Int) := by rw [wrap_id _ (by omega) (by omega)]; omega
        have d3 : (0 : Int) ≤ ((i - 1 : Nat) : Int) := by omega
        have d4 : ((i - 1 : Nat) : Int) < r.l.length := by omega
        obtain ⟨u, hu⟩ : ∃ u, u = r.l.getD (i - 1) default := ⟨_, rfl⟩
        obtain ⟨b1, b2⟩ := box_part cVlt_len r.l (i - 1) 0 4 (r.l.getD (i - 1) default).id (by omega) (by decide) (rd_Vlt_id _)
        rw [← hu, List.drop_zero] at b2
        rw [Nat.zero_add] at b1
        by_cases hc : cmpL u.id.1 v.id.1 < 0
        · have hc2 : ¬ 0 ≤ cmpL u.id.1 v.id.1 := by omega
          (repeat' (first | simp (maxSteps := 2000000) -implicitDefEqProofs only [A_clavigerref6_Rising_L0, d0, d1, d2, d3, d4, w1, w2, g1, hr, a1, a2, b1, b2, hc2, st_ge, idx_lst cVlt_len, len_lst, rk_ext, fk_ext, sm_c, sm_a, numI_len, lr_api, lr, lr2, oO, oN, oG, oNG, oM, oF, oL, rg, ci, seval, resAll, resL, resV, blkAt, undef, fillV, evParts, footOp, wrOp, chk, disj] | split | ((first | apply ck_call | apply cfk_call); (first | (apply call_pure (rrightV_C v) cll cl)))))
          exact hJ _ _ _ _ _ (by omega) ⟨i + 1, by omega, fun j hj => by
            by_cases hji : j = i
            · subst hji; exact ⟨by rw [← hv]; exact hr, fun _ => by rw [← hv, ← hu]; exact hc⟩
            · exact hok j (by omega), rfl, rfl, rfl⟩ (by refine .ren _ _ _ [] (by decide) (by intro k h; first | exact absurd h (Nat.not_lt_zero k) | (simp at h; done) | (rcases k with _ | _ | _ | k <;> first | rfl | (exfalso; omega) | (simp at h; done))) ?_ ?_ <;> simp [KeepS, KeepH, ArgRel, ArgRelL, argL_cl, arg_cl, row_l_of, row_l_nil, bn_len, blkAt])
        · have hc2 : 0 ≤ cmpL u.id.1 v.id.1 := by omega
          (repeat' (first | simp (maxSteps := 2000000) -implicitDefEqProofs only [A_clavigerref6_Rising_L0, d0, d1, d2, d3, d4, w1, w2, g1, hr, a1, a2, b1, b2, hc2, st_ge, idx_lst cVlt_len, len_lst, rk_ext, fk_ext, sm_c, sm_a, numI_len, lr_api, lr, lr2, oO, oN, oG, oNG, oM, oF, oL, rg, ci, seval, resAll, resL, resV, blkAt, undef, fillV, evParts, footOp, wrOp, chk, disj] | split | ((first | apply ck_call | apply cfk_call); (first | (apply call_pure (rrightV_C v) cll cl)))))
          refine out_vb (Eq.symm (decide_eq_false ?_))
          rintro ⟨_, h⟩
          have := (h i hil).2 (by omega)
          rw [← hv, ← hu] at this
          exact hc this
    · (repeat' (first | simp (maxSteps := 2000000) -implicitDefEqProofs only [A_clavigerref6_Rising_L0, d0, d1, w1, g1, hr, idx_lst cVlt_len, len_lst, rk_ext, fk_ext, sm_c, sm_a, numI_len, lr_api, lr, lr2, oO, oN, oG, oNG, oM, oF, oL, rg, ci, seval, resAll, resL, resV, blkAt, undef, fillV, evParts, footOp, wrOp, chk, disj] | split | ((first | apply ck_call | apply cfk_call); (first | (apply call_pure (rrightV_C v) cll cl)))))
      refine out_vb (Eq.symm (decide_eq_false ?_))
      rintro ⟨_, h⟩
      have := (h i hil).1
      rw [← hv] at this
      exact hr this
  · obtain rfl : i = r.l.length := by omega
    have d1 : ¬ ((r.l.length : Nat) : Int) < r.l.length := by omega
    (repeat' (first | simp (maxSteps := 2000000) -implicitDefEqProofs only [A_clavigerref6_Rising_L0, K_clavigerref6_Rising_L0, d1, len_lst, rk_ext, fk_ext, sm_c, sm_a, numI_len, lr_api, lr, lr2, oO, oN, oG, oNG, oM, oF, oL, rg, ci, seval, resAll, resL, resV, blkAt, undef, fillV, evParts, footOp, wrOp, chk, disj] | split))
    exact out_vb (Eq.symm (decide_eq_true ⟨by omega, hok⟩))
end Go.Proofs.Ytfpoebmihjbknaa.VA

/- Values are read: the document's reader. -/
set_option linter.unusedVariables false
set_option linter.unusedSimpArgs false
set_option maxRecDepth 100000
namespace Go.Proofs.Ytfpoebmihjbknaa.VA
open Go
attribute [local irreducible] WK NK XK TK RK FK CK CFK CallRel C
end Go.Proofs.Ytfpoebmihjbknaa.VA

/- A vault, a request, a reply are read: the document's. -/
set_option linter.unusedVariables false
set_option linter.unusedSimpArgs false
set_option maxRecDepth 100000
namespace Go.Proofs.Ytfpoebmihjbknaa.VA
open Go
attribute [local irreducible] WK NK XK TK RK FK CK CFK CallRel C
attribute [local irreducible] dropS textS textR oneV takeL bnT numB RightV RightQ RightP badF
end Go.Proofs.Ytfpoebmihjbknaa.VA

/- Requests, replies are read: the document's. -/
set_option linter.unusedVariables false
set_option linter.unusedSimpArgs false
set_option maxRecDepth 100000
namespace Go.Proofs.Ytfpoebmihjbknaa.VA
open Go
attribute [local irreducible] WK NK XK TK RK FK CK CFK CallRel C
attribute [local irreducible] dropS textS textR oneV takeL bnT numB RightV RightQ RightP badF rd0
end Go.Proofs.Ytfpoebmihjbknaa.VA

/- Vaults, requests, replies are written: the document's. -/
set_option linter.unusedVariables false
set_option linter.unusedSimpArgs false
set_option maxRecDepth 100000
namespace Go.Proofs.Ytfpoebmihjbknaa.VA
open Go
attribute [local irreducible] WK NK XK TK RK FK CK CFK CallRel C
end Go.Proofs.Ytfpoebmihjbknaa.VA

/- Records are written: the document's. -/
set_option linter.unusedVariables false
set_option linter.unusedSimpArgs false
set_option maxRecDepth 100000
namespace Go.Proofs.Ytfpoebmihjbknaa.VA
open Go
attribute [local irreducible] WK NK XK TK RK FK CK CFK CallRel C
end Go.Proofs.Ytfpoebmihjbknaa.VA

/- What the document reads is what the program reads: plain laws. -/
set_option linter.unusedVariables false
set_option linter.unusedSimpArgs false
set_option maxRecDepth 100000
namespace Go.Proofs.Ytfpoebmihjbknaa.VA
open Go
attribute [local irreducible] WK NK XK TK RK FK CK CFK CallRel C
attribute [local irreducible] dropS textS textR oneV takeL bnT numB RightV
end Go.Proofs.Ytfpoebmihjbknaa.VA

/- Records that are right, values that are the same: the document's. -/
set_option linter.unusedVariables false
set_option linter.unusedSimpArgs false
set_option maxRecDepth 100000
namespace Go.Proofs.Ytfpoebmihjbknaa.VA
open Go
attribute [local irreducible] WK NK XK TK RK FK CK CFK CallRel C
set_option maxHeartbeats 8000000
theorem rrightR1 (r : Rec) (k1 : r.kind = 1) : C Try.prog 12 [.agg (cRec r)] [] (vb (decide (RightR r))) [] := by
  have e : RightR r ↔ (RightV r.vault ∧ r.shard = 0 ∧ r.to = 0 ∧ r.epoch = 0 ∧ ((r.vaults.l.length : Nat) : Int) = 0) := by unfold RightR; simp [k1]
  simp only [e]
  refine C_of mixed Try.func12 A_clavigerref6_RightRecord_ok A_clavigerref6_RightRecord_res _ A_clavigerref6_RightRecord_nt ?_
  by_cases h1 : 0 ≤ r.shard <;> by_cases h2 : 1 ≤ r.epoch <;> by_cases h3 : 0 ≤ r.to
  all_goals ((repeat' (first | simp (maxSteps := 2000000) -implicitDefEqProofs only [A_clavigerref6_RightRecord, len_lst, k1, h1, h2, h3, len_lst, rk_ext, fk_ext, sm_c, sm_a, numI_len, lr_api, lr, lr2, oO, oN, oG, oNG, oM, oF, oL, rg, ci, seval, resAll, resL, resV, blkAt, undef, fillV, evParts, footOp, wrOp, chk, disj] | split | ((first | apply ck_call | apply cfk_call); (first | (apply call_pure (rnothing_C r.vault) cll cl) | (apply call_pure (rrightV_C r.vault) cll cl) | (apply call_pure (rrising_C r.vaults) cll cl) | (apply call_pure (rnum_C r.epoch) cll cl))))))
  all_goals (refine out_vb (Bool.eq_iff_iff.2 ?_); (try simp only [decide_eq_true_eq, Bool.false_eq_true, true_iff, false_iff]); (try simp only [RightR, EpochP] at *); first | done | (simp_all; done) | (simp_all; omega) | omega | grind)
theorem rrightR2 (r : Rec) (k2 : r.kind = 2) : C Try.prog 12 [.agg (cRec r)] [] (vb (decide (RightR r))) [] := by
  have e : RightR r ↔ ((0 ≤ r.shard ∧ r.shard < 16) ∧ (1 ≤ r.epoch ∧ r.epoch ≤ 1099511627776) ∧ (0 ≤ r.to ∧ r.to < 8) ∧ sameV r.vault Vlt.zero ∧ ((r.vaults.l.length : Nat) : Int) = 0) := by unfold RightR EpochP; simp [k2]; grind
  simp only [e]
  refine C_of mixed Try.func12 A_clavigerref6_RightRecord_ok A_clavigerref6_RightRecord_res _ A_clavigerref6_RightRecord_nt ?_
  by_cases h1 : 0 ≤ r.shard <;> by_cases h2 : 1 ≤ r.epoch <;> by_cases h3 : 0 ≤ r.to
  all_goals ((repeat' (first | simp (maxSteps := 2000000) -implicitDefEqProofs only [A_clavigerref6_RightRecord, len_lst, k2, h1, h2, h3, len_lst, rk_ext, fk_ext, sm_c, sm_a, numI_len, lr_api, lr, lr2, oO, oN, oG, oNG, oM, oF, oL, rg, ci, seval, resAll, resL, resV, blkAt, undef, fillV, evParts, footOp, wrOp, chk, disj] | split | ((first | apply ck_call | apply cfk_call); (first | (apply call_pure (rnothing_C r.vault) cll cl) | (apply call_pure (rrightV_C r.vault) cll cl) | (apply call_pure (rrising_C r.vaults) cll cl) | (apply call_pure (rnum_C r.epoch) cll cl))))))
  all_goals (refine out_vb (Bool.eq_iff_iff.2 ?_); (try simp only [decide_eq_true_eq, Bool.false_eq_true, true_iff, false_iff]); (try simp only [RightR, EpochP] at *); first | done | (simp_all; done) | (simp_all; omega) | omega | grind)
theorem rrightR3 (r : Rec) (k2 : r.kind = 3) : C Try.prog 12 [.agg (cRec r)] [] (vb (decide (RightR r))) [] := by
  have e : RightR r ↔ ((0 ≤ r.shard ∧ r.shard < 16) ∧ (1 ≤ r.epoch ∧ r.epoch ≤ 1099511627776) ∧ r.to = 0 ∧ sameV r.vault Vlt.zero ∧ RisingP r.vaults.l) := by unfold RightR EpochP; simp [k2]; grind
  simp only [e]
  refine C_of mixed Try.func12 A_clavigerref6_RightRecord_ok A_clavigerref6_RightRecord_res _ A_clavigerref6_RightRecord_nt ?_
  by_cases h1 : 0 ≤ r.shard <;> by_cases h2 : 1 ≤ r.epoch <;> by_cases h3 : 0 ≤ r.to
  all_goals ((repeat' (first | simp (maxSteps := 2000000) -implicitDefEqProofs only [A_clavigerref6_RightRecord, len_lst, k2, h1, h2, h3, len_lst, rk_ext, fk_ext, sm_c, sm_a, numI_len, lr_api, lr, lr2, oO, oN, oG, oNG, oM, oF, oL, rg, ci, seval, resAll, resL, resV, blkAt, undef, fillV, evParts, footOp, wrOp, chk, disj] | split | ((first | apply ck_call | apply cfk_call); (first | (apply call_pure (rnothing_C r.vault) cll cl) | (apply call_pure (rrightV_C r.vault) cll cl) | (apply call_pure (rrising_C r.vaults) cll cl) | (apply call_pure (rnum_C r.epoch) cll cl))))))
  all_goals (refine out_vb (Bool.eq_iff_iff.2 ?_); (try simp only [decide_eq_true_eq, Bool.false_eq_true, true_iff, false_iff]); (try simp only [RightR, EpochP] at *); first | done | (simp_all; done) | (simp_all; omega) | omega | grind)
theorem rrightR4 (r : Rec) (k2 : r.kind = 4) : C Try.prog 12 [.agg (cRec r)] [] (vb (decide (RightR r))) [] := by
  have e : RightR r ↔ ((0 ≤ r.shard ∧ r.shard < 16) ∧ (1 ≤ r.epoch ∧ r.epoch ≤ 1099511627776) ∧ r.to = 0 ∧ sameV r.vault Vlt.zero ∧ ((r.vaults.l.length : Nat) : Int) = 0) := by unfold RightR EpochP; simp [k2]; grind
  simp only [e]
  refine C_of mixed Try.func12 A_clavigerref6_RightRecord_ok A_clavigerref6_RightRecord_res _ A_clavigerref6_RightRecord_nt ?_
  by_cases h1 : 0 ≤ r.shard <;> by_cases h2 : 1 ≤ r.epoch <;> by_cases h3 : 0 ≤ r.to
  all_goals ((repeat' (first | simp (maxSteps := 2000000) -implicitDefEqProofs only [A_clavigerref6_RightRecord, len_lst, k2, h1, h2, h3, len_lst, rk_ext, fk_ext, sm_c, sm_a, numI_len, lr_api, lr, lr2, oO, oN, oG, oNG, oM, oF, oL, rg, ci, seval, resAll, resL, resV, blkAt, undef, fillV, evParts, footOp, wrOp, chk, disj] | split | ((first | apply ck_call | apply cfk_call); (first | (apply call_pure (rnothing_C r.vault) cll cl) | (apply call_pure (rrightV_C r.vault) cll cl) | (apply call_pure (rrising_C r.vaults) cll cl) | (apply call_pure (rnum_C r.epoch) cll cl))))))
  all_goals (refine out_vb (Bool.eq_iff_iff.2 ?_); (try simp only [decide_eq_true_eq, Bool.false_eq_true, true_iff, false_iff]); (try simp only [RightR, EpochP] at *); first | done | (simp_all; done) | (simp_all; omega) | omega | grind)
theorem rrightR0 (r : Rec) (k1 : ¬ r.kind = 1) (k2 : ¬ r.kind = 2) (k3 : ¬ r.kind = 3) (k4 : ¬ r.kind = 4) : C Try.prog 12 [.agg (cRec r)] [] (vb (decide (RightR r))) [] := by
  have e : ¬ RightR r := by
    intro h
    have := rightR_kind h
    omega
  rw [decide_eq_false e]
  refine C_of mixed Try.func12 A_clavigerref6_RightRecord_ok A_clavigerref6_RightRecord_res _ A_clavigerref6_RightRecord_nt ?_
  by_cases h1 : 0 ≤ r.shard <;> by_cases h2 : 1 ≤ r.epoch <;> by_cases h3 : 0 ≤ r.to
  all_goals ((repeat' (first | simp (maxSteps := 2000000) -implicitDefEqProofs only [A_clavigerref6_RightRecord, len_lst, k1, k2, k3, k4, h1, h2, h3, len_lst, rk_ext, fk_ext, sm_c, sm_a, numI_len, lr_api, lr, lr2, oO, oN, oG, oNG, oM, oF, oL, rg, ci, seval, resAll, resL, resV, blkAt, undef, fillV, evParts, footOp, wrOp, chk, disj] | split | ((first | apply ck_call | apply cfk_call); (first | (apply call_pure (rnum_C r.epoch) cll cl))))))
  all_goals (exact out_eq rfl trivial)
theorem rrightR_C (r : Rec) : C Try.prog 12 [.agg (cRec r)] [] (vb (decide (RightR r))) [] := by
  by_cases k1 : r.kind = 1
  · exact rrightR1 r k1
  by_cases k2 : r.kind = 2
  · exact rrightR2 r k2
  by_cases k3 : r.kind = 3
  · exact rrightR3 r k3
  by_cases k4 : r.kind = 4
  · exact rrightR4 r k4
  exact rrightR0 r k1 k2 k3 k4
theorem rsame_C (a b : Vlt) : C Try.prog 25 [.agg (cVlt a), .agg (cVlt b)] [] (vb (decide (sameV a b))) [] := by
  refine C_of mixed Try.func25 A_clavigerref6_Same_ok A_clavigerref6_Same_res _ A_clavigerref6_Same_nt ?_
  (repeat' (first | simp (maxSteps := 2000000) -implicitDefEqProofs only [A_clavigerref6_Same, len_lst, rk_ext, fk_ext, sm_c, sm_a, numI_len, lr_api, lr, lr2, oO, oN, oG, oNG, oM, oF, oL, rg, ci, seval, resAll, resL, resV, blkAt, undef, fillV, evParts, footOp, wrOp, chk, disj] | split))
  all_goals (refine out_vb (Bool.eq_iff_iff.2 ?_); (try simp only [decide_eq_true_eq, Bool.false_eq_true, true_iff, false_iff]); (try simp only [sameV] at *); first | done | (simp_all; done) | (simp_all; omega) | omega | grind)
end Go.Proofs.Ytfpoebmihjbknaa.VA

/- Records are read: the document's. -/
set_option linter.unusedVariables false
set_option linter.unusedSimpArgs false
set_option maxRecDepth 100000
namespace Go.Proofs.Ytfpoebmihjbknaa.VA
open Go
attribute [local irreducible] WK NK XK TK RK FK CK CFK CallRel C
attribute [local irreducible] dropS textS textR oneV takeL bnT numB RightV RightQ RightP RightR badF vltV vltE rd0
end Go.Proofs.Ytfpoebmihjbknaa.VA

/- Records are read: the document's, of each kind. -/
set_option linter.unusedVariables false
set_option linter.unusedSimpArgs false
set_option maxRecDepth 100000
namespace Go.Proofs.Ytfpoebmihjbknaa.VA
open Go
attribute [local irreducible] WK NK XK TK RK FK CK CFK CallRel C
attribute [local irreducible] dropS textS textR oneV takeL bnT numB RightV RightQ RightP RightR badF vltV vltE rd0
end Go.Proofs.Ytfpoebmihjbknaa.VA

/- Vaults, requests, replies, records that are the same: the document's. -/
set_option linter.unusedVariables false
set_option linter.unusedSimpArgs false
set_option maxRecDepth 100000
namespace Go.Proofs.Ytfpoebmihjbknaa.VA
open Go
attribute [local irreducible] WK NK XK TK RK FK CK CFK CallRel C
def samesV (a b : List Vlt) : Prop := a.length = b.length ∧ ∀ i, i < a.length → sameV (a.getD i default) (b.getD i default)
theorem samesV_self (a : List Vlt) : samesV a a := ⟨rfl, fun i _ => ⟨rfl, rfl, rfl, rfl, rfl, rfl, rfl, rfl, rfl⟩⟩
theorem rvaultsT_C (a b : Lst Vlt) (h : samesV a.l b.l) (hl : a.l.length ≤ 1000000) : C Try.prog 11 [lstV cVlt a, lstV cVlt b] [] (vb true) [] := by
  refine C_of mixed Try.func11 A_clavigerref6_Vaults_ok A_clavigerref6_Vaults_res _ A_clavigerref6_Vaults_nt ?_
  have e : (a.l.length : Int) = b.l.length := by rw [h.1]
  have hm : a.l.length ≤ 140737488355328 := by omega
  (repeat' (first | simp (maxSteps := 2000000) -implicitDefEqProofs only [A_clavigerref6_Vaults, e, len_lst, rk_ext, fk_ext, sm_c, sm_a, numI_len, lr_api, lr, lr2, oO, oN, oG, oNG, oM, oF, oL, rg, ci, seval, resAll, resL, resV, blkAt, undef, fillV, evParts, footOp, wrOp, chk, disj] | split))
  refine wk_loop (fun m S H => ∃ i : Nat, i ≤ a.l.length ∧ m = a.l.length - i ∧ S = (lstV cVlt a :: lstV cVlt b :: .dead :: .dead :: vb false :: vi .i64 i :: .dead :: .dead :: .dead :: .dead :: .dead :: .dead :: .dead :: .dead :: .dead :: .dead :: .dead :: .dead :: .dead :: .dead :: .dead :: .dead :: .dead :: .dead :: .dead :: .dead :: .dead :: []) ∧ H = []) (a.l.length) ⟨0, Nat.zero_le _, rfl, rfl, rfl⟩ (by refine .ren _ _ _ [] (by decide) (by intro k h; first | exact absurd h (Nat.not_lt_zero k) | (simp at h; done) | (rcases k with _ | _ | _ | k <;> first | rfl | (exfalso; omega) | (simp at h; done))) ?_ ?_ <;> simp [KeepS, KeepH, ArgRel, ArgRelL, argL_cl, arg_cl, row_l_of, row_l_nil, bn_len, blkAt]) ?_
  rintro m S H ⟨i, hi, rfl, rfl, rfl⟩ J hJ
  have d0 : (0 : Int) ≤ i := by omega
  by_cases hin : i < a.l.length
  · have d1 : (i : Int) < b.l.length := by omega
    have d1' : i < b.l.length := by omega
    have w1 : IntKind.i64.wrap ((i : Int) + 1) = ((i + 1 : Nat) : Int) := by rw [wrap_id _ (by omega) (by omega)]; omega
    have g1 := rd_flat cVlt_len a.l i hin
    have g2 := rd_flat cVlt_len b.l i d1'
    have hs := h.2 i hin
    generalize a.l.getD i default = x at *
    generalize b.l.getD i default = y at *
    (repeat' (first | simp (maxSteps := 2000000) -implicitDefEqProofs only [A_clavigerref6_Vaults_L0, e, d0, d1, w1, g1, g2, hs, idx_lst cVlt_len, len_lst, rk_ext, fk_ext, sm_c, sm_a, numI_len, lr_api, lr, lr2, oO, oN, oG, oNG, oM, oF, oL, rg, ci, seval, resAll, resL, resV, blkAt, undef, fillV, evParts, footOp, wrOp, chk, disj] | split | ((first | apply ck_call | apply cfk_call); (first | (apply call_pure (rsame_C x y) cll cl)))))
    exact hJ _ _ _ _ _ (by omega) ⟨i + 1, by omega, rfl, rfl, rfl⟩ (by refine .ren _ _ _ [] (by decide) (by intro k h; first | exact absurd h (Nat.not_lt_zero k) | (simp at h; done) | (rcases k with _ | _ | _ | k <;> first | rfl | (exfalso; omega) | (simp at h; done))) ?_ ?_ <;> simp [KeepS, KeepH, ArgRel, ArgRelL, argL_cl, arg_cl, row_l_of, row_l_nil, bn_len, blkAt])
  · obtain rfl : i = a.l.length := by omega
    have d1 : ¬ ((a.l.length : Nat) : Int) < a.l.length := by omega
    (repeat' (first | simp (maxSteps := 2000000) -implicitDefEqProofs only [A_clavigerref6_Vaults_L0, K_clavigerref6_Vaults_L0, d1, len_lst, rk_ext, fk_ext, sm_c, sm_a, numI_len, lr_api, lr, lr2, oO, oN, oG, oNG, oM, oF, oL, rg, ci, seval, resAll, resL, resV, blkAt, undef, fillV, evParts, footOp, wrOp, chk, disj] | split))
    exact out_eq rfl trivial
def sameR (a b : Rec) : Prop := a.kind = b.kind ∧ a.shard = b.shard ∧ a.to = b.to ∧ a.epoch = b.epoch ∧ sameV a.vault b.vault ∧ samesV a.vaults.l b.vaults.l
end Go.Proofs.Ytfpoebmihjbknaa.VA

/- What is written is read: plain laws of the codec. -/
set_option linter.unusedVariables false
set_option linter.unusedSimpArgs false
set_option maxRecDepth 100000
namespace Go.Proofs.Ytfpoebmihjbknaa.VA
open Go
attribute [local irreducible] WK NK XK TK RK FK CK CFK CallRel C
theorem ofNat_toNat' (a : Nat) : (UInt8.ofNat a).toNat = a % 256 := by simp
theorem numB_numF' (n : Nat) (hn : n < 18446744073709551616) : numB (numF n) = n := by
  simp only [numB, numF, List.foldl_cons, List.foldl_nil, ofNat_toNat']
  omega
theorem right_wgB {x : Vlt} (h : RightV x) (hw : x.wiped = true) : x.gone = true := by
  have := h.2.2
  split at this
  · assumption
  · rw [hw] at this; exact absurd this.1 (by decide)
def At (r : Rd) (l : List UInt8) : Prop := r.bad = false ∧ r.b.l = l
theorem at_rd0 (b : Row) : At (rd0 b) b.l := ⟨rfl, rfl⟩
theorem at_drop {r : Rd} {a l : List UInt8} (n : Nat) (h : At r (a ++ l)) (ha : a.length = n) : At (dropS n r) l ∧ takeL n r.b.l = a := by
  obtain ⟨h1, h2⟩ := h
  have hl : ¬ r.b.l.length < n := by rw [h2, List.length_append]; omega
  refine ⟨⟨?_, ?_⟩, ?_⟩
  · unfold dropS; rw [if_neg hl]; exact h1
  · unfold dropS; rw [if_neg hl]
    simp only [cut_l, h2]
    rw [← ha, List.drop_left' rfl, List.take_of_length_le (by rw [List.length_append]; omega)]
  · unfold takeL; rw [if_neg hl, h2, ← ha, List.take_left' rfl]
theorem at_one {r : Rd} {x : UInt8} {l : List UInt8} (h : At r (x :: l)) : At (dropS 1 r) l ∧ oneV r = x.toNat := by
  obtain ⟨h1, h2⟩ := at_drop (a := [x]) 1 h rfl
  refine ⟨h1, ?_⟩
  unfold oneV; rw [h2]; rfl
theorem at_num {r : Rd} {g : Int} {l : List UInt8} (h : At r (numI g ++ l)) (h0 : 0 ≤ g) (h1 : g < 18446744073709551616) : At (dropS 8 r) l ∧ (numB (takeL 8 r.b.l) : Int) = g := by
  obtain ⟨h2, h3⟩ := at_drop 8 h (numI_len g)
  refine ⟨h2, ?_⟩
  rw [h3, numI, numB_numF' _ (by omega)]; omega
theorem at_bn {r : Rd} {n : Nat} {d : Bn n} {l : List UInt8} (h : At r (d.1 ++ l)) : At (dropS n r) l ∧ bnT n r.b.l = d := by
  obtain ⟨h2, h3⟩ := at_drop n h d.2
  exact ⟨h2, Subtype.ext h3⟩
theorem at_text {r : Rd} {s l : List UInt8} (h : At r (UInt8.ofNat s.length :: (s ++ l))) (hs : s.length ≤ 255) : At (textS r) l ∧ (textR r).l = s := by
  obtain ⟨h1, h2⟩ := at_one h
  have e : oneV r = s.length := by rw [h2, ofNat_toNat']; omega
  unfold textS textR
  by_cases h0 : s.length = 0
  · have e0 : oneV r = 0 := by omega
    rw [if_pos e0, if_pos e0]
    have : s = [] := List.length_eq_zero_iff.1 h0
    subst this
    exact ⟨h1, by rw [cut_l]; simp⟩
  · have e0 : ¬ oneV r = 0 := by omega
    rw [if_neg e0, if_neg e0, e, Int.toNat_natCast]
    obtain ⟨h3, h4⟩ := at_drop s.length h1 rfl
    exact ⟨h3, by rw [row_l_of, h4]⟩
theorem b8_nat {i : Int} (h0 : 0 ≤ i) (h1 : i ≤ 255) : ((b8 i).toNat : Int) = i := by
  have e : IntKind.u8.wrap i = i % 256 := rfl
  rw [b8, e, by8, ofNat_toNat']; omega
attribute [local irreducible] dropS textS textR oneV takeL bnT numB
theorem vlt_back {x : Vlt} {r : Rd} {l : List UInt8} (hr : RightV x) (h : At r (putV x ++ l)) : sameV (vltV r) x ∧ At (vltE r) l ∧ RightV (vltV r) := by
  have hg := hr.1
  have hg2 := hr.2.1
  have hs := right_sec hr
  have e : putV x ++ l = x.id.1 ++ (numI x.gen ++ (flagF x :: b8 x.limit :: b8 x.used :: (x.pin.1 ++ (x.owner.1 ++ (UInt8.ofNat x.secret.l.length :: (x.secret.l ++ l)))))) := by
    simp [putV, vltRows, joinF, Row.l]
  rw [e] at h
  obtain ⟨a1, v1⟩ := at_bn h
  obtain ⟨a2, v2⟩ := at_num a1 (by omega) (by omega)
  obtain ⟨a3, v3⟩ := at_one a2
  have hf : badF (flagF x).toNat = false ∧ (((flagF x).toNat : Int) != 0) = x.gone ∧ (((flagF x).toNat : Int) == 3) = x.wiped := by
    unfold flagF
    by_cases hw : x.wiped = true
    · have hgo := right_wgB hr hw
      rw [if_pos hw, hw, hgo]; decide
    · have hw' : x.wiped = false := by simpa using hw
      rw [if_neg hw, hw']
      by_cases hgo : x.gone = true
      · rw [if_pos hgo, hgo]; decide
      · have hgo' : x.gone = false := by simpa using hgo
        rw [if_neg hgo, hgo']; decide
  have v3' : oneV (vltS r).s2 = (flagF x).toNat := v3
  have e3 : (vltS r).s3 = dropS 1 (dropS 8 (dropS 4 r)) := by
    show ({ dropS 1 (vltS r).s2 with bad := (dropS 1 (vltS r).s2).bad || badF (oneV (vltS r).s2) } : Rd) = dropS 1 (vltS r).s2
    rw [v3', hf.1]; cases dropS 1 (vltS r).s2; simp
  have hlu : 0 ≤ x.limit ∧ x.limit ≤ 32 ∧ 0 ≤ x.used ∧ x.used ≤ 32 := by
    have := hr.2.2
    split at this <;> omega
  obtain ⟨a4, v4⟩ := at_one a3
  obtain ⟨a5, v5⟩ := at_one a4
  obtain ⟨a6, v6⟩ := at_bn a5
  obtain ⟨a7, v7⟩ := at_bn a6
  obtain ⟨a8, v8⟩ := at_text a7 (by omega)
  rw [b8_nat (by omega) (by omega)] at v4 v5
  have w1 : (vltS r).s1 = dropS 4 r := rfl
  have w3 := e3
  have w4 : (vltS r).s4 = dropS 1 (dropS 1 (dropS 8 (dropS 4 r))) := by rw [show (vltS r).s4 = dropS 1 (vltS r).s3 from rfl, w3]
  have w5 : (vltS r).s5 = dropS 1 (dropS 1 (dropS 1 (dropS 8 (dropS 4 r)))) := by rw [show (vltS r).s5 = dropS 1 (vltS r).s4 from rfl, w4]
  have w6 : (vltS r).s6 = dropS 16 (dropS 1 (dropS 1 (dropS 1 (dropS 8 (dropS 4 r))))) := by rw [show (vltS r).s6 = dropS 16 (vltS r).s5 from rfl, w5]
  have w7 : (vltS r).s7 = dropS 16 (dropS 16 (dropS 1 (dropS 1 (dropS 1 (dropS 8 (dropS 4 r)))))) := by rw [show (vltS r).s7 = dropS 16 (vltS r).s6 from rfl, w6]
  have w8 : (vltS r).s8 = textS (dropS 16 (dropS 16 (dropS 1 (dropS 1 (dropS 1 (dropS 8 (dropS 4 r))))))) := by rw [show (vltS r).s8 = textS (vltS r).s7 from rfl, w7]
  have hsame : sameV (vltV r) x := by
    refine ⟨v1, ?_, ?_, ?_, ?_, ?_, ?_, ?_, ?_⟩
    · show (numB (takeL 8 (vltS r).s1.b.l) : Int) = _
      rw [w1]; exact v2
    · show bnT 16 (vltS r).s5.b.l = _
      rw [w5]; exact v6
    · show (textR (vltS r).s7).l = _
      rw [w7]; exact v8
    · show oneV (vltS r).s3 = _
      rw [w3]; exact v4
    · show oneV (vltS r).s4 = _
      rw [w4]; exact v5
    · show bnT 16 (vltS r).s6.b.l = _
      rw [w6]; exact v7
    · show (oneV (vltS r).s2 != 0) = _
      rw [v3']; exact hf.2.1
    · show (oneV (vltS r).s2 == 3) = _
      rw [v3']; exact hf.2.2
  have hright : RightV (vltV r) := by
    obtain ⟨s1, s2, s3, s4, s5, s6, s7, s8, s9⟩ := hsame
    unfold RightV at hr ⊢
    rw [s2, s3, s4, s5, s6, s7, s8, s9]; exact hr
  refine ⟨hsame, ⟨?_, ?_⟩, hright⟩
  · show ((vltS r).s8.bad || !decide (RightV (vltV r))) = false
    rw [w8, a8.1, decide_eq_true hright]; rfl
  · show (vltS r).s8.b.l = l
    rw [w8]; exact a8.2
end Go.Proofs.Ytfpoebmihjbknaa.VA

/- What is written is read: requests, records. -/
set_option linter.unusedVariables false
set_option linter.unusedSimpArgs false
set_option maxRecDepth 100000
namespace Go.Proofs.Ytfpoebmihjbknaa.VA
open Go
attribute [local irreducible] WK NK XK TK RK FK CK CFK CallRel C
attribute [local irreducible] dropS textS textR oneV takeL bnT numB
theorem rightV_same {a b : Vlt} (h : sameV a b) (hb : RightV b) : RightV a := by
  obtain ⟨s1, s2, s3, s4, s5, s6, s7, s8, s9⟩ := h
  unfold RightV at hb ⊢
  rw [s2, s3, s4, s5, s6, s7, s8, s9]; exact hb
theorem sameV_trans {a b c : Vlt} (h : sameV a b) (k : sameV b c) : sameV a c := by
  obtain ⟨s1, s2, s3, s4, s5, s6, s7, s8, s9⟩ := h
  obtain ⟨t1, t2, t3, t4, t5, t6, t7, t8, t9⟩ := k
  exact ⟨s1.trans t1, s2.trans t2, s3.trans t3, s4.trans t4, s5.trans t5, s6.trans t6, s7.trans t7, s8.trans t8, s9.trans t9⟩
theorem sameV_symm {a b : Vlt} (h : sameV a b) : sameV b a := by
  obtain ⟨s1, s2, s3, s4, s5, s6, s7, s8, s9⟩ := h
  exact ⟨s1.symm, s2.symm, s3.symm, s4.symm, s5.symm, s6.symm, s7.symm, s8.symm, s9.symm⟩
theorem rising_same {a b : List Vlt} (h : samesV a b) (hb : RisingP b) : RisingP a := by
  refine ⟨by rw [h.1]; exact hb.1, fun i hi => ?_⟩
  have hi' : i < b.length := by rw [← h.1]; exact hi
  obtain ⟨h1, h2⟩ := hb.2 i hi'
  refine ⟨rightV_same (h.2 i hi) h1, fun h0 => ?_⟩
  rw [(h.2 i hi).1, (h.2 (i - 1) (by omega)).1]
  exact h2 h0
theorem rightR_same {a b : Rec} (h : sameR a b) (hb : RightR b) : RightR a := by
  obtain ⟨h1, h2, h3, h4, h5, h6⟩ := h
  unfold RightR EpochP at hb ⊢
  rw [h1, h2, h3, h4, h6.1]
  rcases hb with ⟨k, hv, hb⟩ | ⟨⟨e1, e2, e3, e4, e5⟩, hb⟩
  · exact .inl ⟨k, rightV_same h5 hv, hb⟩
  · refine .inr ⟨⟨e1, e2, e3, e4, sameV_trans h5 e5⟩, ?_⟩
    rcases hb with hb | ⟨k, t, hr⟩ | hb
    · exact .inl hb
    · exact .inr (.inl ⟨k, t, rising_same h6 hr⟩)
    · exact .inr (.inr hb)
attribute [local irreducible] vltV vltE putV
theorem seq_back {l : List Vlt} {r : Rd} {rest : List UInt8} (hl : ∀ i, i < l.length → RightV (l.getD i default)) (h : At r (l.flatMap putV ++ rest)) : ∀ i, i ≤ l.length → At (seqV i r).2 ((l.drop i).flatMap putV ++ rest) ∧ ∀ j, j < i → sameV ((seqV i r).1.getD j default) (l.getD j default)
  | 0, _ => ⟨h, fun j hj => by omega⟩
  | i + 1, hi => by
    obtain ⟨h1, h2⟩ := seq_back hl h i (by omega)
    have e : l.drop i = l.getD i default :: l.drop (i + 1) := by rw [List.drop_eq_getElem_cons (by omega)]; simp [List.getElem?_eq_getElem (show i < l.length by omega)]
    rw [e, List.flatMap_cons, List.append_assoc] at h1
    obtain ⟨s, a, _⟩ := vlt_back (hl i (by omega)) h1
    refine ⟨a, fun j hj => ?_⟩
    have ln := seqV_len r i
    show sameV (((seqV i r).1 ++ [vltV (seqV i r).2]).getD j default) _
    by_cases hji : j < i
    · rw [List.getD_eq_getElem?_getD, List.getElem?_append_left (by omega), ← List.getD_eq_getElem?_getD]
      exact h2 j hji
    · obtain rfl : j = i := by omega
      rw [List.getD_eq_getElem?_getD, List.getElem?_append_right (by omega), ln, Nat.sub_self]
      exact s
theorem rec_back {x : Rec} {r : Rd} (hx : RightR x) (he : 0 ≤ x.epoch) (h : At r (putR x)) : sameR (recS r).x x ∧ endP (recS r).e ∧ RightR (recS r).x := by
  suffices hh : sameR (recS r).x x ∧ endP (recS r).e from ⟨hh.1, hh.2, rightR_same hh.1 hx⟩
  have fin : ∀ {E : Rd}, At E [] → endP E := fun h => ⟨h.1, by rw [h.2]; rfl⟩
  rcases hx with ⟨k, hv, z1, z2, z3, z4⟩ | ⟨⟨e1, e2, e3, e4, e5⟩, ⟨k, t1, t2, z4⟩ | ⟨k, t, hr⟩ | ⟨k, t, z4⟩⟩
  · have e : putR x = b8 1 :: (putV x.vault ++ []) := by unfold putR; rw [if_pos k, k]; simp
    rw [e] at h
    obtain ⟨a1, v1⟩ := at_one h
    obtain ⟨s, a2, _⟩ := vlt_back hv a1
    have v1' : oneV r = 1 := v1
    unfold recS
    rw [if_pos v1']
    refine ⟨⟨k.symm, z1.symm, z2.symm, z3.symm, s, ?_⟩, fin a2⟩
    rw [List.length_eq_zero_iff.1 z4]; exact samesV_self _
  · have e : putR x = b8 2 :: b8 x.shard :: b8 x.to :: (numI x.epoch ++ []) := by unfold putR; rw [if_neg (by omega), if_pos k, k]; simp
    rw [e] at h
    obtain ⟨a1, v1⟩ := at_one h
    obtain ⟨a2, v2⟩ := at_one a1
    obtain ⟨a3, v3⟩ := at_one a2
    obtain ⟨a4, v4⟩ := at_num a3 he (by omega)
    rw [b8_nat (by omega) (by omega)] at v2 v3
    have v1' : oneV r = 2 := v1
    unfold recS
    rw [v1', if_neg (by decide), if_pos rfl]
    refine ⟨⟨k.symm, v2, v3, v4, sameV_symm e5, ?_⟩, fin a4⟩
    rw [List.length_eq_zero_iff.1 z4]; exact samesV_self _
  · have hl4 := hr.1
    have e : putR x = b8 3 :: b8 x.shard :: (numI x.epoch ++ (UInt8.ofNat x.vaults.l.length :: (x.vaults.l.flatMap putV ++ []))) := by unfold putR; rw [if_neg (by omega), if_neg (by omega), if_pos k, k]; simp
    rw [e] at h
    obtain ⟨a1, v1⟩ := at_one h
    obtain ⟨a2, v2⟩ := at_one a1
    obtain ⟨a3, v3⟩ := at_num a2 he (by omega)
    obtain ⟨a4, v4⟩ := at_one a3
    rw [b8_nat (by omega) (by omega)] at v2
    have v1' : oneV r = 3 := v1
    have v4' : oneV (dropS 8 (dropS 1 (dropS 1 r))) = x.vaults.l.length := by rw [v4, ofNat_toNat']; omega
    obtain ⟨b1, b2⟩ := seq_back (fun i hi => (hr.2 i hi).1) a4 x.vaults.l.length (Nat.le_refl _)
    unfold recS
    rw [v1', if_neg (by decide), if_neg (by decide), if_pos rfl]
    have hm : (min (oneV (dropS 8 (dropS 1 (dropS 1 r)))) 5).toNat = x.vaults.l.length := by omega
    rw [hm]
    rw [List.drop_length] at b1
    refine ⟨⟨k.symm, v2, t.symm, v3, sameV_symm e5, ?_⟩, fin b1⟩
    show samesV (lstOf _).l _
    rw [lstOf_l]
    exact ⟨seqV_len _ _, fun i hi => b2 i (by rw [seqV_len] at hi; exact hi)⟩
  · have e : putR x = b8 4 :: b8 x.shard :: (numI x.epoch ++ []) := by unfold putR; rw [if_neg (by omega), if_neg (by omega), if_neg (by omega), k]; simp
    rw [e] at h
    obtain ⟨a1, v1⟩ := at_one h
    obtain ⟨a2, v2⟩ := at_one a1
    obtain ⟨a3, v3⟩ := at_num a2 he (by omega)
    rw [b8_nat (by omega) (by omega)] at v2
    have v1' : oneV r = 4 := v1
    unfold recS
    rw [v1', if_neg (by decide), if_neg (by decide), if_neg (by decide), if_pos rfl]
    refine ⟨⟨k.symm, v2, t.symm, v3, sameV_symm e5, ?_⟩, fin a3⟩
    rw [List.length_eq_zero_iff.1 z4]; exact samesV_self _
end Go.Proofs.Ytfpoebmihjbknaa.VA
