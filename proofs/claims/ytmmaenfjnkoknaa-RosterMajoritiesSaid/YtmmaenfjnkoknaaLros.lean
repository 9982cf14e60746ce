/- The compact code of rosters, endorsements. -/
import Derived.Test.YtmmaenfjnkoknaaTros
set_option linter.unusedVariables false
set_option maxRecDepth 100000
namespace Go.Proofs.Ytmmaenfjnkoknaa.VA
open Go
noncomputable section
def A_roster_Right_L0 : ACode := (.seq (rg [oO 29 (.bin .lss (.t 28) (.t 27))]) (.seq (.cond (.t 29) .skip (.exit 0)) (.seq (.block 1 (.seq (rg [oM 30 28, oO 31 (.idxSl 1 (.t 26) (.t 28)), oL 32 31, oM 3 30, oM 4 32]) (.seq (rg [oM 33 4, oO 34 (.bin .lss (.t 33) (ci 0)), oM 35 34, oG 36 (.mov (.t 4)) 35 false, oG 37 (.bin .geq (.t 36) (ci 8)) 35 false, oO 38 (.pick (.t 35) (.c (.bool true)) (.t 37)), oM 39 38, oG 40 (.mov (.t 3)) 39 false, oG 41 (.bin .gtr (.t 40) (ci 0)) 39 false, oG 42 (.mov (.t 41)) 39 false, oG 43 (.fieldAddr 1 (.t 1)) 42 true, oG 44 (.load none (.t 43)) 42 true, oG 45 (.mov (.t 3)) 42 true, oG 46 (.bin .sub (.t 45) (ci 1)) 42 true, oG 47 (.idxSl 1 (.t 44) (.t 46)) 42 true, oG 48 (.load none (.t 47)) 42 true, oG 49 (.mov (.t 4)) 42 true, oG 50 (.bin .geq (.t 48) (.t 49)) 42 true, oG 51 (.pick (.t 42) (.t 50) (.c (.bool false))) 39 false, oO 52 (.pick (.t 39) (.c (.bool true)) (.t 51))]) (.cond (.t 52) (.seq (rg [oO 2 (.mov (.c (.bool false)))]) .ret) .skip)))) (rg [oO 53 (.bin .add (.t 28) (ci 1)), oM 28 53]))))
def A_roster_Right : ACode := (.seq (rg [oO 1 (.box (.t 0)), oO 2 (.mov (.c (.bool false)))]) (.seq (.seq (rg [oF 5 0 1, oL 6 5, oO 7 (.bin .lss (.t 6) (.c (.int .u64 1))), oM 8 7, oG 9 (.fieldAddr 0 (.t 1)) 8 false, oG 10 (.load none (.t 9)) 8 false, oG 11 (.bin .gtr (.t 10) (.c (.int .u64 1099511627776))) 8 false, oO 12 (.pick (.t 8) (.c (.bool true)) (.t 11)), oM 13 12, oG 14 (.fieldAddr 1 (.t 1)) 13 false, oG 15 (.load none (.t 14)) 13 false, oG 16 (.lenSl (.t 15)) 13 false, oG 17 (.bin .lss (.t 16) (ci 1)) 13 false, oO 18 (.pick (.t 13) (.c (.bool true)) (.t 17)), oM 19 18, oG 20 (.fieldAddr 1 (.t 1)) 19 false, oG 21 (.load none (.t 20)) 19 false, oG 22 (.lenSl (.t 21)) 19 false, oG 23 (.bin .gtr (.t 22) (ci 8)) 19 false, oO 24 (.pick (.t 19) (.c (.bool true)) (.t 23))]) (.cond (.t 24) (.seq (rg [oO 2 (.mov (.c (.bool false)))]) .ret) .skip)) (.seq (.seq (rg [oF 25 1 1, oL 26 25, oO 27 (.lenSl (.t 26)), oO 28 (.mov (ci 0))]) (.block 0 (.loop A_roster_Right_L0))) (.seq (rg [oO 2 (.mov (.c (.bool true)))]) .ret))))
def K_roster_Right_L0 : Kt := (.blk 0 (.seq (.seq (rg [oO 2 (.mov (.c (.bool true)))]) .ret) .fin))
theorem A_roster_Right_ok : Try.f96.body.bind (cCode Try.prog) = some A_roster_Right := by kernel_rfl
theorem A_roster_Right_res : cRes Try.prog Try.f96.results.toList = some [(.tmp 2)] := by kernel_rfl
theorem A_roster_Right_nt : Try.f96.ntmps = 54 := by kernel_rfl
def A_roster_Same : ACode := (.seq (rg [oO 2 (.box (.t 0)), oO 3 (.box (.t 1)), oO 4 (.mov (.c (.bool false)))]) (.seq (rg [oF 5 0 2, oL 6 5, oF 7 0 3, oL 8 7, oO 9 (.bin .eql (.t 6) (.t 8)), oM 10 9, oG 11 (.fieldAddr 1 (.t 2)) 10 true, oG 12 (.load none (.t 11)) 10 true, oG 13 (.fieldAddr 1 (.t 3)) 10 true, oG 14 (.load none (.t 13)) 10 true, oG 15 (.call 159 [(.t 12), (.t 14)]) 10 true, oO 16 (.pick (.t 10) (.t 15) (.c (.bool false))), oM 4 16]) .ret))
theorem A_roster_Same_ok : Try.f83.body.bind (cCode Try.prog) = some A_roster_Same := by kernel_rfl
theorem A_roster_Same_res : cRes Try.prog Try.f83.results.toList = some [(.tmp 4)] := by kernel_rfl
theorem A_roster_Same_nt : Try.f83.ntmps = 17 := by kernel_rfl
def A_roster_Has : ACode := (.seq (rg [oO 2 (.box (.t 0)), oO 4 (.mov (.c (.bool false)))]) (.seq (rg [oO 5 (.load (some 2) (.t 2)), oO 6 (.call 96 [(.t 5)]), oM 7 6, oG 8 (.fieldAddr 1 (.t 2)) 7 true, oG 9 (.load none (.t 8)) 7 true, oG 10 (.mov (.t 1)) 7 true, oG 11 (.call 157 [(.t 9), (.t 10)]) 7 true, oO 12 (.pick (.t 7) (.t 11) (.c (.bool false))), oM 4 12]) .ret))
theorem A_roster_Has_ok : Try.f80.body.bind (cCode Try.prog) = some A_roster_Has := by kernel_rfl
theorem A_roster_Has_res : cRes Try.prog Try.f80.results.toList = some [(.tmp 4)] := by kernel_rfl
theorem A_roster_Has_nt : Try.f80.ntmps = 13 := by kernel_rfl
def A_roster_Majority : ACode := (.seq (rg [oO 1 (.box (.t 0)), oO 2 (.mov (ci 0))]) (.seq (.seq (rg [oO 3 (.load (some 2) (.t 1)), oO 4 (.call 96 [(.t 3)]), oO 5 (.un .not (.t 4))]) (.cond (.t 5) (.seq (rg [oO 2 (.mov (ci 0))]) .ret) .skip)) (.seq (rg [oF 6 1 1, oL 7 6, oO 8 (.lenSl (.t 7)), oO 9 (.bin .quo (.t 8) (ci 2)), oO 10 (.bin .add (.t 9) (ci 1)), oM 2 10]) .ret)))
theorem A_roster_Majority_ok : Try.f75.body.bind (cCode Try.prog) = some A_roster_Majority := by kernel_rfl
theorem A_roster_Majority_res : cRes Try.prog Try.f75.results.toList = some [(.tmp 2)] := by kernel_rfl
theorem A_roster_Majority_nt : Try.f75.ntmps = 11 := by kernel_rfl
def A_roster_Follows_L0 : ACode := (.seq (rg [oO 24 (.bin .lss (.t 23) (ci 8))]) (.seq (.cond (.t 24) .skip (.exit 0)) (.seq (.block 1 (.seq (rg [oM 25 23, oM 6 25]) (.seq (.region [(2, 3)] [oO 26 (.load (some 2) (.t 2)), oM 27 6, oO 28 (.call 80 [(.t 26), (.t 27)]), oO 29 (.load (some 2) (.t 3)), oM 30 6, oO 31 (.call 80 [(.t 29), (.t 30)]), oO 32 (.eqB true (.t 28) (.t 31))]) (.cond (.t 32) (rg [oM 33 5, oO 34 (.bin .add (.t 33) (ci 1)), oM 5 34]) .skip)))) (rg [oO 35 (.bin .add (.t 23) (ci 1)), oM 23 35]))))
def A_roster_Follows : ACode := (.seq (rg [oO 2 (.box (.t 0)), oO 3 (.box (.t 1)), oO 4 (.mov (.c (.bool false)))]) (.seq (.seq (rg [oO 7 (.load (some 2) (.t 2)), oO 8 (.call 96 [(.t 7)]), oO 9 (.un .not (.t 8)), oM 10 9, oG 11 (.load (some 2) (.t 3)) 10 false, oG 12 (.call 96 [(.t 11)]) 10 false, oG 13 (.un .not (.t 12)) 10 false, oO 14 (.pick (.t 10) (.c (.bool true)) (.t 13)), oM 15 14, oG 16 (.fieldAddr 0 (.t 3)) 15 false, oG 17 (.load none (.t 16)) 15 false, oG 18 (.fieldAddr 0 (.t 2)) 15 false, oG 19 (.load none (.t 18)) 15 false, oG 20 (.bin .add (.t 19) (.c (.int .u64 1))) 15 false, oG 21 (.bin .neq (.t 17) (.t 20)) 15 false, oO 22 (.pick (.t 15) (.c (.bool true)) (.t 21))]) (.cond (.t 22) (.seq (rg [oO 4 (.mov (.c (.bool false)))]) .ret) .skip)) (.seq (rg [oO 5 (.mov (ci 0))]) (.seq (.seq (rg [oO 23 (.mov (ci 0))]) (.block 0 (.loop A_roster_Follows_L0))) (.seq (rg [oM 36 5, oO 37 (.bin .eql (.t 36) (ci 1)), oM 4 37]) .ret)))))
def K_roster_Follows_L0 : Kt := (.blk 0 (.seq (.seq (rg [oM 36 5, oO 37 (.bin .eql (.t 36) (ci 1)), oM 4 37]) .ret) .fin))
theorem A_roster_Follows_ok : Try.f79.body.bind (cCode Try.prog) = some A_roster_Follows := by kernel_rfl
theorem A_roster_Follows_res : cRes Try.prog Try.f79.results.toList = some [(.tmp 4)] := by kernel_rfl
theorem A_roster_Follows_nt : Try.f79.ntmps = 38 := by kernel_rfl
def A_slices_Equal_int_int_L0 : ACode := (.seq (rg [oO 14 (.bin .lss (.t 13) (.t 12))]) (.seq (.cond (.t 14) .skip (.exit 0)) (.seq (.block 1 (.seq (rg [oM 15 13, oM 5 15]) (.seq (rg [oM 16 0, oM 17 5, oO 18 (.idxSl 1 (.t 16) (.t 17)), oL 19 18, oM 20 1, oM 21 5, oO 22 (.idxSl 1 (.t 20) (.t 21)), oL 23 22, oO 24 (.bin .neq (.t 19) (.t 23))]) (.cond (.t 24) (.seq (rg [oO 4 (.mov (.c (.bool false)))]) .ret) .skip)))) (rg [oO 25 (.bin .add (.t 13) (ci 1)), oM 13 25]))))
def A_slices_Equal_int_int : ACode := (.seq (rg [oO 4 (.mov (.c (.bool false)))]) (.seq (.seq (rg [oM 6 0, oO 7 (.lenSl (.t 6)), oM 8 1, oO 9 (.lenSl (.t 8)), oO 10 (.bin .neq (.t 7) (.t 9))]) (.cond (.t 10) (.seq (rg [oO 4 (.mov (.c (.bool false)))]) .ret) .skip)) (.seq (.seq (rg [oM 11 0, oO 12 (.lenSl (.t 11)), oO 13 (.mov (ci 0))]) (.block 0 (.loop A_slices_Equal_int_int_L0))) (.seq (rg [oO 4 (.mov (.c (.bool true)))]) .ret))))
def K_slices_Equal_int_int_L0 : Kt := (.blk 0 (.seq (.seq (rg [oO 4 (.mov (.c (.bool true)))]) .ret) .fin))
theorem A_slices_Equal_int_int_ok : Try.f159.body.bind (cCode Try.prog) = some A_slices_Equal_int_int := by kernel_rfl
theorem A_slices_Equal_int_int_res : cRes Try.prog Try.f159.results.toList = some [(.tmp 4)] := by kernel_rfl
theorem A_slices_Equal_int_int_nt : Try.f159.ntmps = 26 := by kernel_rfl
def A_slices_Contains_int_int : ACode := (.seq (rg [oO 4 (.mov (.c (.bool false)))]) (.seq (rg [oM 5 0, oM 6 1, oO 7 (.call 205 [(.t 5), (.t 6)]), oO 8 (.bin .geq (.t 7) (ci 0)), oM 4 8]) .ret))
theorem A_slices_Contains_int_int_ok : Try.f157.body.bind (cCode Try.prog) = some A_slices_Contains_int_int := by kernel_rfl
theorem A_slices_Contains_int_int_res : cRes Try.prog Try.f157.results.toList = some [(.tmp 4)] := by kernel_rfl
theorem A_slices_Contains_int_int_nt : Try.f157.ntmps = 9 := by kernel_rfl
def A_slices_Index_int_int_L0 : ACode := (.seq (rg [oO 9 (.bin .lss (.t 8) (.t 7))]) (.seq (.cond (.t 9) .skip (.exit 0)) (.seq (.block 1 (.seq (rg [oM 10 8, oM 5 10]) (.seq (rg [oM 11 1, oM 12 0, oM 13 5, oO 14 (.idxSl 1 (.t 12) (.t 13)), oL 15 14, oO 16 (.bin .eql (.t 11) (.t 15))]) (.cond (.t 16) (.seq (rg [oM 17 5, oM 4 17]) .ret) .skip)))) (rg [oO 18 (.bin .add (.t 8) (ci 1)), oM 8 18]))))
def A_slices_Index_int_int : ACode := (.seq (rg [oO 4 (.mov (ci 0))]) (.seq (.seq (rg [oM 6 0, oO 7 (.lenSl (.t 6)), oO 8 (.mov (ci 0))]) (.block 0 (.loop A_slices_Index_int_int_L0))) (.seq (rg [oO 4 (.mov (ci (-1)))]) .ret)))
def K_slices_Index_int_int_L0 : Kt := (.blk 0 (.seq (.seq (rg [oO 4 (.mov (ci (-1)))]) .ret) .fin))
theorem A_slices_Index_int_int_ok : Try.f205.body.bind (cCode Try.prog) = some A_slices_Index_int_int := by kernel_rfl
theorem A_slices_Index_int_int_res : cRes Try.prog Try.f205.results.toList = some [(.tmp 4)] := by kernel_rfl
theorem A_slices_Index_int_int_nt : Try.f205.ntmps = 19 := by kernel_rfl
end
end Go.Proofs.Ytmmaenfjnkoknaa.VA
