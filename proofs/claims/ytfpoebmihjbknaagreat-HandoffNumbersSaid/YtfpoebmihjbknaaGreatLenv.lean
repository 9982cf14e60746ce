/- The compact code of letters. -/
import Derived.Test.YtfpoebmihjbknaaGreatVC
set_option linter.unusedVariables false
set_option maxRecDepth 100000
namespace Go.Proofs.YtfpoebmihjbknaaGreat.VA
open Go
noncomputable section
def A_envelope_Inner : ACode := (.seq (rg [oO 2 (.box (.t 0)), oO 4 (.alloc z16)]) (.seq (.region [(0, 2)] [oO 5 (.load (some 16) (.t 2)), oM 6 1, oO 7 (.call 35 [(.t 6)]), oO 8 (.call 82 [(.t 5), (.t 7)]), oN (.store 16 (.t 4) (.t 8))]) .ret))
theorem A_envelope_Inner_ok : Tryz.f62.body.bind (cCode Tryz.prog) = some A_envelope_Inner := by kernel_rfl
theorem A_envelope_Inner_res : cRes Tryz.prog Tryz.f62.results.toList = some [(.cell 4 (some 16))] := by kernel_rfl
theorem A_envelope_Inner_nt : Tryz.f62.ntmps = 9 := by kernel_rfl
def A_envelope_Close : ACode := (.seq (rg [oO 4 (.box (.t 0)), oO 8 (.mov (.c (.slice none 0 0))), oO 9 (.mov (ci 0))]) (.seq (.seq (rg [oM 10 3, oO 11 (.lenSl (.t 10)), oO 12 (.bin .gtr (.t 11) (ci 8176))]) (.cond (.t 12) (.seq (rg [oO 8 (.mov (.c (.slice none 0 0))), oO 9 (.mov (ci 3))]) .ret) .skip)) (.seq (.region [(1, 2)] [oM 13 1, oO 14 (.call 35 [(.t 13)]), oO 15 (.load (some 16) (.t 4)), oM 16 1, oO 17 (.call 62 [(.t 15), (.t 16)]), oM 18 1, oM 19 2, oO 20 (.buildSl 1 1 z1 [(0, (1, (.t 19)))]), oM 21 3, oO 22 (.call 61 [(.t 17), (.t 18), (.t 20), (.t 21)]), oO 23 (.append 1 1 (.t 14) (.t 22)), oM 8 23, oO 9 (.mov (ci 0))]) .ret)))
theorem A_envelope_Close_ok : Tryz.f32.body.bind (cCode Tryz.prog) = some A_envelope_Close := by kernel_rfl
theorem A_envelope_Close_res : cRes Tryz.prog Tryz.f32.results.toList = some [(.tmp 8), (.tmp 9)] := by kernel_rfl
theorem A_envelope_Close_nt : Tryz.f32.ntmps = 24 := by kernel_rfl
def A_envelope_seed_L0 : ACode := (.seq (rg [oO 10 (.bin .lss (.t 9) (.t 8))]) (.seq (.cond (.t 10) .skip (.exit 0)) (.seq (.block 1 (.seq (rg [oO 11 (.idxSl 1 (.t 7) (.t 9)), oL 12 11, oM 5 12]) (rg [oM 13 3, oO 14 (.bin .shl (.t 13) (.c (.int .u64 8))), oM 15 5, oO 16 (.conv .u64 (.t 15)), oO 17 (.bin .or (.t 14) (.t 16)), oM 3 17]))) (rg [oO 18 (.bin .add (.t 9) (ci 1)), oM 9 18]))))
def A_envelope_seed : ACode := (.seq (rg [oO 2 (.mov (.c (.int .u64 0)))]) (.seq (rg [oO 3 (.mov (.c (.int .u64 0)))]) (.seq (.seq (rg [oM 6 0, oO 7 (.sliceSl 1 (.t 6) none (some (ci 8))), oO 8 (.lenSl (.t 7)), oO 9 (.mov (ci 0))]) (.block 0 (.loop A_envelope_seed_L0))) (.seq (rg [oM 19 3, oM 2 19]) .ret))))
def K_envelope_seed_L0 : Kt := (.blk 0 (.seq (.seq (rg [oM 19 3, oM 2 19]) .ret) .fin))
theorem A_envelope_seed_ok : Tryz.f67.body.bind (cCode Tryz.prog) = some A_envelope_seed := by kernel_rfl
theorem A_envelope_seed_res : cRes Tryz.prog Tryz.f67.results.toList = some [(.tmp 2)] := by kernel_rfl
theorem A_envelope_seed_nt : Tryz.f67.ntmps = 20 := by kernel_rfl
def A_envelope_Open : ACode := (.seq (rg [oO 3 (.box (.t 0)), oO 6 (.mov (.c (.slice none 0 0))), oO 7 (.mov (ci 0))]) (.seq (.block 0 (.seq (rg [oM 10 2, oO 11 (.lenSl (.t 10)), oO 12 (.bin .lss (.t 11) (ci 16)), oM 9 12]) (.cond (.t 9) (.seq (rg [oO 6 (.mov (.c (.slice none 0 0))), oO 7 (.mov (ci 12))]) .ret) (.seq (rg [oM 14 2, oO 15 (.lenSl (.t 14)), oO 16 (.bin .gtr (.t 15) (ci 8192)), oM 13 16]) (.cond (.t 13) (.seq (rg [oO 6 (.mov (.c (.slice none 0 0))), oO 7 (.mov (ci 3))]) .ret) .skip))))) (.seq (rg [oM 17 2, oO 18 (.call 67 [(.t 17)]), oM 8 18]) (.seq (.region [(2, 7)] [oO 19 (.load (some 16) (.t 3)), oM 20 8, oO 21 (.call 62 [(.t 19), (.t 20)]), oM 22 8, oM 23 1, oO 24 (.buildSl 1 1 z1 [(0, (1, (.t 23)))]), oM 25 2, oO 26 (.sliceSl 1 (.t 25) (some (ci 8)) none), oO 27 (.call 68 [(.t 21), (.t 22), (.t 24), (.t 26)]), oO 28 (.extract (.t 27) 0), oO 29 (.extract (.t 27) 1), oM 6 28, oM 7 29]) .ret))))
theorem A_envelope_Open_ok : Tryz.f49.body.bind (cCode Tryz.prog) = some A_envelope_Open := by kernel_rfl
theorem A_envelope_Open_res : cRes Tryz.prog Tryz.f49.results.toList = some [(.tmp 6), (.tmp 7)] := by kernel_rfl
theorem A_envelope_Open_nt : Tryz.f49.ntmps = 30 := by kernel_rfl
def A_clavigerref4_Inner : ACode := (.seq (rg [oO 2 (.box (.t 0)), oO 4 (.alloc z16)]) (.seq (.region [(0, 2)] [oO 5 (.load (some 16) (.t 2)), oM 6 1, oO 7 (.call 36 [(.t 6)]), oO 8 (.call 65 [(.t 5), (.t 7)]), oN (.store 16 (.t 4) (.t 8))]) .ret))
theorem A_clavigerref4_Inner_ok : Tryz.f42.body.bind (cCode Tryz.prog) = some A_clavigerref4_Inner := by kernel_rfl
theorem A_clavigerref4_Inner_res : cRes Tryz.prog Tryz.f42.results.toList = some [(.cell 4 (some 16))] := by kernel_rfl
theorem A_clavigerref4_Inner_nt : Tryz.f42.ntmps = 9 := by kernel_rfl
def A_clavigerref4_Close : ACode := (.seq (rg [oO 4 (.box (.t 0)), oO 8 (.mov (.c (.slice none 0 0))), oO 9 (.mov (ci 0))]) (.seq (.seq (rg [oM 10 3, oO 11 (.lenSl (.t 10)), oO 12 (.bin .gtr (.t 11) (ci 8176))]) (.cond (.t 12) (.seq (rg [oO 8 (.mov (.c (.slice none 0 0))), oO 9 (.mov (ci 3))]) .ret) .skip)) (.seq (.region [(1, 2)] [oM 13 1, oO 14 (.call 36 [(.t 13)]), oO 15 (.load (some 16) (.t 4)), oM 16 1, oO 17 (.call 42 [(.t 15), (.t 16)]), oM 18 1, oM 19 2, oO 20 (.buildSl 1 1 z1 [(0, (1, (.t 19)))]), oM 21 3, oO 22 (.call 41 [(.t 17), (.t 18), (.t 20), (.t 21)]), oO 23 (.append 1 1 (.t 14) (.t 22)), oM 8 23, oO 9 (.mov (ci 0))]) .ret)))
theorem A_clavigerref4_Close_ok : Tryz.f15.body.bind (cCode Tryz.prog) = some A_clavigerref4_Close := by kernel_rfl
theorem A_clavigerref4_Close_res : cRes Tryz.prog Tryz.f15.results.toList = some [(.tmp 8), (.tmp 9)] := by kernel_rfl
theorem A_clavigerref4_Close_nt : Tryz.f15.ntmps = 24 := by kernel_rfl
def A_clavigerref4_Seed_L0 : ACode := (.seq (.seq (rg [oM 5 4, oO 6 (.bin .lss (.t 5) (ci 8))]) (.cond (.t 6) .skip (.exit 0))) (.seq (.block 1 (rg [oM 9 3, oO 10 (.bin .mul (.t 9) (.c (.int .u64 256))), oM 11 0, oM 12 4, oO 13 (.idxSl 1 (.t 11) (.t 12)), oL 14 13, oO 15 (.conv .u64 (.t 14)), oO 16 (.bin .add (.t 10) (.t 15)), oM 3 16])) (rg [oM 7 4, oO 8 (.bin .add (.t 7) (ci 1)), oM 4 8])))
def A_clavigerref4_Seed : ACode := (.seq (rg [oO 2 (.mov (.c (.int .u64 0)))]) (.seq (rg [oO 3 (.mov (.c (.int .u64 0)))]) (.seq (.seq (rg [oO 4 (.mov (ci 0))]) (.block 0 (.loop A_clavigerref4_Seed_L0))) (.seq (rg [oM 17 3, oM 2 17]) .ret))))
def K_clavigerref4_Seed_L0 : Kt := (.blk 0 (.seq (.seq (rg [oM 17 3, oM 2 17]) .ret) .fin))
theorem A_clavigerref4_Seed_ok : Tryz.f51.body.bind (cCode Tryz.prog) = some A_clavigerref4_Seed := by kernel_rfl
theorem A_clavigerref4_Seed_res : cRes Tryz.prog Tryz.f51.results.toList = some [(.tmp 2)] := by kernel_rfl
theorem A_clavigerref4_Seed_nt : Tryz.f51.ntmps = 18 := by kernel_rfl
def A_clavigerref4_Unclose : ACode := (.seq (rg [oO 3 (.box (.t 0)), oO 6 (.mov (.c (.slice none 0 0))), oO 7 (.mov (ci 0))]) (.seq (.seq (rg [oM 9 2, oO 10 (.lenSl (.t 9)), oO 11 (.bin .lss (.t 10) (ci 16))]) (.cond (.t 11) (.seq (rg [oO 6 (.mov (.c (.slice none 0 0))), oO 7 (.mov (ci 12))]) .ret) .skip)) (.seq (.seq (rg [oM 12 2, oO 13 (.lenSl (.t 12)), oO 14 (.bin .gtr (.t 13) (ci 8192))]) (.cond (.t 14) (.seq (rg [oO 6 (.mov (.c (.slice none 0 0))), oO 7 (.mov (ci 3))]) .ret) .skip)) (.seq (rg [oM 15 2, oO 16 (.call 51 [(.t 15)]), oM 8 16]) (.seq (.region [(2, 7)] [oO 17 (.load (some 16) (.t 3)), oM 18 8, oO 19 (.call 42 [(.t 17), (.t 18)]), oM 20 8, oM 21 1, oO 22 (.buildSl 1 1 z1 [(0, (1, (.t 21)))]), oM 23 2, oO 24 (.sliceSl 1 (.t 23) (some (ci 8)) none), oO 25 (.call 52 [(.t 19), (.t 20), (.t 22), (.t 24)]), oO 26 (.extract (.t 25) 0), oO 27 (.extract (.t 25) 1), oM 6 26, oM 7 27]) .ret)))))
theorem A_clavigerref4_Unclose_ok : Tryz.f20.body.bind (cCode Tryz.prog) = some A_clavigerref4_Unclose := by kernel_rfl
theorem A_clavigerref4_Unclose_res : cRes Tryz.prog Tryz.f20.results.toList = some [(.tmp 6), (.tmp 7)] := by kernel_rfl
theorem A_clavigerref4_Unclose_nt : Tryz.f20.ntmps = 28 := by kernel_rfl
end
end Go.Proofs.YtfpoebmihjbknaaGreat.VA
