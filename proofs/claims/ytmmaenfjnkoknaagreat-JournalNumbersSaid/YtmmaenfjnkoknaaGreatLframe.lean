/- The compact code of frames. -/
import Derived.Test.YtmmaenfjnkoknaaGreatPK
set_option linter.unusedVariables false
set_option maxRecDepth 100000
namespace Go.Proofs.YtmmaenfjnkoknaaGreat.VA
open Go
noncomputable section
def A_frame_Seal : ACode := (.seq (rg [oO 4 (.box (.t 0)), oO 6 (.box (.t 2)), oO 7 (.box (.t 3)), oO 8 (.mov (.c (.slice none 0 0))), oO 9 (.mov (ci 0))]) (.seq (rg [oO 13 (.load (some 47) (.t 7)), oO 14 (.call 54 [(.t 13)]), oM 12 14, oO 15 (.extract (.t 12) 0), oO 16 (.extract (.t 12) 1), oM 10 15, oM 11 16]) (.seq (.seq (rg [oM 17 11, oO 18 (.bin .neq (.t 17) (ci 0))]) (.cond (.t 18) (.seq (rg [oM 19 11, oO 8 (.mov (.c (.slice none 0 0))), oM 9 19]) .ret) .skip)) (.seq (rg [oO 20 (.load (some 16) (.t 4)), oM 21 1, oO 22 (.sliceArr 16 1 (.t 6) none none), oM 23 10, oO 24 (.call 50 [(.t 20), (.t 21), (.t 22), (.t 23)]), oM 8 24, oO 9 (.mov (ci 0))]) .ret))))
theorem A_frame_Seal_ok : Tryz.f25.body.bind (cCode Tryz.prog) = some A_frame_Seal := by kernel_rfl
theorem A_frame_Seal_res : cRes Tryz.prog Tryz.f25.results.toList = some [(.tmp 8), (.tmp 9)] := by kernel_rfl
theorem A_frame_Seal_nt : Tryz.f25.ntmps = 25 := by kernel_rfl
def A_frame_Open : ACode := (.seq (rg [oO 4 (.box (.t 0)), oO 6 (.box (.t 2)), oO 8 (.alloc zRec), oO 9 (.mov (ci 0))]) (.seq (rg [oO 13 (.load (some 16) (.t 4)), oM 14 1, oO 15 (.sliceArr 16 1 (.t 6) none none), oM 16 3, oO 17 (.call 60 [(.t 13), (.t 14), (.t 15), (.t 16)]), oM 12 17, oO 18 (.extract (.t 12) 0), oO 19 (.extract (.t 12) 1), oM 10 18, oM 11 19]) (.seq (.seq (rg [oM 20 11, oO 21 (.bin .neq (.t 20) (ci 0))]) (.cond (.t 21) (.seq (rg [oO 22 (.build zRec []), oM 23 11, oN (.store 47 (.t 8) (.t 22)), oM 9 23]) .ret) .skip)) (.seq (rg [oM 24 10, oO 25 (.call 61 [(.t 24)]), oO 26 (.extract (.t 25) 0), oO 27 (.extract (.t 25) 1), oN (.store 47 (.t 8) (.t 26)), oM 9 27]) .ret))))
theorem A_frame_Open_ok : Tryz.f40.body.bind (cCode Tryz.prog) = some A_frame_Open := by kernel_rfl
theorem A_frame_Open_res : cRes Tryz.prog Tryz.f40.results.toList = some [(.cell 8 (some 47)), (.tmp 9)] := by kernel_rfl
theorem A_frame_Open_nt : Tryz.f40.ntmps = 28 := by kernel_rfl
def A_frame_Head : ACode := (.seq (rg [oO 2 (.box (.t 0)), oO 4 (.alloc z16)]) (.seq (.region [(0, 2)] [oO 5 (.load (some 16) (.t 2)), oM 6 1, oO 7 (.call 59 [(.t 6)]), oO 8 (.call 58 [(.t 5), (.t 7)]), oN (.store 16 (.t 4) (.t 8))]) .ret))
theorem A_frame_Head_ok : Tryz.f30.body.bind (cCode Tryz.prog) = some A_frame_Head := by kernel_rfl
theorem A_frame_Head_res : cRes Tryz.prog Tryz.f30.results.toList = some [(.cell 4 (some 16))] := by kernel_rfl
theorem A_frame_Head_nt : Tryz.f30.ntmps = 9 := by kernel_rfl
def A_clavigerref10_Frame : ACode := (.seq (rg [oO 4 (.box (.t 0)), oO 6 (.box (.t 2)), oO 7 (.box (.t 3)), oO 8 (.mov (.c (.slice none 0 0)))]) (.seq (.region [(0, 4), (2, 4)] [oO 9 (.load (some 16) (.t 4)), oM 10 1, oO 11 (.sliceArr 16 1 (.t 6) none none), oO 12 (.load (some 47) (.t 7)), oO 13 (.call 56 [(.t 12)]), oO 14 (.call 55 [(.t 9), (.t 10), (.t 11), (.t 13)]), oM 8 14]) .ret))
theorem A_clavigerref10_Frame_ok : Tryz.f28.body.bind (cCode Tryz.prog) = some A_clavigerref10_Frame := by kernel_rfl
theorem A_clavigerref10_Frame_res : cRes Tryz.prog Tryz.f28.results.toList = some [(.tmp 8)] := by kernel_rfl
theorem A_clavigerref10_Frame_nt : Tryz.f28.ntmps = 15 := by kernel_rfl
def A_clavigerref10_Open : ACode := (.seq (rg [oO 4 (.box (.t 0)), oO 6 (.box (.t 2)), oO 8 (.alloc zRec), oO 9 (.mov (ci 0))]) (.seq (rg [oO 15 (.load (some 16) (.t 4)), oM 16 1, oO 17 (.sliceArr 16 1 (.t 6) none none), oM 18 3, oO 19 (.call 43 [(.t 15), (.t 16), (.t 17), (.t 18)]), oM 14 19, oO 20 (.extract (.t 14) 0), oO 21 (.extract (.t 14) 1), oM 10 20, oM 11 21]) (.seq (.seq (rg [oM 22 11, oO 23 (.bin .neq (.t 22) (ci 0))]) (.cond (.t 23) (.seq (rg [oO 24 (.build zRec []), oM 25 11, oN (.store 47 (.t 8) (.t 24)), oM 9 25]) .ret) .skip)) (.seq (rg [oM 27 10, oO 28 (.call 66 [(.t 27)]), oM 26 28, oO 29 (.extract (.t 26) 0), oO 30 (.extract (.t 26) 1), oO 12 (.alloc zRec), oN (.store 47 (.t 12) (.t 29)), oM 13 30]) (.seq (.seq (rg [oM 31 13, oO 32 (.un .not (.t 31))]) (.cond (.t 32) (.seq (rg [oO 33 (.build zRec []), oN (.store 47 (.t 8) (.t 33)), oO 9 (.mov (ci 12))]) .ret) .skip)) (.seq (rg [oO 34 (.load (some 47) (.t 12)), oN (.store 47 (.t 8) (.t 34)), oO 9 (.mov (ci 0))]) .ret))))))
theorem A_clavigerref10_Open_ok : Tryz.f46.body.bind (cCode Tryz.prog) = some A_clavigerref10_Open := by kernel_rfl
theorem A_clavigerref10_Open_res : cRes Tryz.prog Tryz.f46.results.toList = some [(.cell 8 (some 47)), (.tmp 9)] := by kernel_rfl
theorem A_clavigerref10_Open_nt : Tryz.f46.ntmps = 35 := by kernel_rfl
def A_clavigerref10_Head : ACode := (.seq (rg [oO 2 (.box (.t 0)), oO 4 (.alloc z16)]) (.seq (.region [(0, 2)] [oO 5 (.load (some 16) (.t 2)), oM 6 1, oO 7 (.call 45 [(.t 6)]), oO 8 (.call 67 [(.t 5), (.t 7)]), oN (.store 16 (.t 4) (.t 8))]) .ret))
theorem A_clavigerref10_Head_ok : Tryz.f47.body.bind (cCode Tryz.prog) = some A_clavigerref10_Head := by kernel_rfl
theorem A_clavigerref10_Head_res : cRes Tryz.prog Tryz.f47.results.toList = some [(.cell 4 (some 16))] := by kernel_rfl
theorem A_clavigerref10_Head_nt : Tryz.f47.ntmps = 9 := by kernel_rfl
end
end Go.Proofs.YtmmaenfjnkoknaaGreat.VA
