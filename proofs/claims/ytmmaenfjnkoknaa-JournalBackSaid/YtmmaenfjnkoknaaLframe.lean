/- The compact code of frames. -/
import Derived.Test.YtmmaenfjnkoknaaPK
set_option linter.unusedVariables false
set_option maxRecDepth 100000
namespace Go.Proofs.Ytmmaenfjnkoknaa.VA
open Go
noncomputable section
def A_frame_Seal : ACode := (.seq (rg [oO 4 (.box (.t 0)), oO 6 (.box (.t 2)), oO 7 (.box (.t 3)), oO 8 (.mov (.c (.slice none 0 0))), oO 9 (.mov (ci 0))]) (.seq (rg [oO 13 (.load (some 47) (.t 7)), oO 14 (.call 100 [(.t 13)]), oM 12 14, oO 15 (.extract (.t 12) 0), oO 16 (.extract (.t 12) 1), oM 10 15, oM 11 16]) (.seq (.seq (rg [oM 17 11, oO 18 (.bin .neq (.t 17) (ci 0))]) (.cond (.t 18) (.seq (rg [oM 19 11, oO 8 (.mov (.c (.slice none 0 0))), oM 9 19]) .ret) .skip)) (.seq (rg [oO 20 (.load (some 16) (.t 4)), oM 21 1, oO 22 (.sliceArr 16 1 (.t 6) none none), oM 23 10, oO 24 (.call 120 [(.t 20), (.t 21), (.t 22), (.t 23)]), oM 8 24, oO 9 (.mov (ci 0))]) .ret))))
theorem A_frame_Seal_ok : Try.f47.body.bind (cCode Try.prog) = some A_frame_Seal := by kernel_rfl
theorem A_frame_Seal_res : cRes Try.prog Try.f47.results.toList = some [(.tmp 8), (.tmp 9)] := by kernel_rfl
theorem A_frame_Seal_nt : Try.f47.ntmps = 25 := by kernel_rfl
def A_frame_Open : ACode := (.seq (rg [oO 4 (.box (.t 0)), oO 6 (.box (.t 2)), oO 8 (.alloc zRec), oO 9 (.mov (ci 0))]) (.seq (rg [oO 13 (.load (some 16) (.t 4)), oM 14 1, oO 15 (.sliceArr 16 1 (.t 6) none none), oM 16 3, oO 17 (.call 191 [(.t 13), (.t 14), (.t 15), (.t 16)]), oM 12 17, oO 18 (.extract (.t 12) 0), oO 19 (.extract (.t 12) 1), oM 10 18, oM 11 19]) (.seq (.seq (rg [oM 20 11, oO 21 (.bin .neq (.t 20) (ci 0))]) (.cond (.t 21) (.seq (rg [oO 22 (.build zRec []), oM 23 11, oN (.store 47 (.t 8) (.t 22)), oM 9 23]) .ret) .skip)) (.seq (rg [oM 24 10, oO 25 (.call 116 [(.t 24)]), oO 26 (.extract (.t 25) 0), oO 27 (.extract (.t 25) 1), oN (.store 47 (.t 8) (.t 26)), oM 9 27]) .ret))))
theorem A_frame_Open_ok : Try.f121.body.bind (cCode Try.prog) = some A_frame_Open := by kernel_rfl
theorem A_frame_Open_res : cRes Try.prog Try.f121.results.toList = some [(.cell 8 (some 47)), (.tmp 9)] := by kernel_rfl
theorem A_frame_Open_nt : Try.f121.ntmps = 28 := by kernel_rfl
def A_frame_Head : ACode := (.seq (rg [oO 2 (.box (.t 0)), oO 4 (.alloc z16)]) (.seq (.region [(0, 2)] [oO 5 (.load (some 16) (.t 2)), oM 6 1, oO 7 (.call 89 [(.t 6)]), oO 8 (.call 86 [(.t 5), (.t 7)]), oN (.store 16 (.t 4) (.t 8))]) .ret))
theorem A_frame_Head_ok : Try.f141.body.bind (cCode Try.prog) = some A_frame_Head := by kernel_rfl
theorem A_frame_Head_res : cRes Try.prog Try.f141.results.toList = some [(.cell 4 (some 16))] := by kernel_rfl
theorem A_frame_Head_nt : Try.f141.ntmps = 9 := by kernel_rfl
def A_clavigerref10_Frame : ACode := (.seq (rg [oO 4 (.box (.t 0)), oO 6 (.box (.t 2)), oO 7 (.box (.t 3)), oO 8 (.mov (.c (.slice none 0 0)))]) (.seq (.region [(0, 4), (2, 4)] [oO 9 (.load (some 16) (.t 4)), oM 10 1, oO 11 (.sliceArr 16 1 (.t 6) none none), oO 12 (.load (some 47) (.t 7)), oO 13 (.call 43 [(.t 12)]), oO 14 (.call 130 [(.t 9), (.t 10), (.t 11), (.t 13)]), oM 8 14]) .ret))
theorem A_clavigerref10_Frame_ok : Try.f139.body.bind (cCode Try.prog) = some A_clavigerref10_Frame := by kernel_rfl
theorem A_clavigerref10_Frame_res : cRes Try.prog Try.f139.results.toList = some [(.tmp 8)] := by kernel_rfl
theorem A_clavigerref10_Frame_nt : Try.f139.ntmps = 15 := by kernel_rfl
end
end Go.Proofs.Ytmmaenfjnkoknaa.VA
