/- The compact code of the book's functions. -/
import Derived.Test.YtlahigboaeadmaaV26
set_option linter.unusedVariables false
set_option maxRecDepth 100000
namespace Go.Proofs.Ytlahigboaeadmaa.VA
open Go
noncomputable section

def A_clavigerkeep_Cut : ACode := (.seq (.region [] [⟨(some 4), (.mov (.c (.slice none 0 0))), none⟩]) (.seq (.seq (.region [] [⟨(some 5), (.mov (.t 0)), none⟩, ⟨(some 6), (.lenSl (.t 5)), none⟩, ⟨(some 7), (.mov (.t 1)), none⟩, ⟨(some 8), (.bin .gtr (.t 6) (.t 7)), none⟩]) (.cond (.t 8) (.seq (.region [] [⟨(some 9), (.mov (.t 0)), none⟩, ⟨(some 10), (.mov (.t 1)), none⟩, ⟨(some 11), (.sliceSl 1 (.t 9) none (some (.t 10))), none⟩, ⟨(some 4), (.mov (.t 11)), none⟩]) .ret) .skip)) (.seq (.region [] [⟨(some 12), (.mov (.t 0)), none⟩, ⟨(some 4), (.mov (.t 12)), none⟩]) .ret)))
theorem A_clavigerkeep_Cut_ok : Try.f41.body.bind (cCode Try.prog) = some A_clavigerkeep_Cut := by kernel_rfl
theorem A_clavigerkeep_Cut_res : cRes Try.prog Try.f41.results.toList = some [(.tmp 4)] := by kernel_rfl
theorem A_clavigerkeep_Cut_nt : Try.f41.ntmps = 13 := by kernel_rfl
def E_clavigerkeep_Cut : Ent := ⟨41, A_clavigerkeep_Cut, [(.tmp 4)], 13⟩
theorem E_clavigerkeep_Cut_ok : EntOK Try.prog E_clavigerkeep_Cut := ⟨_, Try.func41, A_clavigerkeep_Cut_ok, A_clavigerkeep_Cut_res, A_clavigerkeep_Cut_nt⟩

def A_clavigerbook_Roomy_byte_L0 : ACode := (.seq (.seq (.region [] [⟨(some 16), (.mov (.t 6)), none⟩, ⟨(some 17), (.mov (.t 5)), none⟩, ⟨(some 18), (.lenSl (.t 17)), none⟩, ⟨(some 19), (.bin .lss (.t 16) (.t 18)), none⟩]) (.cond (.t 19) .skip (.exit 0))) (.seq (.block 1 (.region [] [⟨(some 22), (.mov (.t 5)), none⟩, ⟨(some 23), (.mov (.t 6)), none⟩, ⟨(some 24), (.mov (.t 1)), none⟩, ⟨(some 25), (.idxSl 1 (.t 22) (.t 23)), none⟩, ⟨none, (.store 1 (.t 25) (.t 24)), none⟩])) (.region [] [⟨(some 20), (.mov (.t 6)), none⟩, ⟨(some 21), (.bin .add (.t 20) (.c (.int .i64 1))), none⟩, ⟨(some 6), (.mov (.t 21)), none⟩])))
def A_clavigerbook_Roomy_byte : ACode := (.seq (.region [] [⟨(some 4), (.mov (.c (.slice none 0 0))), none⟩]) (.seq (.region [] [⟨(some 7), (.mov (.t 0)), none⟩, ⟨(some 8), (.lenSl (.t 7)), none⟩, ⟨(some 9), (.bin .add (.t 8) (.c (.int .i64 80))), none⟩, ⟨(some 10), (.mkSl 1 1 z1 (.t 9) (.t 9)), none⟩, ⟨(some 5), (.mov (.t 10)), none⟩]) (.seq (.region [] [⟨(some 11), (.mov (.t 5)), none⟩, ⟨(some 12), (.mov (.t 0)), none⟩, ⟨(some 13), (.copy 1 (.t 11) (.t 12)), none⟩]) (.seq (.seq (.region [] [⟨(some 14), (.mov (.t 0)), none⟩, ⟨(some 15), (.lenSl (.t 14)), none⟩, ⟨(some 6), (.mov (.t 15)), none⟩]) (.block 0 (.loop A_clavigerbook_Roomy_byte_L0))) (.seq (.region [] [⟨(some 26), (.mov (.t 5)), none⟩, ⟨(some 4), (.mov (.t 26)), none⟩]) .ret)))))
def K_clavigerbook_Roomy_byte_L0 : Kt := (.blk 0 (.seq (.seq (.region [] [⟨(some 26), (.mov (.t 5)), none⟩, ⟨(some 4), (.mov (.t 26)), none⟩]) .ret) .fin))
theorem A_clavigerbook_Roomy_byte_ok : Try.f42.body.bind (cCode Try.prog) = some A_clavigerbook_Roomy_byte := by kernel_rfl
theorem A_clavigerbook_Roomy_byte_res : cRes Try.prog Try.f42.results.toList = some [(.tmp 4)] := by kernel_rfl
theorem A_clavigerbook_Roomy_byte_nt : Try.f42.ntmps = 27 := by kernel_rfl
def E_clavigerbook_Roomy_byte : Ent := ⟨42, A_clavigerbook_Roomy_byte, [(.tmp 4)], 27⟩
theorem E_clavigerbook_Roomy_byte_ok : EntOK Try.prog E_clavigerbook_Roomy_byte := ⟨_, Try.func42, A_clavigerbook_Roomy_byte_ok, A_clavigerbook_Roomy_byte_res, A_clavigerbook_Roomy_byte_nt⟩

def A_clavigerbook_Intact_byte_L0 : ACode := (.seq (.seq (.region [] [⟨(some 25), (.mov (.t 7)), none⟩, ⟨(some 26), (.mov (.t 0)), none⟩, ⟨(some 27), (.lenSl (.t 26)), none⟩, ⟨(some 28), (.bin .lss (.t 25) (.t 27)), none⟩]) (.cond (.t 28) .skip (.exit 0))) (.seq (.block 1 (.seq (.region [] [⟨(some 31), (.mov (.t 0)), none⟩, ⟨(some 32), (.mov (.t 7)), none⟩, ⟨(some 33), (.idxSl 1 (.t 31) (.t 32)), none⟩, ⟨(some 34), (.load none (.t 33)), none⟩, ⟨(some 35), (.mov (.t 2)), none⟩, ⟨(some 36), (.bin .neq (.t 34) (.t 35)), none⟩]) (.cond (.t 36) (.seq (.region [] [⟨(some 6), (.mov (.c (.bool false))), none⟩]) .ret) .skip))) (.region [] [⟨(some 29), (.mov (.t 7)), none⟩, ⟨(some 30), (.bin .add (.t 29) (.c (.int .i64 1))), none⟩, ⟨(some 7), (.mov (.t 30)), none⟩])))
def A_clavigerbook_Intact_byte : ACode := (.seq (.region [] [⟨(some 6), (.mov (.c (.bool false))), none⟩]) (.seq (.seq (.region [] [⟨(some 8), (.mov (.t 0)), none⟩, ⟨(some 9), (.lenSl (.t 8)), none⟩, ⟨(some 10), (.mov (.t 1)), none⟩, ⟨(some 11), (.lenSl (.t 10)), none⟩, ⟨(some 12), (.bin .add (.t 11) (.c (.int .i64 80))), none⟩, ⟨(some 13), (.bin .neq (.t 9) (.t 12)), none⟩, ⟨(some 14), (.mov (.t 13)), none⟩, ⟨(some 15), (.mov (.t 0)), (some (14, false))⟩, ⟨(some 16), (.mov (.t 1)), (some (14, false))⟩, ⟨(some 17), (.lenSl (.t 16)), (some (14, false))⟩, ⟨(some 18), (.sliceSl 1 (.t 15) none (some (.t 17))), (some (14, false))⟩, ⟨(some 19), (.mov (.t 1)), (some (14, false))⟩, ⟨(some 20), (.call 60 [(.t 18), (.t 19)]), (some (14, false))⟩, ⟨(some 21), (.un .not (.t 20)), (some (14, false))⟩, ⟨(some 22), (.pick (.t 14) (.c (.bool true)) (.t 21)), none⟩]) (.cond (.t 22) (.seq (.region [] [⟨(some 6), (.mov (.c (.bool false))), none⟩]) .ret) .skip)) (.seq (.seq (.region [] [⟨(some 23), (.mov (.t 1)), none⟩, ⟨(some 24), (.lenSl (.t 23)), none⟩, ⟨(some 7), (.mov (.t 24)), none⟩]) (.block 0 (.loop A_clavigerbook_Intact_byte_L0))) (.seq (.region [] [⟨(some 6), (.mov (.c (.bool true))), none⟩]) .ret))))
def K_clavigerbook_Intact_byte_L0 : Kt := (.blk 0 (.seq (.seq (.region [] [⟨(some 6), (.mov (.c (.bool true))), none⟩]) .ret) .fin))
theorem A_clavigerbook_Intact_byte_ok : Try.f46.body.bind (cCode Try.prog) = some A_clavigerbook_Intact_byte := by kernel_rfl
theorem A_clavigerbook_Intact_byte_res : cRes Try.prog Try.f46.results.toList = some [(.tmp 6)] := by kernel_rfl
theorem A_clavigerbook_Intact_byte_nt : Try.f46.ntmps = 37 := by kernel_rfl
def E_clavigerbook_Intact_byte : Ent := ⟨46, A_clavigerbook_Intact_byte, [(.tmp 6)], 37⟩
theorem E_clavigerbook_Intact_byte_ok : EntOK Try.prog E_clavigerbook_Intact_byte := ⟨_, Try.func46, A_clavigerbook_Intact_byte_ok, A_clavigerbook_Intact_byte_res, A_clavigerbook_Intact_byte_nt⟩

def A_clavigerbook_Same_byte_L0 : ACode := (.seq (.seq (.region [] [⟨(some 11), (.mov (.t 5)), none⟩, ⟨(some 12), (.mov (.t 0)), none⟩, ⟨(some 13), (.lenSl (.t 12)), none⟩, ⟨(some 14), (.bin .lss (.t 11) (.t 13)), none⟩]) (.cond (.t 14) .skip (.exit 0))) (.seq (.block 1 (.seq (.region [] [⟨(some 17), (.mov (.t 0)), none⟩, ⟨(some 18), (.mov (.t 5)), none⟩, ⟨(some 19), (.idxSl 1 (.t 17) (.t 18)), none⟩, ⟨(some 20), (.load none (.t 19)), none⟩, ⟨(some 21), (.mov (.t 1)), none⟩, ⟨(some 22), (.mov (.t 5)), none⟩, ⟨(some 23), (.idxSl 1 (.t 21) (.t 22)), none⟩, ⟨(some 24), (.load none (.t 23)), none⟩, ⟨(some 25), (.bin .neq (.t 20) (.t 24)), none⟩]) (.cond (.t 25) (.seq (.region [] [⟨(some 4), (.mov (.c (.bool false))), none⟩]) .ret) .skip))) (.region [] [⟨(some 15), (.mov (.t 5)), none⟩, ⟨(some 16), (.bin .add (.t 15) (.c (.int .i64 1))), none⟩, ⟨(some 5), (.mov (.t 16)), none⟩])))
def A_clavigerbook_Same_byte : ACode := (.seq (.region [] [⟨(some 4), (.mov (.c (.bool false))), none⟩]) (.seq (.seq (.region [] [⟨(some 6), (.mov (.t 0)), none⟩, ⟨(some 7), (.lenSl (.t 6)), none⟩, ⟨(some 8), (.mov (.t 1)), none⟩, ⟨(some 9), (.lenSl (.t 8)), none⟩, ⟨(some 10), (.bin .neq (.t 7) (.t 9)), none⟩]) (.cond (.t 10) (.seq (.region [] [⟨(some 4), (.mov (.c (.bool false))), none⟩]) .ret) .skip)) (.seq (.seq (.region [] [⟨(some 5), (.mov (.c (.int .i64 0))), none⟩]) (.block 0 (.loop A_clavigerbook_Same_byte_L0))) (.seq (.region [] [⟨(some 4), (.mov (.c (.bool true))), none⟩]) .ret))))
def K_clavigerbook_Same_byte_L0 : Kt := (.blk 0 (.seq (.seq (.region [] [⟨(some 4), (.mov (.c (.bool true))), none⟩]) .ret) .fin))
theorem A_clavigerbook_Same_byte_ok : Try.f60.body.bind (cCode Try.prog) = some A_clavigerbook_Same_byte := by kernel_rfl
theorem A_clavigerbook_Same_byte_res : cRes Try.prog Try.f60.results.toList = some [(.tmp 4)] := by kernel_rfl
theorem A_clavigerbook_Same_byte_nt : Try.f60.ntmps = 26 := by kernel_rfl
def E_clavigerbook_Same_byte : Ent := ⟨60, A_clavigerbook_Same_byte, [(.tmp 4)], 26⟩
theorem E_clavigerbook_Same_byte_ok : EntOK Try.prog E_clavigerbook_Same_byte := ⟨_, Try.func60, A_clavigerbook_Same_byte_ok, A_clavigerbook_Same_byte_res, A_clavigerbook_Same_byte_nt⟩

end
end Go.Proofs.Ytlahigboaeadmaa.VA
