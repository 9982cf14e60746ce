/- CodecNumbers: run. -/
import Derived.Test.YtmmaenfjnkoknaaOrc
import Derived.Test.YtmmaenfjnkoknaaLnum6
import Derived.Test.YtmmaenfjnkoknaaElaw6
import Derived.Test.YtmmaenfjnkoknaaDlaw6
import Derived.Test.YtmmaenfjnkoknaaV37
import Derived.Test.YtmmaenfjnkoknaaVC
set_option linter.unusedVariables false
set_option maxRecDepth 100000
namespace Go.Proofs.Ytmmaenfjnkoknaa.VA
open Go
attribute [local irreducible] WK NK XK TK RK FK CK CFK CallRel C
def tab6 : List (Nat × (List V → Option (V × Heap))) := [
  (36, entC (one1 cVlt asVlt) fun _ => (vb true, [])),
  (38, entC (fun a => onlyIf (fun x => decide (0 ≤ x.num)) (one1 cReq asReq a)) fun _ => (vb true, [])),
  (39, entC (fun a => onlyIf (fun x => decide (0 ≤ x.num ∧ 0 ≤ x.gen)) (one1 cRpl asRpl a)) fun _ => (vb true, [])),
  (37, entC (fun a => onlyIf (fun x => decide (0 ≤ x.epoch)) (one1 cRec asRec a)) fun _ => (vb true, [])),
  (44, entC rowA fun _ => (vb true, [])),
  (45, entC none0 fun _ => (vb true, [])),
  (40, entC (fun a => onlyIf (fun x => decide (RightV x)) (one1 cVlt asVlt a)) fun x => (.sref 0 0 (putV x).length 1, [some (bs (putV x))])),
  (41, entC (fun a => onlyIf (fun x => decide (RightQ x ∧ 0 ≤ x.num)) (one1 cReq asReq a)) fun x => (.sref 0 0 (putQ x).length 1, [some (bs (putQ x))])),
  (42, entC (fun a => onlyIf (fun x => decide (RightP x ∧ 0 ≤ x.num ∧ 0 ≤ x.gen)) (one1 cRpl asRpl a)) fun x => (.sref 0 0 (putP x).length 1, [some (bs (putP x))])),
  (43, entC (fun a => onlyIf (fun x => decide (RightR x ∧ 0 ≤ x.epoch ∧ x.epoch < 18446744073709551616)) (one1 cRec asRec a)) fun x => (.sref 0 0 (putR x).length 1, [some (bs (putR x))]))]
theorem tab6_ok : OrcOK Try.prog (orcT tab6) := by
  apply orcT_ok
  intro e he
  simp only [tab6, List.mem_cons, List.not_mem_nil, or_false] at he
  rcases he with rfl | rfl | rfl | rfl | rfl | rfl | rfl | rfl | rfl | rfl
  · exact entC_ok fun args x hx => by rw [one1_ok hx]; exact vault6_C x
  · refine entC_ok fun args x hx => ?_
    obtain ⟨h1, h2⟩ := onlyIf_ok hx
    rw [one1_ok h1]; exact request6_C x (of_decide_eq_true h2)
  · refine entC_ok fun args x hx => ?_
    obtain ⟨h1, h2⟩ := onlyIf_ok hx
    have h2 := of_decide_eq_true h2
    rw [one1_ok h1]; exact reply6_C x h2.1 h2.2
  · refine entC_ok fun args x hx => ?_
    obtain ⟨h1, h2⟩ := onlyIf_ok hx
    rw [one1_ok h1]; exact record6_C x (of_decide_eq_true h2)
  · exact entC_ok fun args x hx => by rw [rowA_ok hx]; exact reads6_C x
  · exact entC_ok fun args x hx => by rw [none0_ok hx]; exact known6_C
  · refine entC_ok fun args x hx => ?_
    obtain ⟨h1, h2⟩ := onlyIf_ok hx
    rw [one1_ok h1]; exact rputVRO_C x (of_decide_eq_true h2)
  · refine entC_ok fun args x hx => ?_
    obtain ⟨h1, h2⟩ := onlyIf_ok hx
    have h2 := of_decide_eq_true h2
    have hn : x.num ≤ 1099511627776 := h2.1.1.2.2
    have hs := rightQ_sec h2.1
    rw [one1_ok h1]; exact rputQO_C x h2.2 (by omega) (by omega)
  · refine entC_ok fun args x hx => ?_
    obtain ⟨h1, h2⟩ := onlyIf_ok hx
    have h2 := of_decide_eq_true h2
    have hn : x.num ≤ 1099511627776 := h2.1.1.2.2
    have hg : x.gen ≤ 1099511627776 := h2.1.2.2.2.1
    have hs : x.secret.l.length ≤ 64 := h2.1.2.2.2.2.2.2
    rw [one1_ok h1]; exact rputPO_C x h2.2.1 (by omega) h2.2.2 (by omega) (by omega)
  · refine entC_ok fun args x hx => ?_
    obtain ⟨h1, h2⟩ := onlyIf_ok hx
    have h2 := of_decide_eq_true h2
    rw [one1_ok h1]; exact rputRO_C x h2.1 h2.2.1 h2.2.2
def E6 : ACode := tlC (tlC (tlC (tlC A_clavigerlaw6_CodecNumbers)))
def R4_6 : ACode := .region [] [⟨some 4, .mov (.c (.int .i64 (-1))), none⟩]
def R7_6 : ACode := .region [] [⟨some 229, .call 45 [], none⟩, ⟨some 0, .mov (.t 229), none⟩]
theorem A6_eq : A_clavigerlaw6_CodecNumbers = .seq (hdC A_clavigerlaw6_CodecNumbers) (.seq (hdC (tlC A_clavigerlaw6_CodecNumbers)) (.seq (.seq (hdC (hdC (tlC (tlC A_clavigerlaw6_CodecNumbers)))) (.block 0 (.loop A_clavigerlaw6_CodecNumbers_L0))) (.seq (.seq R4_6 (.block 3 (.loop A_clavigerlaw6_CodecNumbers_L3))) E6))) := rfl
theorem E6_eq : E6 = .seq (hdC E6) (.seq (.seq (hdC (hdC (tlC E6))) (.block 9 (.loop A_clavigerlaw6_CodecNumbers_L5))) (.seq R7_6 .ret)) := rfl
def vN6 : Vlt := ⟨((((Bn.zero 4).set 0 1).set 1 2).set 2 3).set 3 4, 5, (Bn.zero 16).set 0 6, .of [97, 98, 99], 7, 3, (Bn.zero 16).set 0 8, false, false⟩
def h06 : Heap := [some (bs [97, 98, 99]), some (gVlt_secret vN6 (.sref 0 0 3 1))]
def s06 (i : Nat) : List V := .ofFn (n := 230) fun k => if k.1 = 0 then vb false else if k.1 = 1 then .ref 1 0 else if k.1 = 2 then vi .i64 (i : Int) else .dead
def s36 (i : Nat) : List V := .ofFn (n := 230) fun k => if k.1 = 0 then vb false else if k.1 = 1 then .ref 1 0 else if k.1 = 4 then vi .i64 ((i : Int) - 1) else .dead
def r6 : List (List UInt8) := [putV vN6, putQ ⟨1, Bn.zero 4, Bn.zero 16, .of [113], 3, Bn.zero 16, Bn.zero 16, 0, 9⟩, putP ⟨23, Bn.zero 4, 0, 3, .of [114], 0, 0⟩,
  putR ⟨3, 3, 0, 2, Vlt.zero, .of [vN6]⟩, putR ⟨2, 3, 1, 2, Vlt.zero, .nil⟩, putR ⟨4, 15, 0, 2, Vlt.zero, .nil⟩]
def rN6 (k j : Nat) : Option (List V) := if j < k then none else some (bs (r6.getD j []))
def h56 (k : Nat) : Heap := [none, none, rN6 k 0, none, rN6 k 1, none, rN6 k 2, none, rN6 k 3, rN6 k 4, rN6 k 5, some [.sref 2 0 (r6.getD 0 []).length 1, .sref 4 0 (r6.getD 1 []).length 1, .sref 6 0 (r6.getD 2 []).length 1, .sref 8 0 (r6.getD 3 []).length 1, .sref 9 0 (r6.getD 4 []).length 1, .sref 10 0 (r6.getD 5 []).length 1]]
def s56 (i : Nat) : List V := .ofFn (n := 230) fun k => if k.1 = 0 then vb false else if k.1 = 173 then .sref 11 0 6 1 else if k.1 = 174 then vi .i64 6 else if k.1 = 175 then vi .i64 (i : Int) else .dead
def O6 : Orc := orcT tab6
end Go.Proofs.Ytmmaenfjnkoknaa.VA
