/- Oracles for the runner: structs. -/
import Derived.Test.YtmmaenfjnkoknaaVC
import Derived.Test.YtmmaenfjnkoknaaPC
set_option linter.unusedVariables false
namespace Go.Proofs.Ytmmaenfjnkoknaa.VA
open Go
def asVlt (cs : List V) : Option Vlt :=
  match asBn 4 (cs.take 4), asBn 16 ((cs.drop 5).take 16), asRow (cs.getD 21 .dead), asBn 16 ((cs.drop 24).take 16) with
  | some a, some b, some s, some o => some ⟨a, asI (cs.getD 4 .dead), b, s, asI (cs.getD 22 .dead), asI (cs.getD 23 .dead), o, asL (cs.getD 40 .dead), asL (cs.getD 41 .dead)⟩
  | _, _, _, _ => none
def asReq (cs : List V) : Option Req :=
  match asBn 4 ((cs.drop 1).take 4), asBn 16 ((cs.drop 5).take 16), asRow (cs.getD 21 .dead), asBn 16 ((cs.drop 23).take 16), asBn 16 ((cs.drop 39).take 16) with
  | some a, some b, some s, some o, some k => some ⟨asI (cs.getD 0 .dead), a, b, s, asI (cs.getD 22 .dead), o, k, asI (cs.getD 55 .dead), asI (cs.getD 56 .dead)⟩
  | _, _, _, _, _ => none
def asRpl (cs : List V) : Option Rpl :=
  match asBn 4 ((cs.drop 1).take 4), asRow (cs.getD 7 .dead) with
  | some a, some s => some ⟨asI (cs.getD 0 .dead), a, asI (cs.getD 5 .dead), asI (cs.getD 6 .dead), s, asI (cs.getD 8 .dead), asI (cs.getD 9 .dead)⟩
  | _, _ => none
def asRec (cs : List V) : Option Rec :=
  match asVlt ((cs.drop 4).take 42), lstOfV 42 asVlt (cs.getD 46 .dead) with
  | some v, some l => some ⟨asI (cs.getD 0 .dead), asI (cs.getD 1 .dead), asI (cs.getD 2 .dead), asI (cs.getD 3 .dead), v, l⟩
  | _, _ => none
def one1 {α : Type} (c : α → List V) (g : List V → Option α) (args : List V) : Option α :=
  match args with
  | [.agg cs] => chkd c cs (g cs)
  | _ => none
theorem one1_ok {α : Type} {c : α → List V} {g : List V → Option α} {args : List V} {x : α} (h : one1 c g args = some x) : args = [.agg (c x)] := by
  unfold one1 at h
  split at h
  · rw [chkd_ok h]
  · cases h
def onlyIf {α : Type} (p : α → Bool) (o : Option α) : Option α :=
  match o with
  | some x => if p x = true then some x else none
  | none => none
theorem onlyIf_ok {α : Type} {p : α → Bool} {o : Option α} {x : α} (h : onlyIf p o = some x) : o = some x ∧ p x = true := by
  cases o with
  | none => cases h
  | some y =>
    simp only [onlyIf] at h
    split at h
    · rename_i hp; cases h; exact ⟨rfl, hp⟩
    · cases h
def rowA (args : List V) : Option Row :=
  match args with
  | [v] => rowOf v
  | _ => none
theorem rowA_ok {args : List V} {r : Row} (h : rowA args = some r) : args = [rowV r] := by
  unfold rowA at h
  split at h
  · rw [rowOf_ok h]
  · cases h
def none0 (args : List V) : Option Unit :=
  match args with
  | [] => some ()
  | _ => none
theorem none0_ok {args : List V} {x : Unit} (h : none0 args = some x) : args = [] := by
  unfold none0 at h
  split at h
  · rfl
  · cases h
end Go.Proofs.Ytmmaenfjnkoknaa.VA
