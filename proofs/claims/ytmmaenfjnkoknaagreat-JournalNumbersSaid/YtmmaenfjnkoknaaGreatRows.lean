/-
  No cell of these rows narrows 'for every input' (looked for: loops, veiled, ifaces, maps, wideKeys, modest, calm, conditions, laid).
  DERIVED. THE GIVEN ROWS OF THIS SEAT. 4 by the template 'for every input the law returns true; each argument reads behind the call as it read before'; 0 by the template 'total and deterministic' (their statements: YtmmaenfjnkoknaaGreatTotals.lean).
  GIVEN WITH THE SEED: the statements are not yours to turn. If you find one false, say at which input.
  Laid BY PROGRAM, IN A SANDBOX (cutbox-rows.mjs): the forced cells as the released guide's own fill.sh prints them over the translation 3a4bd2f485a3f8cd… (all of the seat's roots in one cut). By AI agents, Wed Nov 11 2026. No macro, syntax, notation, axiom, sorry.
-/
import Derived.Test.YtmmaenfjnkoknaaGreatChecked
import GoSem.Claim
import GoSem.ClaimJoined
import GoSem.ClaimMapViews
import Derived.JoinedTies
import Derived.KernelRfl
namespace Go.Proofs.YtmmaenfjnkoknaaGreat
/- THE CELL 'sum', in the pinned program and in every row, IS THE sha256 OF THE DUMP (.gsa) THAT YtmmaenfjnkoknaaGreatProg.lean LOADS. Nothing in Lean hashes anything: it is a label: what it is worth is what the hold of that sum in a sandbox is worth. -/
noncomputable def Tryz.pinned : Pinned := { name := "ytmmaenfjnkoknaagreat", sum := "3a4bd2f485a3f8cd1206af5011a1afe6fdee5fee8340b02a934c901a3c013b9f", checked := Tryz.checked }
namespace Rows
def none {H : Type} : Left H := { results := [], args := [] }

/-- 'clavigerlaw10.JournalPast': WHATEVER THE INPUT: true; the input reads as it did. -/
def journalPastSpec : ChangeSpec := { name := "journalPast", fn := fun _ => fun
  | [d1, d2, d3] => { results := [.lit (.bool true)], args := [d1, d2, d3] }
  | _ => none }
def journalPastRow : OpenClaim := { program := "ytmmaenfjnkoknaagreat", sum := "3a4bd2f485a3f8cd1206af5011a1afe6fdee5fee8340b02a934c901a3c013b9f", func := "claviger/clavigerlaw10.JournalPast", spec := "journalPast", inPlace := ["internal/bytealg.Compare"], apart := false }
def JournalPastSaid : Prop := journalPastRow.holds Tryz.pinned (OpenSpec.ofChange journalPastSpec)

/-- ITS FALSE NEIGHBOUR: 'it returns false'. Refute it at one input. -/
def journalPastWrong : ChangeSpec := { name := "journalPast", fn := fun _ => fun
  | [d1, d2, d3] => { results := [.lit (.bool false)], args := [d1, d2, d3] }
  | _ => none }
def JournalPastWrongFalsely : Prop := journalPastRow.holds Tryz.pinned (OpenSpec.ofChange journalPastWrong)

/-- 'clavigerlaw10.JournalHeads': WHATEVER THE INPUT: true; the input reads as it did. -/
def journalHeadsSpec : ChangeSpec := { name := "journalHeads", fn := fun _ => fun
  | [d1, d2, d3] => { results := [.lit (.bool true)], args := [d1, d2, d3] }
  | _ => none }
def journalHeadsRow : OpenClaim := { program := "ytmmaenfjnkoknaagreat", sum := "3a4bd2f485a3f8cd1206af5011a1afe6fdee5fee8340b02a934c901a3c013b9f", func := "claviger/clavigerlaw10.JournalHeads", spec := "journalHeads", inPlace := ["internal/bytealg.Compare"], apart := false }
def JournalHeadsSaid : Prop := journalHeadsRow.holds Tryz.pinned (OpenSpec.ofChange journalHeadsSpec)

/-- ITS FALSE NEIGHBOUR: 'it returns false'. Refute it at one input. -/
def journalHeadsWrong : ChangeSpec := { name := "journalHeads", fn := fun _ => fun
  | [d1, d2, d3] => { results := [.lit (.bool false)], args := [d1, d2, d3] }
  | _ => none }
def JournalHeadsWrongFalsely : Prop := journalHeadsRow.holds Tryz.pinned (OpenSpec.ofChange journalHeadsWrong)

/-- 'clavigerlaw10.JournalNumbers': WHATEVER THE INPUT: true; the input reads as it did. -/
def journalNumbersSpec : ChangeSpec := { name := "journalNumbers", fn := fun _ => fun
  | [] => { results := [.lit (.bool true)], args := [] }
  | _ => none }
def journalNumbersRow : OpenClaim := { program := "ytmmaenfjnkoknaagreat", sum := "3a4bd2f485a3f8cd1206af5011a1afe6fdee5fee8340b02a934c901a3c013b9f", func := "claviger/clavigerlaw10.JournalNumbers", spec := "journalNumbers", inPlace := ["internal/bytealg.Compare"], apart := false }
def JournalNumbersSaid : Prop := journalNumbersRow.holds Tryz.pinned (OpenSpec.ofChange journalNumbersSpec)

/-- ITS FALSE NEIGHBOUR: 'it returns false'. Refute it at one input. -/
def journalNumbersWrong : ChangeSpec := { name := "journalNumbers", fn := fun _ => fun
  | [] => { results := [.lit (.bool false)], args := [] }
  | _ => none }
def JournalNumbersWrongFalsely : Prop := journalNumbersRow.holds Tryz.pinned (OpenSpec.ofChange journalNumbersWrong)

/-- 'clavigerlaw10.JournalTells': WHATEVER THE INPUT: true; the input reads as it did. -/
def journalTellsSpec : ChangeSpec := { name := "journalTells", fn := fun _ => fun
  | [d1, d2, d3, d4, d5, d6, d7] => { results := [.lit (.bool true)], args := [d1, d2, d3, d4, d5, d6, d7] }
  | _ => none }
def journalTellsRow : OpenClaim := { program := "ytmmaenfjnkoknaagreat", sum := "3a4bd2f485a3f8cd1206af5011a1afe6fdee5fee8340b02a934c901a3c013b9f", func := "claviger/clavigerlaw10.JournalTells", spec := "journalTells", inPlace := ["internal/bytealg.Compare"], apart := false }
def JournalTellsSaid : Prop := journalTellsRow.holds Tryz.pinned (OpenSpec.ofChange journalTellsSpec)

/-- ITS FALSE NEIGHBOUR: 'it returns false'. Refute it at one input. -/
def journalTellsWrong : ChangeSpec := { name := "journalTells", fn := fun _ => fun
  | [d1, d2, d3, d4, d5, d6, d7] => { results := [.lit (.bool false)], args := [d1, d2, d3, d4, d5, d6, d7] }
  | _ => none }
def JournalTellsWrongFalsely : Prop := journalTellsRow.holds Tryz.pinned (OpenSpec.ofChange journalTellsWrong)

/- THE SECOND FORM. 'bulk': how many values and letters a reading holds, each counted each time it is reached (what is shared counts as often as it is met; a slice's spare places count too). A statement '..UptoSaid' is the law's where the arguments, and the package variables that the reading takes, are together of bulk at most 1048576: NARROWER than '..Said'. Prove '..Said' where nothing that the law and all that it calls make is longer than what came in: it says more and counts as full. Else prove '..UptoSaid'. A law counts once. -/
mutual
def uptoBulk {H : Type} : DataW H → Nat
  | .lit (.string bytes) => bytes.length + 1
  | .lit _ => 1
  | .nil => 1
  | .ptr d => uptoBulk d + 1
  | .slice elems spare => uptoBulkAll elems + uptoBulkAll spare + 1
  | .agg parts => uptoBulkAll parts + 1
  | .iface _ d => uptoBulk d + 1
  | .map entries => uptoBulkEntries entries + 1
  | .held _ => 1
def uptoBulkAll {H : Type} : List (DataW H) → Nat
  | [] => 0
  | d :: r => uptoBulk d + uptoBulkAll r
def uptoBulkEntries {H : Type} : List (Lit × DataW H) → Nat
  | [] => 0
  | x :: r => uptoBulkEntry x + uptoBulkEntries r
def uptoBulkEntry {H : Type} : Lit × DataW H → Nat
  | (.string bytes, d) => bytes.length + uptoBulk d + 1
  | (_, d) => uptoBulk d + 1
 end
def uptoSmall : (H : Type) → List (DataW H) → Bool := fun _ ds => decide (uptoBulkAll ds ≤ 1048576)
def OpenSpec.upto (s : _root_.Go.ChangeSpec) : _root_.Go.OpenSpec := { _root_.Go.OpenSpec.ofChange s with cond := some uptoSmall }

/-- 'clavigerlaw10.JournalPast', WHERE WHAT IT READS IS OF BULK AT MOST 1048576: true; the input reads as it did. -/
def journalPastUptoRow : OpenClaim := { program := "ytmmaenfjnkoknaagreat", sum := "3a4bd2f485a3f8cd1206af5011a1afe6fdee5fee8340b02a934c901a3c013b9f", func := "claviger/clavigerlaw10.JournalPast", spec := "journalPast", inPlace := ["internal/bytealg.Compare"], apart := false, narrowed := true }
def JournalPastUptoSaid : Prop := journalPastUptoRow.holds Tryz.pinned (OpenSpec.upto journalPastSpec)

/-- 'clavigerlaw10.JournalHeads', WHERE WHAT IT READS IS OF BULK AT MOST 1048576: true; the input reads as it did. -/
def journalHeadsUptoRow : OpenClaim := { program := "ytmmaenfjnkoknaagreat", sum := "3a4bd2f485a3f8cd1206af5011a1afe6fdee5fee8340b02a934c901a3c013b9f", func := "claviger/clavigerlaw10.JournalHeads", spec := "journalHeads", inPlace := ["internal/bytealg.Compare"], apart := false, narrowed := true }
def JournalHeadsUptoSaid : Prop := journalHeadsUptoRow.holds Tryz.pinned (OpenSpec.upto journalHeadsSpec)

/-- 'clavigerlaw10.JournalNumbers', WHERE WHAT IT READS IS OF BULK AT MOST 1048576: true; the input reads as it did. -/
def journalNumbersUptoRow : OpenClaim := { program := "ytmmaenfjnkoknaagreat", sum := "3a4bd2f485a3f8cd1206af5011a1afe6fdee5fee8340b02a934c901a3c013b9f", func := "claviger/clavigerlaw10.JournalNumbers", spec := "journalNumbers", inPlace := ["internal/bytealg.Compare"], apart := false, narrowed := true }
def JournalNumbersUptoSaid : Prop := journalNumbersUptoRow.holds Tryz.pinned (OpenSpec.upto journalNumbersSpec)

/-- 'clavigerlaw10.JournalTells', WHERE WHAT IT READS IS OF BULK AT MOST 1048576: true; the input reads as it did. -/
def journalTellsUptoRow : OpenClaim := { program := "ytmmaenfjnkoknaagreat", sum := "3a4bd2f485a3f8cd1206af5011a1afe6fdee5fee8340b02a934c901a3c013b9f", func := "claviger/clavigerlaw10.JournalTells", spec := "journalTells", inPlace := ["internal/bytealg.Compare"], apart := false, narrowed := true }
def JournalTellsUptoSaid : Prop := journalTellsUptoRow.holds Tryz.pinned (OpenSpec.upto journalTellsSpec)

end Rows
end Go.Proofs.YtmmaenfjnkoknaaGreat
