/-
  No cell of these rows narrows 'for every input' (looked for: loops, veiled, ifaces, maps, wideKeys, modest, calm, conditions, laid).
  DERIVED. THE GIVEN ROWS OF THIS SEAT. 18 by the template 'for every input the law returns true; each argument reads behind the call as it read before'; 0 by the template 'total and deterministic' (their statements: YtmmaenfjnkoknaaTotals.lean).
  GIVEN WITH THE SEED: the statements are not yours to turn. If you find one false, say at which input.
  Laid BY PROGRAM, IN A SANDBOX (cutbox-rows.mjs): the forced cells as the released guide's own fill.sh prints them over the translation a9e0d0d83ce59f73… (all of the seat's roots in one cut). By AI agents, Wed Nov 11 2026. No macro, syntax, notation, axiom, sorry.
-/
import Derived.Test.YtmmaenfjnkoknaaChecked
import GoSem.Claim
import GoSem.ClaimJoined
import GoSem.ClaimMapViews
import Derived.JoinedTies
import Derived.KernelRfl
namespace Go.Proofs.Ytmmaenfjnkoknaa
/- THE CELL 'sum', in the pinned program and in every row, IS THE sha256 OF THE DUMP (.gsa) THAT YtmmaenfjnkoknaaProg.lean LOADS. Nothing in Lean hashes anything: it is a label: what it is worth is what the hold of that sum in a sandbox is worth. -/
noncomputable def Try.pinned : Pinned := { name := "ytmmaenfjnkoknaa", sum := "a9e0d0d83ce59f736b358a8d2d292a8b33b4bdb0c1322cbb4a56ffc69ab06d1f", checked := Try.checked }
namespace Rows
def none {H : Type} : Left H := { results := [], args := [] }

/-- 'clavigerlaw3.StretchNumbers': WHATEVER THE INPUT: true; the input reads as it did. -/
def stretchNumbersSpec : ChangeSpec := { name := "stretchNumbers", fn := fun _ => fun
  | [] => { results := [.lit (.bool true)], args := [] }
  | _ => none }
def stretchNumbersRow : OpenClaim := { program := "ytmmaenfjnkoknaa", sum := "a9e0d0d83ce59f736b358a8d2d292a8b33b4bdb0c1322cbb4a56ffc69ab06d1f", func := "claviger/clavigerlaw3.StretchNumbers", spec := "stretchNumbers", apart := false }
def StretchNumbersSaid : Prop := stretchNumbersRow.holds Try.pinned (OpenSpec.ofChange stretchNumbersSpec)

/-- ITS FALSE NEIGHBOUR: 'it returns false'. Refute it at one input. -/
def stretchNumbersWrong : ChangeSpec := { name := "stretchNumbers", fn := fun _ => fun
  | [] => { results := [.lit (.bool false)], args := [] }
  | _ => none }
def StretchNumbersWrongFalsely : Prop := stretchNumbersRow.holds Try.pinned (OpenSpec.ofChange stretchNumbersWrong)

/-- 'clavigerlaw3.StretchTells': WHATEVER THE INPUT: true; the input reads as it did. -/
def stretchTellsSpec : ChangeSpec := { name := "stretchTells", fn := fun _ => fun
  | [d1, d2, d3, d4, d5] => { results := [.lit (.bool true)], args := [d1, d2, d3, d4, d5] }
  | _ => none }
def stretchTellsRow : OpenClaim := { program := "ytmmaenfjnkoknaa", sum := "a9e0d0d83ce59f736b358a8d2d292a8b33b4bdb0c1322cbb4a56ffc69ab06d1f", func := "claviger/clavigerlaw3.StretchTells", spec := "stretchTells", apart := false }
def StretchTellsSaid : Prop := stretchTellsRow.holds Try.pinned (OpenSpec.ofChange stretchTellsSpec)

/-- ITS FALSE NEIGHBOUR: 'it returns false'. Refute it at one input. -/
def stretchTellsWrong : ChangeSpec := { name := "stretchTells", fn := fun _ => fun
  | [d1, d2, d3, d4, d5] => { results := [.lit (.bool false)], args := [d1, d2, d3, d4, d5] }
  | _ => none }
def StretchTellsWrongFalsely : Prop := stretchTellsRow.holds Try.pinned (OpenSpec.ofChange stretchTellsWrong)

/-- 'clavigerlaw3.StretchRounds': WHATEVER THE INPUT: true; the input reads as it did. -/
def stretchRoundsSpec : ChangeSpec := { name := "stretchRounds", fn := fun _ => fun
  | [d1, d2, d3] => { results := [.lit (.bool true)], args := [d1, d2, d3] }
  | _ => none }
def stretchRoundsRow : OpenClaim := { program := "ytmmaenfjnkoknaa", sum := "a9e0d0d83ce59f736b358a8d2d292a8b33b4bdb0c1322cbb4a56ffc69ab06d1f", func := "claviger/clavigerlaw3.StretchRounds", spec := "stretchRounds", apart := false }
def StretchRoundsSaid : Prop := stretchRoundsRow.holds Try.pinned (OpenSpec.ofChange stretchRoundsSpec)

/-- ITS FALSE NEIGHBOUR: 'it returns false'. Refute it at one input. -/
def stretchRoundsWrong : ChangeSpec := { name := "stretchRounds", fn := fun _ => fun
  | [d1, d2, d3] => { results := [.lit (.bool false)], args := [d1, d2, d3] }
  | _ => none }
def StretchRoundsWrongFalsely : Prop := stretchRoundsRow.holds Try.pinned (OpenSpec.ofChange stretchRoundsWrong)

/-- 'clavigerlaw3.StretchScripts': WHATEVER THE INPUT: true; the input reads as it did. -/
def stretchScriptsSpec : ChangeSpec := { name := "stretchScripts", fn := fun _ => fun
  | [d1, d2, d3, d4] => { results := [.lit (.bool true)], args := [d1, d2, d3, d4] }
  | _ => none }
def stretchScriptsRow : OpenClaim := { program := "ytmmaenfjnkoknaa", sum := "a9e0d0d83ce59f736b358a8d2d292a8b33b4bdb0c1322cbb4a56ffc69ab06d1f", func := "claviger/clavigerlaw3.StretchScripts", spec := "stretchScripts", apart := false }
def StretchScriptsSaid : Prop := stretchScriptsRow.holds Try.pinned (OpenSpec.ofChange stretchScriptsSpec)

/-- ITS FALSE NEIGHBOUR: 'it returns false'. Refute it at one input. -/
def stretchScriptsWrong : ChangeSpec := { name := "stretchScripts", fn := fun _ => fun
  | [d1, d2, d3, d4] => { results := [.lit (.bool false)], args := [d1, d2, d3, d4] }
  | _ => none }
def StretchScriptsWrongFalsely : Prop := stretchScriptsRow.holds Try.pinned (OpenSpec.ofChange stretchScriptsWrong)

/-- 'clavigerlaw15.EndorseTells': WHATEVER THE INPUT: true; the input reads as it did. -/
def endorseTellsSpec : ChangeSpec := { name := "endorseTells", fn := fun _ => fun
  | [d1, d2, d3, d4, d5, d6, d7, d8] => { results := [.lit (.bool true)], args := [d1, d2, d3, d4, d5, d6, d7, d8] }
  | _ => none }
def endorseTellsRow : OpenClaim := { program := "ytmmaenfjnkoknaa", sum := "a9e0d0d83ce59f736b358a8d2d292a8b33b4bdb0c1322cbb4a56ffc69ab06d1f", func := "claviger/clavigerlaw15.EndorseTells", spec := "endorseTells", apart := false }
def EndorseTellsSaid : Prop := endorseTellsRow.holds Try.pinned (OpenSpec.ofChange endorseTellsSpec)

/-- ITS FALSE NEIGHBOUR: 'it returns false'. Refute it at one input. -/
def endorseTellsWrong : ChangeSpec := { name := "endorseTells", fn := fun _ => fun
  | [d1, d2, d3, d4, d5, d6, d7, d8] => { results := [.lit (.bool false)], args := [d1, d2, d3, d4, d5, d6, d7, d8] }
  | _ => none }
def EndorseTellsWrongFalsely : Prop := endorseTellsRow.holds Try.pinned (OpenSpec.ofChange endorseTellsWrong)

/-- 'clavigerlaw6.CodecNumbers': WHATEVER THE INPUT: true; the input reads as it did. -/
def codecNumbersSpec : ChangeSpec := { name := "codecNumbers", fn := fun _ => fun
  | [] => { results := [.lit (.bool true)], args := [] }
  | _ => none }
def codecNumbersRow : OpenClaim := { program := "ytmmaenfjnkoknaa", sum := "a9e0d0d83ce59f736b358a8d2d292a8b33b4bdb0c1322cbb4a56ffc69ab06d1f", func := "claviger/clavigerlaw6.CodecNumbers", spec := "codecNumbers", inPlace := ["internal/bytealg.Compare"], apart := false }
def CodecNumbersSaid : Prop := codecNumbersRow.holds Try.pinned (OpenSpec.ofChange codecNumbersSpec)

/-- ITS FALSE NEIGHBOUR: 'it returns false'. Refute it at one input. -/
def codecNumbersWrong : ChangeSpec := { name := "codecNumbers", fn := fun _ => fun
  | [] => { results := [.lit (.bool false)], args := [] }
  | _ => none }
def CodecNumbersWrongFalsely : Prop := codecNumbersRow.holds Try.pinned (OpenSpec.ofChange codecNumbersWrong)

/-- 'clavigerlaw9.FrameLengths': WHATEVER THE INPUT: true; the input reads as it did. -/
def frameLengthsSpec : ChangeSpec := { name := "frameLengths", fn := fun _ => fun
  | [d1, d2, d3, d4, d5, d6, d7, d8] => { results := [.lit (.bool true)], args := [d1, d2, d3, d4, d5, d6, d7, d8] }
  | _ => none }
def frameLengthsRow : OpenClaim := { program := "ytmmaenfjnkoknaa", sum := "a9e0d0d83ce59f736b358a8d2d292a8b33b4bdb0c1322cbb4a56ffc69ab06d1f", func := "claviger/clavigerlaw9.FrameLengths", spec := "frameLengths", inPlace := ["internal/bytealg.Compare"], apart := false }
def FrameLengthsSaid : Prop := frameLengthsRow.holds Try.pinned (OpenSpec.ofChange frameLengthsSpec)

/-- ITS FALSE NEIGHBOUR: 'it returns false'. Refute it at one input. -/
def frameLengthsWrong : ChangeSpec := { name := "frameLengths", fn := fun _ => fun
  | [d1, d2, d3, d4, d5, d6, d7, d8] => { results := [.lit (.bool false)], args := [d1, d2, d3, d4, d5, d6, d7, d8] }
  | _ => none }
def FrameLengthsWrongFalsely : Prop := frameLengthsRow.holds Try.pinned (OpenSpec.ofChange frameLengthsWrong)

/-- 'clavigerlaw22.ClientNumbers': WHATEVER THE INPUT: true; the input reads as it did. -/
def clientNumbersSpec : ChangeSpec := { name := "clientNumbers", fn := fun _ => fun
  | [] => { results := [.lit (.bool true)], args := [] }
  | _ => none }
def clientNumbersRow : OpenClaim := { program := "ytmmaenfjnkoknaa", sum := "a9e0d0d83ce59f736b358a8d2d292a8b33b4bdb0c1322cbb4a56ffc69ab06d1f", func := "claviger/clavigerlaw22.ClientNumbers", spec := "clientNumbers", apart := false }
def ClientNumbersSaid : Prop := clientNumbersRow.holds Try.pinned (OpenSpec.ofChange clientNumbersSpec)

/-- ITS FALSE NEIGHBOUR: 'it returns false'. Refute it at one input. -/
def clientNumbersWrong : ChangeSpec := { name := "clientNumbers", fn := fun _ => fun
  | [] => { results := [.lit (.bool false)], args := [] }
  | _ => none }
def ClientNumbersWrongFalsely : Prop := clientNumbersRow.holds Try.pinned (OpenSpec.ofChange clientNumbersWrong)

/-- 'clavigerlaw22.ClientPlays': WHATEVER THE INPUT: true; the input reads as it did. -/
def clientPlaysSpec : ChangeSpec := { name := "clientPlays", fn := fun _ => fun
  | [d1, d2, d3] => { results := [.lit (.bool true)], args := [d1, d2, d3] }
  | _ => none }
def clientPlaysRow : OpenClaim := { program := "ytmmaenfjnkoknaa", sum := "a9e0d0d83ce59f736b358a8d2d292a8b33b4bdb0c1322cbb4a56ffc69ab06d1f", func := "claviger/clavigerlaw22.ClientPlays", spec := "clientPlays", apart := false }
def ClientPlaysSaid : Prop := clientPlaysRow.holds Try.pinned (OpenSpec.ofChange clientPlaysSpec)

/-- ITS FALSE NEIGHBOUR: 'it returns false'. Refute it at one input. -/
def clientPlaysWrong : ChangeSpec := { name := "clientPlays", fn := fun _ => fun
  | [d1, d2, d3] => { results := [.lit (.bool false)], args := [d1, d2, d3] }
  | _ => none }
def ClientPlaysWrongFalsely : Prop := clientPlaysRow.holds Try.pinned (OpenSpec.ofChange clientPlaysWrong)

/-- 'clavigerlaw22.ClientTells': WHATEVER THE INPUT: true; the input reads as it did. -/
def clientTellsSpec : ChangeSpec := { name := "clientTells", fn := fun _ => fun
  | [d1, d2, d3, d4, d5] => { results := [.lit (.bool true)], args := [d1, d2, d3, d4, d5] }
  | _ => none }
def clientTellsRow : OpenClaim := { program := "ytmmaenfjnkoknaa", sum := "a9e0d0d83ce59f736b358a8d2d292a8b33b4bdb0c1322cbb4a56ffc69ab06d1f", func := "claviger/clavigerlaw22.ClientTells", spec := "clientTells", apart := false }
def ClientTellsSaid : Prop := clientTellsRow.holds Try.pinned (OpenSpec.ofChange clientTellsSpec)

/-- ITS FALSE NEIGHBOUR: 'it returns false'. Refute it at one input. -/
def clientTellsWrong : ChangeSpec := { name := "clientTells", fn := fun _ => fun
  | [d1, d2, d3, d4, d5] => { results := [.lit (.bool false)], args := [d1, d2, d3, d4, d5] }
  | _ => none }
def ClientTellsWrongFalsely : Prop := clientTellsRow.holds Try.pinned (OpenSpec.ofChange clientTellsWrong)

/-- 'clavigerlaw22.ClientKeys': WHATEVER THE INPUT: true; the input reads as it did. -/
def clientKeysSpec : ChangeSpec := { name := "clientKeys", fn := fun _ => fun
  | [d1, d2, d3] => { results := [.lit (.bool true)], args := [d1, d2, d3] }
  | _ => none }
def clientKeysRow : OpenClaim := { program := "ytmmaenfjnkoknaa", sum := "a9e0d0d83ce59f736b358a8d2d292a8b33b4bdb0c1322cbb4a56ffc69ab06d1f", func := "claviger/clavigerlaw22.ClientKeys", spec := "clientKeys", apart := false }
def ClientKeysSaid : Prop := clientKeysRow.holds Try.pinned (OpenSpec.ofChange clientKeysSpec)

/-- ITS FALSE NEIGHBOUR: 'it returns false'. Refute it at one input. -/
def clientKeysWrong : ChangeSpec := { name := "clientKeys", fn := fun _ => fun
  | [d1, d2, d3] => { results := [.lit (.bool false)], args := [d1, d2, d3] }
  | _ => none }
def ClientKeysWrongFalsely : Prop := clientKeysRow.holds Try.pinned (OpenSpec.ofChange clientKeysWrong)

/-- 'clavigerlaw22.ClientNums': WHATEVER THE INPUT: true; the input reads as it did. -/
def clientNumsSpec : ChangeSpec := { name := "clientNums", fn := fun _ => fun
  | [d1, d2] => { results := [.lit (.bool true)], args := [d1, d2] }
  | _ => none }
def clientNumsRow : OpenClaim := { program := "ytmmaenfjnkoknaa", sum := "a9e0d0d83ce59f736b358a8d2d292a8b33b4bdb0c1322cbb4a56ffc69ab06d1f", func := "claviger/clavigerlaw22.ClientNums", spec := "clientNums", apart := false }
def ClientNumsSaid : Prop := clientNumsRow.holds Try.pinned (OpenSpec.ofChange clientNumsSpec)

/-- ITS FALSE NEIGHBOUR: 'it returns false'. Refute it at one input. -/
def clientNumsWrong : ChangeSpec := { name := "clientNums", fn := fun _ => fun
  | [d1, d2] => { results := [.lit (.bool false)], args := [d1, d2] }
  | _ => none }
def ClientNumsWrongFalsely : Prop := clientNumsRow.holds Try.pinned (OpenSpec.ofChange clientNumsWrong)

/-- 'clavigerlaw10.JournalBack': WHATEVER THE INPUT: true; the input reads as it did. -/
def journalBackSpec : ChangeSpec := { name := "journalBack", fn := fun _ => fun
  | [d1, d2] => { results := [.lit (.bool true)], args := [d1, d2] }
  | _ => none }
def journalBackRow : OpenClaim := { program := "ytmmaenfjnkoknaa", sum := "a9e0d0d83ce59f736b358a8d2d292a8b33b4bdb0c1322cbb4a56ffc69ab06d1f", func := "claviger/clavigerlaw10.JournalBack", spec := "journalBack", inPlace := ["internal/bytealg.Compare"], apart := false }
def JournalBackSaid : Prop := journalBackRow.holds Try.pinned (OpenSpec.ofChange journalBackSpec)

/-- ITS FALSE NEIGHBOUR: 'it returns false'. Refute it at one input. -/
def journalBackWrong : ChangeSpec := { name := "journalBack", fn := fun _ => fun
  | [d1, d2] => { results := [.lit (.bool false)], args := [d1, d2] }
  | _ => none }
def JournalBackWrongFalsely : Prop := journalBackRow.holds Try.pinned (OpenSpec.ofChange journalBackWrong)

/-- 'clavigerlaw14.RosterMajorities': WHATEVER THE INPUT: true; the input reads as it did. -/
def rosterMajoritiesSpec : ChangeSpec := { name := "rosterMajorities", fn := fun _ => fun
  | [d1, d2, d3, d4] => { results := [.lit (.bool true)], args := [d1, d2, d3, d4] }
  | _ => none }
def rosterMajoritiesRow : OpenClaim := { program := "ytmmaenfjnkoknaa", sum := "a9e0d0d83ce59f736b358a8d2d292a8b33b4bdb0c1322cbb4a56ffc69ab06d1f", func := "claviger/clavigerlaw14.RosterMajorities", spec := "rosterMajorities", unfollowed := true, recurses := true, apart := false }
def RosterMajoritiesSaid : Prop := rosterMajoritiesRow.holds Try.pinned (OpenSpec.ofChange rosterMajoritiesSpec)

/-- ITS FALSE NEIGHBOUR: 'it returns false'. Refute it at one input. -/
def rosterMajoritiesWrong : ChangeSpec := { name := "rosterMajorities", fn := fun _ => fun
  | [d1, d2, d3, d4] => { results := [.lit (.bool false)], args := [d1, d2, d3, d4] }
  | _ => none }
def RosterMajoritiesWrongFalsely : Prop := rosterMajoritiesRow.holds Try.pinned (OpenSpec.ofChange rosterMajoritiesWrong)

/-- 'clavigerlaw14.RosterBack': WHATEVER THE INPUT: true; the input reads as it did. -/
def rosterBackSpec : ChangeSpec := { name := "rosterBack", fn := fun _ => fun
  | [d1, d2, d3] => { results := [.lit (.bool true)], args := [d1, d2, d3] }
  | _ => none }
def rosterBackRow : OpenClaim := { program := "ytmmaenfjnkoknaa", sum := "a9e0d0d83ce59f736b358a8d2d292a8b33b4bdb0c1322cbb4a56ffc69ab06d1f", func := "claviger/clavigerlaw14.RosterBack", spec := "rosterBack", unfollowed := true, recurses := true, apart := false }
def RosterBackSaid : Prop := rosterBackRow.holds Try.pinned (OpenSpec.ofChange rosterBackSpec)

/-- ITS FALSE NEIGHBOUR: 'it returns false'. Refute it at one input. -/
def rosterBackWrong : ChangeSpec := { name := "rosterBack", fn := fun _ => fun
  | [d1, d2, d3] => { results := [.lit (.bool false)], args := [d1, d2, d3] }
  | _ => none }
def RosterBackWrongFalsely : Prop := rosterBackRow.holds Try.pinned (OpenSpec.ofChange rosterBackWrong)

/-- 'clavigerlaw14.RosterNumbers': WHATEVER THE INPUT: true; the input reads as it did. -/
def rosterNumbersSpec : ChangeSpec := { name := "rosterNumbers", fn := fun _ => fun
  | [] => { results := [.lit (.bool true)], args := [] }
  | _ => none }
def rosterNumbersRow : OpenClaim := { program := "ytmmaenfjnkoknaa", sum := "a9e0d0d83ce59f736b358a8d2d292a8b33b4bdb0c1322cbb4a56ffc69ab06d1f", func := "claviger/clavigerlaw14.RosterNumbers", spec := "rosterNumbers", unfollowed := true, recurses := true, apart := false }
def RosterNumbersSaid : Prop := rosterNumbersRow.holds Try.pinned (OpenSpec.ofChange rosterNumbersSpec)

/-- ITS FALSE NEIGHBOUR: 'it returns false'. Refute it at one input. -/
def rosterNumbersWrong : ChangeSpec := { name := "rosterNumbers", fn := fun _ => fun
  | [] => { results := [.lit (.bool false)], args := [] }
  | _ => none }
def RosterNumbersWrongFalsely : Prop := rosterNumbersRow.holds Try.pinned (OpenSpec.ofChange rosterNumbersWrong)

/-- 'clavigerlaw14.RosterTells': WHATEVER THE INPUT: true; the input reads as it did. -/
def rosterTellsSpec : ChangeSpec := { name := "rosterTells", fn := fun _ => fun
  | [d1, d2, d3, d4, d5, d6] => { results := [.lit (.bool true)], args := [d1, d2, d3, d4, d5, d6] }
  | _ => none }
def rosterTellsRow : OpenClaim := { program := "ytmmaenfjnkoknaa", sum := "a9e0d0d83ce59f736b358a8d2d292a8b33b4bdb0c1322cbb4a56ffc69ab06d1f", func := "claviger/clavigerlaw14.RosterTells", spec := "rosterTells", unfollowed := true, recurses := true, apart := false }
def RosterTellsSaid : Prop := rosterTellsRow.holds Try.pinned (OpenSpec.ofChange rosterTellsSpec)

/-- ITS FALSE NEIGHBOUR: 'it returns false'. Refute it at one input. -/
def rosterTellsWrong : ChangeSpec := { name := "rosterTells", fn := fun _ => fun
  | [d1, d2, d3, d4, d5, d6] => { results := [.lit (.bool false)], args := [d1, d2, d3, d4, d5, d6] }
  | _ => none }
def RosterTellsWrongFalsely : Prop := rosterTellsRow.holds Try.pinned (OpenSpec.ofChange rosterTellsWrong)

/-- 'clavigerlaw15.EndorseMajority': WHATEVER THE INPUT: true; the input reads as it did. -/
def endorseMajoritySpec : ChangeSpec := { name := "endorseMajority", fn := fun _ => fun
  | [d1, d2, d3, d4] => { results := [.lit (.bool true)], args := [d1, d2, d3, d4] }
  | _ => none }
def endorseMajorityRow : OpenClaim := { program := "ytmmaenfjnkoknaa", sum := "a9e0d0d83ce59f736b358a8d2d292a8b33b4bdb0c1322cbb4a56ffc69ab06d1f", func := "claviger/clavigerlaw15.EndorseMajority", spec := "endorseMajority", recurses := true, apart := false }
def EndorseMajoritySaid : Prop := endorseMajorityRow.holds Try.pinned (OpenSpec.ofChange endorseMajoritySpec)

/-- ITS FALSE NEIGHBOUR: 'it returns false'. Refute it at one input. -/
def endorseMajorityWrong : ChangeSpec := { name := "endorseMajority", fn := fun _ => fun
  | [d1, d2, d3, d4] => { results := [.lit (.bool false)], args := [d1, d2, d3, d4] }
  | _ => none }
def EndorseMajorityWrongFalsely : Prop := endorseMajorityRow.holds Try.pinned (OpenSpec.ofChange endorseMajorityWrong)

/- THE SECOND FORM. 'bulk': how many values and letters a reading holds, each counted each time it is reached (what is shared counts as often as it is met; a slice's spare places count too). A statement '..UptoSaid' is the law's where the arguments, and the package variables that the reading takes, are together of bulk at most 1048576: NARROWER than '..Said'. Prove '..Said' where nothing that the law and all that it calls make is longer than what came in: it says more and counts as full. Else prove '..UptoSaid'. A law counts once. -/
mutual
def uptoBulk {H : Type} : DataW H → Nat
  | .lit (.string bytes) => bytes.length + 1
  | .lit _ => 1
  | .nil => 1
  | .ptr d => uptoBulk d + 1
  | .slice elems spare => uptoBulkAll elems + uptoBulkAll spare + 1
  | .agg parts => uptoBulkAll parts + 1
  | .iface _ d => uptoBulk d + 1
  | .map entries => uptoBulkEntries entries + 1
  | .held _ => 1
def uptoBulkAll {H : Type} : List (DataW H) → Nat
  | [] => 0
  | d :: r => uptoBulk d + uptoBulkAll r
def uptoBulkEntries {H : Type} : List (Lit × DataW H) → Nat
  | [] => 0
  | x :: r => uptoBulkEntry x + uptoBulkEntries r
def uptoBulkEntry {H : Type} : Lit × DataW H → Nat
  | (.string bytes, d) => bytes.length + uptoBulk d + 1
  | (_, d) => uptoBulk d + 1
 end
def uptoSmall : (H : Type) → List (DataW H) → Bool := fun _ ds => decide (uptoBulkAll ds ≤ 1048576)
def OpenSpec.upto (s : _root_.Go.ChangeSpec) : _root_.Go.OpenSpec := { _root_.Go.OpenSpec.ofChange s with cond := some uptoSmall }

/-- 'clavigerlaw3.StretchNumbers', WHERE WHAT IT READS IS OF BULK AT MOST 1048576: true; the input reads as it did. -/
def stretchNumbersUptoRow : OpenClaim := { program := "ytmmaenfjnkoknaa", sum := "a9e0d0d83ce59f736b358a8d2d292a8b33b4bdb0c1322cbb4a56ffc69ab06d1f", func := "claviger/clavigerlaw3.StretchNumbers", spec := "stretchNumbers", apart := false, narrowed := true }
def StretchNumbersUptoSaid : Prop := stretchNumbersUptoRow.holds Try.pinned (OpenSpec.upto stretchNumbersSpec)

/-- 'clavigerlaw3.StretchTells', WHERE WHAT IT READS IS OF BULK AT MOST 1048576: true; the input reads as it did. -/
def stretchTellsUptoRow : OpenClaim := { program := "ytmmaenfjnkoknaa", sum := "a9e0d0d83ce59f736b358a8d2d292a8b33b4bdb0c1322cbb4a56ffc69ab06d1f", func := "claviger/clavigerlaw3.StretchTells", spec := "stretchTells", apart := false, narrowed := true }
def StretchTellsUptoSaid : Prop := stretchTellsUptoRow.holds Try.pinned (OpenSpec.upto stretchTellsSpec)

/-- 'clavigerlaw3.StretchRounds', WHERE WHAT IT READS IS OF BULK AT MOST 1048576: true; the input reads as it did. -/
def stretchRoundsUptoRow : OpenClaim := { program := "ytmmaenfjnkoknaa", sum := "a9e0d0d83ce59f736b358a8d2d292a8b33b4bdb0c1322cbb4a56ffc69ab06d1f", func := "claviger/clavigerlaw3.StretchRounds", spec := "stretchRounds", apart := false, narrowed := true }
def StretchRoundsUptoSaid : Prop := stretchRoundsUptoRow.holds Try.pinned (OpenSpec.upto stretchRoundsSpec)

/-- 'clavigerlaw3.StretchScripts', WHERE WHAT IT READS IS OF BULK AT MOST 1048576: true; the input reads as it did. -/
def stretchScriptsUptoRow : OpenClaim := { program := "ytmmaenfjnkoknaa", sum := "a9e0d0d83ce59f736b358a8d2d292a8b33b4bdb0c1322cbb4a56ffc69ab06d1f", func := "claviger/clavigerlaw3.StretchScripts", spec := "stretchScripts", apart := false, narrowed := true }
def StretchScriptsUptoSaid : Prop := stretchScriptsUptoRow.holds Try.pinned (OpenSpec.upto stretchScriptsSpec)

/-- 'clavigerlaw15.EndorseTells', WHERE WHAT IT READS IS OF BULK AT MOST 1048576: true; the input reads as it did. -/
def endorseTellsUptoRow : OpenClaim := { program := "ytmmaenfjnkoknaa", sum := "a9e0d0d83ce59f736b358a8d2d292a8b33b4bdb0c1322cbb4a56ffc69ab06d1f", func := "claviger/clavigerlaw15.EndorseTells", spec := "endorseTells", apart := false, narrowed := true }
def EndorseTellsUptoSaid : Prop := endorseTellsUptoRow.holds Try.pinned (OpenSpec.upto endorseTellsSpec)

/-- 'clavigerlaw6.CodecNumbers', WHERE WHAT IT READS IS OF BULK AT MOST 1048576: true; the input reads as it did. -/
def codecNumbersUptoRow : OpenClaim := { program := "ytmmaenfjnkoknaa", sum := "a9e0d0d83ce59f736b358a8d2d292a8b33b4bdb0c1322cbb4a56ffc69ab06d1f", func := "claviger/clavigerlaw6.CodecNumbers", spec := "codecNumbers", inPlace := ["internal/bytealg.Compare"], apart := false, narrowed := true }
def CodecNumbersUptoSaid : Prop := codecNumbersUptoRow.holds Try.pinned (OpenSpec.upto codecNumbersSpec)

/-- 'clavigerlaw9.FrameLengths', WHERE WHAT IT READS IS OF BULK AT MOST 1048576: true; the input reads as it did. -/
def frameLengthsUptoRow : OpenClaim := { program := "ytmmaenfjnkoknaa", sum := "a9e0d0d83ce59f736b358a8d2d292a8b33b4bdb0c1322cbb4a56ffc69ab06d1f", func := "claviger/clavigerlaw9.FrameLengths", spec := "frameLengths", inPlace := ["internal/bytealg.Compare"], apart := false, narrowed := true }
def FrameLengthsUptoSaid : Prop := frameLengthsUptoRow.holds Try.pinned (OpenSpec.upto frameLengthsSpec)

/-- 'clavigerlaw22.ClientNumbers', WHERE WHAT IT READS IS OF BULK AT MOST 1048576: true; the input reads as it did. -/
def clientNumbersUptoRow : OpenClaim := { program := "ytmmaenfjnkoknaa", sum := "a9e0d0d83ce59f736b358a8d2d292a8b33b4bdb0c1322cbb4a56ffc69ab06d1f", func := "claviger/clavigerlaw22.ClientNumbers", spec := "clientNumbers", apart := false, narrowed := true }
def ClientNumbersUptoSaid : Prop := clientNumbersUptoRow.holds Try.pinned (OpenSpec.upto clientNumbersSpec)

/-- 'clavigerlaw22.ClientPlays', WHERE WHAT IT READS IS OF BULK AT MOST 1048576: true; the input reads as it did. -/
def clientPlaysUptoRow : OpenClaim := { program := "ytmmaenfjnkoknaa", sum := "a9e0d0d83ce59f736b358a8d2d292a8b33b4bdb0c1322cbb4a56ffc69ab06d1f", func := "claviger/clavigerlaw22.ClientPlays", spec := "clientPlays", apart := false, narrowed := true }
def ClientPlaysUptoSaid : Prop := clientPlaysUptoRow.holds Try.pinned (OpenSpec.upto clientPlaysSpec)

/-- 'clavigerlaw22.ClientTells', WHERE WHAT IT READS IS OF BULK AT MOST 1048576: true; the input reads as it did. -/
def clientTellsUptoRow : OpenClaim := { program := "ytmmaenfjnkoknaa", sum := "a9e0d0d83ce59f736b358a8d2d292a8b33b4bdb0c1322cbb4a56ffc69ab06d1f", func := "claviger/clavigerlaw22.ClientTells", spec := "clientTells", apart := false, narrowed := true }
def ClientTellsUptoSaid : Prop := clientTellsUptoRow.holds Try.pinned (OpenSpec.upto clientTellsSpec)

/-- 'clavigerlaw22.ClientKeys', WHERE WHAT IT READS IS OF BULK AT MOST 1048576: true; the input reads as it did. -/
def clientKeysUptoRow : OpenClaim := { program := "ytmmaenfjnkoknaa", sum := "a9e0d0d83ce59f736b358a8d2d292a8b33b4bdb0c1322cbb4a56ffc69ab06d1f", func := "claviger/clavigerlaw22.ClientKeys", spec := "clientKeys", apart := false, narrowed := true }
def ClientKeysUptoSaid : Prop := clientKeysUptoRow.holds Try.pinned (OpenSpec.upto clientKeysSpec)

/-- 'clavigerlaw22.ClientNums', WHERE WHAT IT READS IS OF BULK AT MOST 1048576: true; the input reads as it did. -/
def clientNumsUptoRow : OpenClaim := { program := "ytmmaenfjnkoknaa", sum := "a9e0d0d83ce59f736b358a8d2d292a8b33b4bdb0c1322cbb4a56ffc69ab06d1f", func := "claviger/clavigerlaw22.ClientNums", spec := "clientNums", apart := false, narrowed := true }
def ClientNumsUptoSaid : Prop := clientNumsUptoRow.holds Try.pinned (OpenSpec.upto clientNumsSpec)

/-- 'clavigerlaw10.JournalBack', WHERE WHAT IT READS IS OF BULK AT MOST 1048576: true; the input reads as it did. -/
def journalBackUptoRow : OpenClaim := { program := "ytmmaenfjnkoknaa", sum := "a9e0d0d83ce59f736b358a8d2d292a8b33b4bdb0c1322cbb4a56ffc69ab06d1f", func := "claviger/clavigerlaw10.JournalBack", spec := "journalBack", inPlace := ["internal/bytealg.Compare"], apart := false, narrowed := true }
def JournalBackUptoSaid : Prop := journalBackUptoRow.holds Try.pinned (OpenSpec.upto journalBackSpec)

/-- 'clavigerlaw14.RosterMajorities', WHERE WHAT IT READS IS OF BULK AT MOST 1048576: true; the input reads as it did. -/
def rosterMajoritiesUptoRow : OpenClaim := { program := "ytmmaenfjnkoknaa", sum := "a9e0d0d83ce59f736b358a8d2d292a8b33b4bdb0c1322cbb4a56ffc69ab06d1f", func := "claviger/clavigerlaw14.RosterMajorities", spec := "rosterMajorities", unfollowed := true, recurses := true, apart := false, narrowed := true }
def RosterMajoritiesUptoSaid : Prop := rosterMajoritiesUptoRow.holds Try.pinned (OpenSpec.upto rosterMajoritiesSpec)

/-- 'clavigerlaw14.RosterBack', WHERE WHAT IT READS IS OF BULK AT MOST 1048576: true; the input reads as it did. -/
def rosterBackUptoRow : OpenClaim := { program := "ytmmaenfjnkoknaa", sum := "a9e0d0d83ce59f736b358a8d2d292a8b33b4bdb0c1322cbb4a56ffc69ab06d1f", func := "claviger/clavigerlaw14.RosterBack", spec := "rosterBack", unfollowed := true, recurses := true, apart := false, narrowed := true }
def RosterBackUptoSaid : Prop := rosterBackUptoRow.holds Try.pinned (OpenSpec.upto rosterBackSpec)

/-- 'clavigerlaw14.RosterNumbers', WHERE WHAT IT READS IS OF BULK AT MOST 1048576: true; the input reads as it did. -/
def rosterNumbersUptoRow : OpenClaim := { program := "ytmmaenfjnkoknaa", sum := "a9e0d0d83ce59f736b358a8d2d292a8b33b4bdb0c1322cbb4a56ffc69ab06d1f", func := "claviger/clavigerlaw14.RosterNumbers", spec := "rosterNumbers", unfollowed := true, recurses := true, apart := false, narrowed := true }
def RosterNumbersUptoSaid : Prop := rosterNumbersUptoRow.holds Try.pinned (OpenSpec.upto rosterNumbersSpec)

/-- 'clavigerlaw14.RosterTells', WHERE WHAT IT READS IS OF BULK AT MOST 1048576: true; the input reads as it did. -/
def rosterTellsUptoRow : OpenClaim := { program := "ytmmaenfjnkoknaa", sum := "a9e0d0d83ce59f736b358a8d2d292a8b33b4bdb0c1322cbb4a56ffc69ab06d1f", func := "claviger/clavigerlaw14.RosterTells", spec := "rosterTells", unfollowed := true, recurses := true, apart := false, narrowed := true }
def RosterTellsUptoSaid : Prop := rosterTellsUptoRow.holds Try.pinned (OpenSpec.upto rosterTellsSpec)

/-- 'clavigerlaw15.EndorseMajority', WHERE WHAT IT READS IS OF BULK AT MOST 1048576: true; the input reads as it did. -/
def endorseMajorityUptoRow : OpenClaim := { program := "ytmmaenfjnkoknaa", sum := "a9e0d0d83ce59f736b358a8d2d292a8b33b4bdb0c1322cbb4a56ffc69ab06d1f", func := "claviger/clavigerlaw15.EndorseMajority", spec := "endorseMajority", recurses := true, apart := false, narrowed := true }
def EndorseMajorityUptoSaid : Prop := endorseMajorityUptoRow.holds Try.pinned (OpenSpec.upto endorseMajoritySpec)

end Rows
end Go.Proofs.Ytmmaenfjnkoknaa
