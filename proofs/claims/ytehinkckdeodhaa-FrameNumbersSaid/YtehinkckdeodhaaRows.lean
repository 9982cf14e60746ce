/-
  No cell of these rows narrows 'for every input' (looked for: loops, veiled, ifaces, maps, wideKeys, modest, calm, conditions, laid).
  DERIVED. THE GIVEN ROWS OF THIS SEAT. 23 by the template 'for every input the law returns true; each argument reads behind the call as it read before'; 0 by the template 'total and deterministic' (their statements: YtehinkckdeodhaaTotals.lean).
  GIVEN WITH THE SEED: the statements are not yours to turn. If you find one false, say at which input.
  Laid BY PROGRAM, IN A SANDBOX (cutbox-rows.mjs): the forced cells as the released guide's own fill.sh prints them over the translation ec0d5ee3ac602cca… (all of the seat's roots in one cut). By AI agents, Wed Nov 11 2026. No macro, syntax, notation, axiom, sorry.
-/
import Derived.Test.YtehinkckdeodhaaChecked
import GoSem.Claim
import GoSem.ClaimJoined
import GoSem.ClaimMapViews
import Derived.JoinedTies
import Derived.KernelRfl
namespace Go.Proofs.Ytehinkckdeodhaa
/- THE CELL 'sum', in the pinned program and in every row, IS THE sha256 OF THE DUMP (.gsa) THAT YtehinkckdeodhaaProg.lean LOADS. Nothing in Lean hashes anything: it is a label: what it is worth is what the hold of that sum in a sandbox is worth. -/
noncomputable def Try.pinned : Pinned := { name := "ytehinkckdeodhaa", sum := "ec0d5ee3ac602cca36bb37c3e099207e12b1245c1c2b5302a1c92beaa6b3f7be", checked := Try.checked }
namespace Rows
def none {H : Type} : Left H := { results := [], args := [] }

/-- 'clavigerlaw3.StretchNumbers': WHATEVER THE INPUT: true; the input reads as it did. -/
def stretchNumbersSpec : ChangeSpec := { name := "stretchNumbers", fn := fun _ => fun
  | [] => { results := [.lit (.bool true)], args := [] }
  | _ => none }
def stretchNumbersRow : OpenClaim := { program := "ytehinkckdeodhaa", sum := "ec0d5ee3ac602cca36bb37c3e099207e12b1245c1c2b5302a1c92beaa6b3f7be", func := "claviger/clavigerlaw3.StretchNumbers", spec := "stretchNumbers", apart := false }
def StretchNumbersSaid : Prop := stretchNumbersRow.holds Try.pinned (OpenSpec.ofChange stretchNumbersSpec)

/-- ITS FALSE NEIGHBOUR: 'it returns false'. Refute it at one input. -/
def stretchNumbersWrong : ChangeSpec := { name := "stretchNumbers", fn := fun _ => fun
  | [] => { results := [.lit (.bool false)], args := [] }
  | _ => none }
def StretchNumbersWrongFalsely : Prop := stretchNumbersRow.holds Try.pinned (OpenSpec.ofChange stretchNumbersWrong)

/-- 'clavigerlaw3.StretchTells': WHATEVER THE INPUT: true; the input reads as it did. -/
def stretchTellsSpec : ChangeSpec := { name := "stretchTells", fn := fun _ => fun
  | [d1, d2, d3, d4, d5] => { results := [.lit (.bool true)], args := [d1, d2, d3, d4, d5] }
  | _ => none }
def stretchTellsRow : OpenClaim := { program := "ytehinkckdeodhaa", sum := "ec0d5ee3ac602cca36bb37c3e099207e12b1245c1c2b5302a1c92beaa6b3f7be", func := "claviger/clavigerlaw3.StretchTells", spec := "stretchTells", apart := false }
def StretchTellsSaid : Prop := stretchTellsRow.holds Try.pinned (OpenSpec.ofChange stretchTellsSpec)

/-- ITS FALSE NEIGHBOUR: 'it returns false'. Refute it at one input. -/
def stretchTellsWrong : ChangeSpec := { name := "stretchTells", fn := fun _ => fun
  | [d1, d2, d3, d4, d5] => { results := [.lit (.bool false)], args := [d1, d2, d3, d4, d5] }
  | _ => none }
def StretchTellsWrongFalsely : Prop := stretchTellsRow.holds Try.pinned (OpenSpec.ofChange stretchTellsWrong)

/-- 'clavigerlaw3.StretchRounds': WHATEVER THE INPUT: true; the input reads as it did. -/
def stretchRoundsSpec : ChangeSpec := { name := "stretchRounds", fn := fun _ => fun
  | [d1, d2, d3] => { results := [.lit (.bool true)], args := [d1, d2, d3] }
  | _ => none }
def stretchRoundsRow : OpenClaim := { program := "ytehinkckdeodhaa", sum := "ec0d5ee3ac602cca36bb37c3e099207e12b1245c1c2b5302a1c92beaa6b3f7be", func := "claviger/clavigerlaw3.StretchRounds", spec := "stretchRounds", apart := false }
def StretchRoundsSaid : Prop := stretchRoundsRow.holds Try.pinned (OpenSpec.ofChange stretchRoundsSpec)

/-- ITS FALSE NEIGHBOUR: 'it returns false'. Refute it at one input. -/
def stretchRoundsWrong : ChangeSpec := { name := "stretchRounds", fn := fun _ => fun
  | [d1, d2, d3] => { results := [.lit (.bool false)], args := [d1, d2, d3] }
  | _ => none }
def StretchRoundsWrongFalsely : Prop := stretchRoundsRow.holds Try.pinned (OpenSpec.ofChange stretchRoundsWrong)

/-- 'clavigerlaw3.StretchScripts': WHATEVER THE INPUT: true; the input reads as it did. -/
def stretchScriptsSpec : ChangeSpec := { name := "stretchScripts", fn := fun _ => fun
  | [d1, d2, d3, d4] => { results := [.lit (.bool true)], args := [d1, d2, d3, d4] }
  | _ => none }
def stretchScriptsRow : OpenClaim := { program := "ytehinkckdeodhaa", sum := "ec0d5ee3ac602cca36bb37c3e099207e12b1245c1c2b5302a1c92beaa6b3f7be", func := "claviger/clavigerlaw3.StretchScripts", spec := "stretchScripts", apart := false }
def StretchScriptsSaid : Prop := stretchScriptsRow.holds Try.pinned (OpenSpec.ofChange stretchScriptsSpec)

/-- ITS FALSE NEIGHBOUR: 'it returns false'. Refute it at one input. -/
def stretchScriptsWrong : ChangeSpec := { name := "stretchScripts", fn := fun _ => fun
  | [d1, d2, d3, d4] => { results := [.lit (.bool false)], args := [d1, d2, d3, d4] }
  | _ => none }
def StretchScriptsWrongFalsely : Prop := stretchScriptsRow.holds Try.pinned (OpenSpec.ofChange stretchScriptsWrong)

/-- 'clavigerlaw4.VeilNumbers': WHATEVER THE INPUT: true; the input reads as it did. -/
def veilNumbersSpec : ChangeSpec := { name := "veilNumbers", fn := fun _ => fun
  | [] => { results := [.lit (.bool true)], args := [] }
  | _ => none }
def veilNumbersRow : OpenClaim := { program := "ytehinkckdeodhaa", sum := "ec0d5ee3ac602cca36bb37c3e099207e12b1245c1c2b5302a1c92beaa6b3f7be", func := "claviger/clavigerlaw4.VeilNumbers", spec := "veilNumbers", apart := false }
def VeilNumbersSaid : Prop := veilNumbersRow.holds Try.pinned (OpenSpec.ofChange veilNumbersSpec)

/-- ITS FALSE NEIGHBOUR: 'it returns false'. Refute it at one input. -/
def veilNumbersWrong : ChangeSpec := { name := "veilNumbers", fn := fun _ => fun
  | [] => { results := [.lit (.bool false)], args := [] }
  | _ => none }
def VeilNumbersWrongFalsely : Prop := veilNumbersRow.holds Try.pinned (OpenSpec.ofChange veilNumbersWrong)

/-- 'clavigerlaw4.VeilTells': WHATEVER THE INPUT: true; the input reads as it did. -/
def veilTellsSpec : ChangeSpec := { name := "veilTells", fn := fun _ => fun
  | [d1, d2, d3, d4, d5, d6, d7, d8, d9] => { results := [.lit (.bool true)], args := [d1, d2, d3, d4, d5, d6, d7, d8, d9] }
  | _ => none }
def veilTellsRow : OpenClaim := { program := "ytehinkckdeodhaa", sum := "ec0d5ee3ac602cca36bb37c3e099207e12b1245c1c2b5302a1c92beaa6b3f7be", func := "claviger/clavigerlaw4.VeilTells", spec := "veilTells", apart := false }
def VeilTellsSaid : Prop := veilTellsRow.holds Try.pinned (OpenSpec.ofChange veilTellsSpec)

/-- ITS FALSE NEIGHBOUR: 'it returns false'. Refute it at one input. -/
def veilTellsWrong : ChangeSpec := { name := "veilTells", fn := fun _ => fun
  | [d1, d2, d3, d4, d5, d6, d7, d8, d9] => { results := [.lit (.bool false)], args := [d1, d2, d3, d4, d5, d6, d7, d8, d9] }
  | _ => none }
def VeilTellsWrongFalsely : Prop := veilTellsRow.holds Try.pinned (OpenSpec.ofChange veilTellsWrong)

/-- 'clavigerlaw4.VeilBack': WHATEVER THE INPUT: true; the input reads as it did. -/
def veilBackSpec : ChangeSpec := { name := "veilBack", fn := fun _ => fun
  | [d1, d2, d3, d4] => { results := [.lit (.bool true)], args := [d1, d2, d3, d4] }
  | _ => none }
def veilBackRow : OpenClaim := { program := "ytehinkckdeodhaa", sum := "ec0d5ee3ac602cca36bb37c3e099207e12b1245c1c2b5302a1c92beaa6b3f7be", func := "claviger/clavigerlaw4.VeilBack", spec := "veilBack", apart := false }
def VeilBackSaid : Prop := veilBackRow.holds Try.pinned (OpenSpec.ofChange veilBackSpec)

/-- ITS FALSE NEIGHBOUR: 'it returns false'. Refute it at one input. -/
def veilBackWrong : ChangeSpec := { name := "veilBack", fn := fun _ => fun
  | [d1, d2, d3, d4] => { results := [.lit (.bool false)], args := [d1, d2, d3, d4] }
  | _ => none }
def VeilBackWrongFalsely : Prop := veilBackRow.holds Try.pinned (OpenSpec.ofChange veilBackWrong)

/-- 'clavigerlaw4.VeilTurns': WHATEVER THE INPUT: true; the input reads as it did. -/
def veilTurnsSpec : ChangeSpec := { name := "veilTurns", fn := fun _ => fun
  | [d1, d2, d3, d4, d5] => { results := [.lit (.bool true)], args := [d1, d2, d3, d4, d5] }
  | _ => none }
def veilTurnsRow : OpenClaim := { program := "ytehinkckdeodhaa", sum := "ec0d5ee3ac602cca36bb37c3e099207e12b1245c1c2b5302a1c92beaa6b3f7be", func := "claviger/clavigerlaw4.VeilTurns", spec := "veilTurns", apart := false }
def VeilTurnsSaid : Prop := veilTurnsRow.holds Try.pinned (OpenSpec.ofChange veilTurnsSpec)

/-- ITS FALSE NEIGHBOUR: 'it returns false'. Refute it at one input. -/
def veilTurnsWrong : ChangeSpec := { name := "veilTurns", fn := fun _ => fun
  | [d1, d2, d3, d4, d5] => { results := [.lit (.bool false)], args := [d1, d2, d3, d4, d5] }
  | _ => none }
def VeilTurnsWrongFalsely : Prop := veilTurnsRow.holds Try.pinned (OpenSpec.ofChange veilTurnsWrong)

/-- 'clavigerlaw6.CodecLengths': WHATEVER THE INPUT: true; the input reads as it did. -/
def codecLengthsSpec : ChangeSpec := { name := "codecLengths", fn := fun _ => fun
  | [d1, d2, d3, d4] => { results := [.lit (.bool true)], args := [d1, d2, d3, d4] }
  | _ => none }
def codecLengthsRow : OpenClaim := { program := "ytehinkckdeodhaa", sum := "ec0d5ee3ac602cca36bb37c3e099207e12b1245c1c2b5302a1c92beaa6b3f7be", func := "claviger/clavigerlaw6.CodecLengths", spec := "codecLengths", apart := false }
def CodecLengthsSaid : Prop := codecLengthsRow.holds Try.pinned (OpenSpec.ofChange codecLengthsSpec)

/-- ITS FALSE NEIGHBOUR: 'it returns false'. Refute it at one input. -/
def codecLengthsWrong : ChangeSpec := { name := "codecLengths", fn := fun _ => fun
  | [d1, d2, d3, d4] => { results := [.lit (.bool false)], args := [d1, d2, d3, d4] }
  | _ => none }
def CodecLengthsWrongFalsely : Prop := codecLengthsRow.holds Try.pinned (OpenSpec.ofChange codecLengthsWrong)

/-- 'clavigerlaw15.EndorseNumbers': WHATEVER THE INPUT: true; the input reads as it did. -/
def endorseNumbersSpec : ChangeSpec := { name := "endorseNumbers", fn := fun _ => fun
  | [] => { results := [.lit (.bool true)], args := [] }
  | _ => none }
def endorseNumbersRow : OpenClaim := { program := "ytehinkckdeodhaa", sum := "ec0d5ee3ac602cca36bb37c3e099207e12b1245c1c2b5302a1c92beaa6b3f7be", func := "claviger/clavigerlaw15.EndorseNumbers", spec := "endorseNumbers", apart := false }
def EndorseNumbersSaid : Prop := endorseNumbersRow.holds Try.pinned (OpenSpec.ofChange endorseNumbersSpec)

/-- ITS FALSE NEIGHBOUR: 'it returns false'. Refute it at one input. -/
def endorseNumbersWrong : ChangeSpec := { name := "endorseNumbers", fn := fun _ => fun
  | [] => { results := [.lit (.bool false)], args := [] }
  | _ => none }
def EndorseNumbersWrongFalsely : Prop := endorseNumbersRow.holds Try.pinned (OpenSpec.ofChange endorseNumbersWrong)

/-- 'clavigerlaw15.EndorseTells': WHATEVER THE INPUT: true; the input reads as it did. -/
def endorseTellsSpec : ChangeSpec := { name := "endorseTells", fn := fun _ => fun
  | [d1, d2, d3, d4, d5, d6, d7, d8] => { results := [.lit (.bool true)], args := [d1, d2, d3, d4, d5, d6, d7, d8] }
  | _ => none }
def endorseTellsRow : OpenClaim := { program := "ytehinkckdeodhaa", sum := "ec0d5ee3ac602cca36bb37c3e099207e12b1245c1c2b5302a1c92beaa6b3f7be", func := "claviger/clavigerlaw15.EndorseTells", spec := "endorseTells", apart := false }
def EndorseTellsSaid : Prop := endorseTellsRow.holds Try.pinned (OpenSpec.ofChange endorseTellsSpec)

/-- ITS FALSE NEIGHBOUR: 'it returns false'. Refute it at one input. -/
def endorseTellsWrong : ChangeSpec := { name := "endorseTells", fn := fun _ => fun
  | [d1, d2, d3, d4, d5, d6, d7, d8] => { results := [.lit (.bool false)], args := [d1, d2, d3, d4, d5, d6, d7, d8] }
  | _ => none }
def EndorseTellsWrongFalsely : Prop := endorseTellsRow.holds Try.pinned (OpenSpec.ofChange endorseTellsWrong)

/-- 'clavigerlaw5.EnvelopeNumbers': WHATEVER THE INPUT: true; the input reads as it did. -/
def envelopeNumbersSpec : ChangeSpec := { name := "envelopeNumbers", fn := fun _ => fun
  | [] => { results := [.lit (.bool true)], args := [] }
  | _ => none }
def envelopeNumbersRow : OpenClaim := { program := "ytehinkckdeodhaa", sum := "ec0d5ee3ac602cca36bb37c3e099207e12b1245c1c2b5302a1c92beaa6b3f7be", func := "claviger/clavigerlaw5.EnvelopeNumbers", spec := "envelopeNumbers", apart := false }
def EnvelopeNumbersSaid : Prop := envelopeNumbersRow.holds Try.pinned (OpenSpec.ofChange envelopeNumbersSpec)

/-- ITS FALSE NEIGHBOUR: 'it returns false'. Refute it at one input. -/
def envelopeNumbersWrong : ChangeSpec := { name := "envelopeNumbers", fn := fun _ => fun
  | [] => { results := [.lit (.bool false)], args := [] }
  | _ => none }
def EnvelopeNumbersWrongFalsely : Prop := envelopeNumbersRow.holds Try.pinned (OpenSpec.ofChange envelopeNumbersWrong)

/-- 'clavigerlaw5.EnvelopeTells': WHATEVER THE INPUT: true; the input reads as it did. -/
def envelopeTellsSpec : ChangeSpec := { name := "envelopeTells", fn := fun _ => fun
  | [d1, d2, d3, d4, d5, d6, d7, d8, d9] => { results := [.lit (.bool true)], args := [d1, d2, d3, d4, d5, d6, d7, d8, d9] }
  | _ => none }
def envelopeTellsRow : OpenClaim := { program := "ytehinkckdeodhaa", sum := "ec0d5ee3ac602cca36bb37c3e099207e12b1245c1c2b5302a1c92beaa6b3f7be", func := "claviger/clavigerlaw5.EnvelopeTells", spec := "envelopeTells", apart := false }
def EnvelopeTellsSaid : Prop := envelopeTellsRow.holds Try.pinned (OpenSpec.ofChange envelopeTellsSpec)

/-- ITS FALSE NEIGHBOUR: 'it returns false'. Refute it at one input. -/
def envelopeTellsWrong : ChangeSpec := { name := "envelopeTells", fn := fun _ => fun
  | [d1, d2, d3, d4, d5, d6, d7, d8, d9] => { results := [.lit (.bool false)], args := [d1, d2, d3, d4, d5, d6, d7, d8, d9] }
  | _ => none }
def EnvelopeTellsWrongFalsely : Prop := envelopeTellsRow.holds Try.pinned (OpenSpec.ofChange envelopeTellsWrong)

/-- 'clavigerlaw5.EnvelopeBack': WHATEVER THE INPUT: true; the input reads as it did. -/
def envelopeBackSpec : ChangeSpec := { name := "envelopeBack", fn := fun _ => fun
  | [d1, d2, d3, d4] => { results := [.lit (.bool true)], args := [d1, d2, d3, d4] }
  | _ => none }
def envelopeBackRow : OpenClaim := { program := "ytehinkckdeodhaa", sum := "ec0d5ee3ac602cca36bb37c3e099207e12b1245c1c2b5302a1c92beaa6b3f7be", func := "claviger/clavigerlaw5.EnvelopeBack", spec := "envelopeBack", apart := false }
def EnvelopeBackSaid : Prop := envelopeBackRow.holds Try.pinned (OpenSpec.ofChange envelopeBackSpec)

/-- ITS FALSE NEIGHBOUR: 'it returns false'. Refute it at one input. -/
def envelopeBackWrong : ChangeSpec := { name := "envelopeBack", fn := fun _ => fun
  | [d1, d2, d3, d4] => { results := [.lit (.bool false)], args := [d1, d2, d3, d4] }
  | _ => none }
def EnvelopeBackWrongFalsely : Prop := envelopeBackRow.holds Try.pinned (OpenSpec.ofChange envelopeBackWrong)

/-- 'clavigerlaw5.EnvelopeSeeds': WHATEVER THE INPUT: true; the input reads as it did. -/
def envelopeSeedsSpec : ChangeSpec := { name := "envelopeSeeds", fn := fun _ => fun
  | [d1, d2, d3] => { results := [.lit (.bool true)], args := [d1, d2, d3] }
  | _ => none }
def envelopeSeedsRow : OpenClaim := { program := "ytehinkckdeodhaa", sum := "ec0d5ee3ac602cca36bb37c3e099207e12b1245c1c2b5302a1c92beaa6b3f7be", func := "claviger/clavigerlaw5.EnvelopeSeeds", spec := "envelopeSeeds", apart := false }
def EnvelopeSeedsSaid : Prop := envelopeSeedsRow.holds Try.pinned (OpenSpec.ofChange envelopeSeedsSpec)

/-- ITS FALSE NEIGHBOUR: 'it returns false'. Refute it at one input. -/
def envelopeSeedsWrong : ChangeSpec := { name := "envelopeSeeds", fn := fun _ => fun
  | [d1, d2, d3] => { results := [.lit (.bool false)], args := [d1, d2, d3] }
  | _ => none }
def EnvelopeSeedsWrongFalsely : Prop := envelopeSeedsRow.holds Try.pinned (OpenSpec.ofChange envelopeSeedsWrong)

/-- 'clavigerlaw6.CodecReads': WHATEVER THE INPUT: true; the input reads as it did. -/
def codecReadsSpec : ChangeSpec := { name := "codecReads", fn := fun _ => fun
  | [d1, d2, d3, d4, d5, d6] => { results := [.lit (.bool true)], args := [d1, d2, d3, d4, d5, d6] }
  | _ => none }
def codecReadsRow : OpenClaim := { program := "ytehinkckdeodhaa", sum := "ec0d5ee3ac602cca36bb37c3e099207e12b1245c1c2b5302a1c92beaa6b3f7be", func := "claviger/clavigerlaw6.CodecReads", spec := "codecReads", inPlace := ["internal/bytealg.Compare"], apart := false }
def CodecReadsSaid : Prop := codecReadsRow.holds Try.pinned (OpenSpec.ofChange codecReadsSpec)

/-- ITS FALSE NEIGHBOUR: 'it returns false'. Refute it at one input. -/
def codecReadsWrong : ChangeSpec := { name := "codecReads", fn := fun _ => fun
  | [d1, d2, d3, d4, d5, d6] => { results := [.lit (.bool false)], args := [d1, d2, d3, d4, d5, d6] }
  | _ => none }
def CodecReadsWrongFalsely : Prop := codecReadsRow.holds Try.pinned (OpenSpec.ofChange codecReadsWrong)

/-- 'clavigerlaw6.CodecBack': WHATEVER THE INPUT: true; the input reads as it did. -/
def codecBackSpec : ChangeSpec := { name := "codecBack", fn := fun _ => fun
  | [d1, d2, d3, d4] => { results := [.lit (.bool true)], args := [d1, d2, d3, d4] }
  | _ => none }
def codecBackRow : OpenClaim := { program := "ytehinkckdeodhaa", sum := "ec0d5ee3ac602cca36bb37c3e099207e12b1245c1c2b5302a1c92beaa6b3f7be", func := "claviger/clavigerlaw6.CodecBack", spec := "codecBack", inPlace := ["internal/bytealg.Compare"], apart := false }
def CodecBackSaid : Prop := codecBackRow.holds Try.pinned (OpenSpec.ofChange codecBackSpec)

/-- ITS FALSE NEIGHBOUR: 'it returns false'. Refute it at one input. -/
def codecBackWrong : ChangeSpec := { name := "codecBack", fn := fun _ => fun
  | [d1, d2, d3, d4] => { results := [.lit (.bool false)], args := [d1, d2, d3, d4] }
  | _ => none }
def CodecBackWrongFalsely : Prop := codecBackRow.holds Try.pinned (OpenSpec.ofChange codecBackWrong)

/-- 'clavigerlaw6.CodecNumbers': WHATEVER THE INPUT: true; the input reads as it did. -/
def codecNumbersSpec : ChangeSpec := { name := "codecNumbers", fn := fun _ => fun
  | [] => { results := [.lit (.bool true)], args := [] }
  | _ => none }
def codecNumbersRow : OpenClaim := { program := "ytehinkckdeodhaa", sum := "ec0d5ee3ac602cca36bb37c3e099207e12b1245c1c2b5302a1c92beaa6b3f7be", func := "claviger/clavigerlaw6.CodecNumbers", spec := "codecNumbers", inPlace := ["internal/bytealg.Compare"], apart := false }
def CodecNumbersSaid : Prop := codecNumbersRow.holds Try.pinned (OpenSpec.ofChange codecNumbersSpec)

/-- ITS FALSE NEIGHBOUR: 'it returns false'. Refute it at one input. -/
def codecNumbersWrong : ChangeSpec := { name := "codecNumbers", fn := fun _ => fun
  | [] => { results := [.lit (.bool false)], args := [] }
  | _ => none }
def CodecNumbersWrongFalsely : Prop := codecNumbersRow.holds Try.pinned (OpenSpec.ofChange codecNumbersWrong)

/-- 'clavigerlaw6.CodecTells': WHATEVER THE INPUT: true; the input reads as it did. -/
def codecTellsSpec : ChangeSpec := { name := "codecTells", fn := fun _ => fun
  | [d1, d2, d3, d4, d5, d6, d7, d8] => { results := [.lit (.bool true)], args := [d1, d2, d3, d4, d5, d6, d7, d8] }
  | _ => none }
def codecTellsRow : OpenClaim := { program := "ytehinkckdeodhaa", sum := "ec0d5ee3ac602cca36bb37c3e099207e12b1245c1c2b5302a1c92beaa6b3f7be", func := "claviger/clavigerlaw6.CodecTells", spec := "codecTells", inPlace := ["internal/bytealg.Compare"], apart := false }
def CodecTellsSaid : Prop := codecTellsRow.holds Try.pinned (OpenSpec.ofChange codecTellsSpec)

/-- ITS FALSE NEIGHBOUR: 'it returns false'. Refute it at one input. -/
def codecTellsWrong : ChangeSpec := { name := "codecTells", fn := fun _ => fun
  | [d1, d2, d3, d4, d5, d6, d7, d8] => { results := [.lit (.bool false)], args := [d1, d2, d3, d4, d5, d6, d7, d8] }
  | _ => none }
def CodecTellsWrongFalsely : Prop := codecTellsRow.holds Try.pinned (OpenSpec.ofChange codecTellsWrong)

/-- 'clavigerlaw9.FrameLengths': WHATEVER THE INPUT: true; the input reads as it did. -/
def frameLengthsSpec : ChangeSpec := { name := "frameLengths", fn := fun _ => fun
  | [d1, d2, d3, d4, d5, d6, d7, d8] => { results := [.lit (.bool true)], args := [d1, d2, d3, d4, d5, d6, d7, d8] }
  | _ => none }
def frameLengthsRow : OpenClaim := { program := "ytehinkckdeodhaa", sum := "ec0d5ee3ac602cca36bb37c3e099207e12b1245c1c2b5302a1c92beaa6b3f7be", func := "claviger/clavigerlaw9.FrameLengths", spec := "frameLengths", inPlace := ["internal/bytealg.Compare"], apart := false }
def FrameLengthsSaid : Prop := frameLengthsRow.holds Try.pinned (OpenSpec.ofChange frameLengthsSpec)

/-- ITS FALSE NEIGHBOUR: 'it returns false'. Refute it at one input. -/
def frameLengthsWrong : ChangeSpec := { name := "frameLengths", fn := fun _ => fun
  | [d1, d2, d3, d4, d5, d6, d7, d8] => { results := [.lit (.bool false)], args := [d1, d2, d3, d4, d5, d6, d7, d8] }
  | _ => none }
def FrameLengthsWrongFalsely : Prop := frameLengthsRow.holds Try.pinned (OpenSpec.ofChange frameLengthsWrong)

/-- 'clavigerlaw9.FrameNumbers': WHATEVER THE INPUT: true; the input reads as it did. -/
def frameNumbersSpec : ChangeSpec := { name := "frameNumbers", fn := fun _ => fun
  | [] => { results := [.lit (.bool true)], args := [] }
  | _ => none }
def frameNumbersRow : OpenClaim := { program := "ytehinkckdeodhaa", sum := "ec0d5ee3ac602cca36bb37c3e099207e12b1245c1c2b5302a1c92beaa6b3f7be", func := "claviger/clavigerlaw9.FrameNumbers", spec := "frameNumbers", inPlace := ["internal/bytealg.Compare"], apart := false }
def FrameNumbersSaid : Prop := frameNumbersRow.holds Try.pinned (OpenSpec.ofChange frameNumbersSpec)

/-- ITS FALSE NEIGHBOUR: 'it returns false'. Refute it at one input. -/
def frameNumbersWrong : ChangeSpec := { name := "frameNumbers", fn := fun _ => fun
  | [] => { results := [.lit (.bool false)], args := [] }
  | _ => none }
def FrameNumbersWrongFalsely : Prop := frameNumbersRow.holds Try.pinned (OpenSpec.ofChange frameNumbersWrong)

/-- 'clavigerlaw9.FrameTells': WHATEVER THE INPUT: true; the input reads as it did. -/
def frameTellsSpec : ChangeSpec := { name := "frameTells", fn := fun _ => fun
  | [d1, d2, d3, d4, d5, d6, d7, d8, d9] => { results := [.lit (.bool true)], args := [d1, d2, d3, d4, d5, d6, d7, d8, d9] }
  | _ => none }
def frameTellsRow : OpenClaim := { program := "ytehinkckdeodhaa", sum := "ec0d5ee3ac602cca36bb37c3e099207e12b1245c1c2b5302a1c92beaa6b3f7be", func := "claviger/clavigerlaw9.FrameTells", spec := "frameTells", inPlace := ["internal/bytealg.Compare"], apart := false }
def FrameTellsSaid : Prop := frameTellsRow.holds Try.pinned (OpenSpec.ofChange frameTellsSpec)

/-- ITS FALSE NEIGHBOUR: 'it returns false'. Refute it at one input. -/
def frameTellsWrong : ChangeSpec := { name := "frameTells", fn := fun _ => fun
  | [d1, d2, d3, d4, d5, d6, d7, d8, d9] => { results := [.lit (.bool false)], args := [d1, d2, d3, d4, d5, d6, d7, d8, d9] }
  | _ => none }
def FrameTellsWrongFalsely : Prop := frameTellsRow.holds Try.pinned (OpenSpec.ofChange frameTellsWrong)

/-- 'clavigerlaw9.FrameChain': WHATEVER THE INPUT: true; the input reads as it did. -/
def frameChainSpec : ChangeSpec := { name := "frameChain", fn := fun _ => fun
  | [d1, d2] => { results := [.lit (.bool true)], args := [d1, d2] }
  | _ => none }
def frameChainRow : OpenClaim := { program := "ytehinkckdeodhaa", sum := "ec0d5ee3ac602cca36bb37c3e099207e12b1245c1c2b5302a1c92beaa6b3f7be", func := "claviger/clavigerlaw9.FrameChain", spec := "frameChain", inPlace := ["internal/bytealg.Compare"], apart := false }
def FrameChainSaid : Prop := frameChainRow.holds Try.pinned (OpenSpec.ofChange frameChainSpec)

/-- ITS FALSE NEIGHBOUR: 'it returns false'. Refute it at one input. -/
def frameChainWrong : ChangeSpec := { name := "frameChain", fn := fun _ => fun
  | [d1, d2] => { results := [.lit (.bool false)], args := [d1, d2] }
  | _ => none }
def FrameChainWrongFalsely : Prop := frameChainRow.holds Try.pinned (OpenSpec.ofChange frameChainWrong)

/- THE SECOND FORM. 'bulk': how many values and letters a reading holds, each counted each time it is reached (what is shared counts as often as it is met; a slice's spare places count too). A statement '..UptoSaid' is the law's where the arguments, and the package variables that the reading takes, are together of bulk at most 1048576: NARROWER than '..Said'. Prove '..Said' where nothing that the law and all that it calls make is longer than what came in: it says more and counts as full. Else prove '..UptoSaid'. A law counts once. -/
mutual
def uptoBulk {H : Type} : DataW H → Nat
  | .lit (.string bytes) => bytes.length + 1
  | .lit _ => 1
  | .nil => 1
  | .ptr d => uptoBulk d + 1
  | .slice elems spare => uptoBulkAll elems + uptoBulkAll spare + 1
  | .agg parts => uptoBulkAll parts + 1
  | .iface _ d => uptoBulk d + 1
  | .map entries => uptoBulkEntries entries + 1
  | .held _ => 1
def uptoBulkAll {H : Type} : List (DataW H) → Nat
  | [] => 0
  | d :: r => uptoBulk d + uptoBulkAll r
def uptoBulkEntries {H : Type} : List (Lit × DataW H) → Nat
  | [] => 0
  | x :: r => uptoBulkEntry x + uptoBulkEntries r
def uptoBulkEntry {H : Type} : Lit × DataW H → Nat
  | (.string bytes, d) => bytes.length + uptoBulk d + 1
  | (_, d) => uptoBulk d + 1
 end
def uptoSmall : (H : Type) → List (DataW H) → Bool := fun _ ds => decide (uptoBulkAll ds ≤ 1048576)
def OpenSpec.upto (s : _root_.Go.ChangeSpec) : _root_.Go.OpenSpec := { _root_.Go.OpenSpec.ofChange s with cond := some uptoSmall }

/-- 'clavigerlaw3.StretchNumbers', WHERE WHAT IT READS IS OF BULK AT MOST 1048576: true; the input reads as it did. -/
def stretchNumbersUptoRow : OpenClaim := { program := "ytehinkckdeodhaa", sum := "ec0d5ee3ac602cca36bb37c3e099207e12b1245c1c2b5302a1c92beaa6b3f7be", func := "claviger/clavigerlaw3.StretchNumbers", spec := "stretchNumbers", apart := false, narrowed := true }
def StretchNumbersUptoSaid : Prop := stretchNumbersUptoRow.holds Try.pinned (OpenSpec.upto stretchNumbersSpec)

/-- 'clavigerlaw3.StretchTells', WHERE WHAT IT READS IS OF BULK AT MOST 1048576: true; the input reads as it did. -/
def stretchTellsUptoRow : OpenClaim := { program := "ytehinkckdeodhaa", sum := "ec0d5ee3ac602cca36bb37c3e099207e12b1245c1c2b5302a1c92beaa6b3f7be", func := "claviger/clavigerlaw3.StretchTells", spec := "stretchTells", apart := false, narrowed := true }
def StretchTellsUptoSaid : Prop := stretchTellsUptoRow.holds Try.pinned (OpenSpec.upto stretchTellsSpec)

/-- 'clavigerlaw3.StretchRounds', WHERE WHAT IT READS IS OF BULK AT MOST 1048576: true; the input reads as it did. -/
def stretchRoundsUptoRow : OpenClaim := { program := "ytehinkckdeodhaa", sum := "ec0d5ee3ac602cca36bb37c3e099207e12b1245c1c2b5302a1c92beaa6b3f7be", func := "claviger/clavigerlaw3.StretchRounds", spec := "stretchRounds", apart := false, narrowed := true }
def StretchRoundsUptoSaid : Prop := stretchRoundsUptoRow.holds Try.pinned (OpenSpec.upto stretchRoundsSpec)

/-- 'clavigerlaw3.StretchScripts', WHERE WHAT IT READS IS OF BULK AT MOST 1048576: true; the input reads as it did. -/
def stretchScriptsUptoRow : OpenClaim := { program := "ytehinkckdeodhaa", sum := "ec0d5ee3ac602cca36bb37c3e099207e12b1245c1c2b5302a1c92beaa6b3f7be", func := "claviger/clavigerlaw3.StretchScripts", spec := "stretchScripts", apart := false, narrowed := true }
def StretchScriptsUptoSaid : Prop := stretchScriptsUptoRow.holds Try.pinned (OpenSpec.upto stretchScriptsSpec)

/-- 'clavigerlaw4.VeilNumbers', WHERE WHAT IT READS IS OF BULK AT MOST 1048576: true; the input reads as it did. -/
def veilNumbersUptoRow : OpenClaim := { program := "ytehinkckdeodhaa", sum := "ec0d5ee3ac602cca36bb37c3e099207e12b1245c1c2b5302a1c92beaa6b3f7be", func := "claviger/clavigerlaw4.VeilNumbers", spec := "veilNumbers", apart := false, narrowed := true }
def VeilNumbersUptoSaid : Prop := veilNumbersUptoRow.holds Try.pinned (OpenSpec.upto veilNumbersSpec)

/-- 'clavigerlaw4.VeilTells', WHERE WHAT IT READS IS OF BULK AT MOST 1048576: true; the input reads as it did. -/
def veilTellsUptoRow : OpenClaim := { program := "ytehinkckdeodhaa", sum := "ec0d5ee3ac602cca36bb37c3e099207e12b1245c1c2b5302a1c92beaa6b3f7be", func := "claviger/clavigerlaw4.VeilTells", spec := "veilTells", apart := false, narrowed := true }
def VeilTellsUptoSaid : Prop := veilTellsUptoRow.holds Try.pinned (OpenSpec.upto veilTellsSpec)

/-- 'clavigerlaw4.VeilBack', WHERE WHAT IT READS IS OF BULK AT MOST 1048576: true; the input reads as it did. -/
def veilBackUptoRow : OpenClaim := { program := "ytehinkckdeodhaa", sum := "ec0d5ee3ac602cca36bb37c3e099207e12b1245c1c2b5302a1c92beaa6b3f7be", func := "claviger/clavigerlaw4.VeilBack", spec := "veilBack", apart := false, narrowed := true }
def VeilBackUptoSaid : Prop := veilBackUptoRow.holds Try.pinned (OpenSpec.upto veilBackSpec)

/-- 'clavigerlaw4.VeilTurns', WHERE WHAT IT READS IS OF BULK AT MOST 1048576: true; the input reads as it did. -/
def veilTurnsUptoRow : OpenClaim := { program := "ytehinkckdeodhaa", sum := "ec0d5ee3ac602cca36bb37c3e099207e12b1245c1c2b5302a1c92beaa6b3f7be", func := "claviger/clavigerlaw4.VeilTurns", spec := "veilTurns", apart := false, narrowed := true }
def VeilTurnsUptoSaid : Prop := veilTurnsUptoRow.holds Try.pinned (OpenSpec.upto veilTurnsSpec)

/-- 'clavigerlaw6.CodecLengths', WHERE WHAT IT READS IS OF BULK AT MOST 1048576: true; the input reads as it did. -/
def codecLengthsUptoRow : OpenClaim := { program := "ytehinkckdeodhaa", sum := "ec0d5ee3ac602cca36bb37c3e099207e12b1245c1c2b5302a1c92beaa6b3f7be", func := "claviger/clavigerlaw6.CodecLengths", spec := "codecLengths", apart := false, narrowed := true }
def CodecLengthsUptoSaid : Prop := codecLengthsUptoRow.holds Try.pinned (OpenSpec.upto codecLengthsSpec)

/-- 'clavigerlaw15.EndorseNumbers', WHERE WHAT IT READS IS OF BULK AT MOST 1048576: true; the input reads as it did. -/
def endorseNumbersUptoRow : OpenClaim := { program := "ytehinkckdeodhaa", sum := "ec0d5ee3ac602cca36bb37c3e099207e12b1245c1c2b5302a1c92beaa6b3f7be", func := "claviger/clavigerlaw15.EndorseNumbers", spec := "endorseNumbers", apart := false, narrowed := true }
def EndorseNumbersUptoSaid : Prop := endorseNumbersUptoRow.holds Try.pinned (OpenSpec.upto endorseNumbersSpec)

/-- 'clavigerlaw15.EndorseTells', WHERE WHAT IT READS IS OF BULK AT MOST 1048576: true; the input reads as it did. -/
def endorseTellsUptoRow : OpenClaim := { program := "ytehinkckdeodhaa", sum := "ec0d5ee3ac602cca36bb37c3e099207e12b1245c1c2b5302a1c92beaa6b3f7be", func := "claviger/clavigerlaw15.EndorseTells", spec := "endorseTells", apart := false, narrowed := true }
def EndorseTellsUptoSaid : Prop := endorseTellsUptoRow.holds Try.pinned (OpenSpec.upto endorseTellsSpec)

/-- 'clavigerlaw5.EnvelopeNumbers', WHERE WHAT IT READS IS OF BULK AT MOST 1048576: true; the input reads as it did. -/
def envelopeNumbersUptoRow : OpenClaim := { program := "ytehinkckdeodhaa", sum := "ec0d5ee3ac602cca36bb37c3e099207e12b1245c1c2b5302a1c92beaa6b3f7be", func := "claviger/clavigerlaw5.EnvelopeNumbers", spec := "envelopeNumbers", apart := false, narrowed := true }
def EnvelopeNumbersUptoSaid : Prop := envelopeNumbersUptoRow.holds Try.pinned (OpenSpec.upto envelopeNumbersSpec)

/-- 'clavigerlaw5.EnvelopeTells', WHERE WHAT IT READS IS OF BULK AT MOST 1048576: true; the input reads as it did. -/
def envelopeTellsUptoRow : OpenClaim := { program := "ytehinkckdeodhaa", sum := "ec0d5ee3ac602cca36bb37c3e099207e12b1245c1c2b5302a1c92beaa6b3f7be", func := "claviger/clavigerlaw5.EnvelopeTells", spec := "envelopeTells", apart := false, narrowed := true }
def EnvelopeTellsUptoSaid : Prop := envelopeTellsUptoRow.holds Try.pinned (OpenSpec.upto envelopeTellsSpec)

/-- 'clavigerlaw5.EnvelopeBack', WHERE WHAT IT READS IS OF BULK AT MOST 1048576: true; the input reads as it did. -/
def envelopeBackUptoRow : OpenClaim := { program := "ytehinkckdeodhaa", sum := "ec0d5ee3ac602cca36bb37c3e099207e12b1245c1c2b5302a1c92beaa6b3f7be", func := "claviger/clavigerlaw5.EnvelopeBack", spec := "envelopeBack", apart := false, narrowed := true }
def EnvelopeBackUptoSaid : Prop := envelopeBackUptoRow.holds Try.pinned (OpenSpec.upto envelopeBackSpec)

/-- 'clavigerlaw5.EnvelopeSeeds', WHERE WHAT IT READS IS OF BULK AT MOST 1048576: true; the input reads as it did. -/
def envelopeSeedsUptoRow : OpenClaim := { program := "ytehinkckdeodhaa", sum := "ec0d5ee3ac602cca36bb37c3e099207e12b1245c1c2b5302a1c92beaa6b3f7be", func := "claviger/clavigerlaw5.EnvelopeSeeds", spec := "envelopeSeeds", apart := false, narrowed := true }
def EnvelopeSeedsUptoSaid : Prop := envelopeSeedsUptoRow.holds Try.pinned (OpenSpec.upto envelopeSeedsSpec)

/-- 'clavigerlaw6.CodecReads', WHERE WHAT IT READS IS OF BULK AT MOST 1048576: true; the input reads as it did. -/
def codecReadsUptoRow : OpenClaim := { program := "ytehinkckdeodhaa", sum := "ec0d5ee3ac602cca36bb37c3e099207e12b1245c1c2b5302a1c92beaa6b3f7be", func := "claviger/clavigerlaw6.CodecReads", spec := "codecReads", inPlace := ["internal/bytealg.Compare"], apart := false, narrowed := true }
def CodecReadsUptoSaid : Prop := codecReadsUptoRow.holds Try.pinned (OpenSpec.upto codecReadsSpec)

/-- 'clavigerlaw6.CodecBack', WHERE WHAT IT READS IS OF BULK AT MOST 1048576: true; the input reads as it did. -/
def codecBackUptoRow : OpenClaim := { program := "ytehinkckdeodhaa", sum := "ec0d5ee3ac602cca36bb37c3e099207e12b1245c1c2b5302a1c92beaa6b3f7be", func := "claviger/clavigerlaw6.CodecBack", spec := "codecBack", inPlace := ["internal/bytealg.Compare"], apart := false, narrowed := true }
def CodecBackUptoSaid : Prop := codecBackUptoRow.holds Try.pinned (OpenSpec.upto codecBackSpec)

/-- 'clavigerlaw6.CodecNumbers', WHERE WHAT IT READS IS OF BULK AT MOST 1048576: true; the input reads as it did. -/
def codecNumbersUptoRow : OpenClaim := { program := "ytehinkckdeodhaa", sum := "ec0d5ee3ac602cca36bb37c3e099207e12b1245c1c2b5302a1c92beaa6b3f7be", func := "claviger/clavigerlaw6.CodecNumbers", spec := "codecNumbers", inPlace := ["internal/bytealg.Compare"], apart := false, narrowed := true }
def CodecNumbersUptoSaid : Prop := codecNumbersUptoRow.holds Try.pinned (OpenSpec.upto codecNumbersSpec)

/-- 'clavigerlaw6.CodecTells', WHERE WHAT IT READS IS OF BULK AT MOST 1048576: true; the input reads as it did. -/
def codecTellsUptoRow : OpenClaim := { program := "ytehinkckdeodhaa", sum := "ec0d5ee3ac602cca36bb37c3e099207e12b1245c1c2b5302a1c92beaa6b3f7be", func := "claviger/clavigerlaw6.CodecTells", spec := "codecTells", inPlace := ["internal/bytealg.Compare"], apart := false, narrowed := true }
def CodecTellsUptoSaid : Prop := codecTellsUptoRow.holds Try.pinned (OpenSpec.upto codecTellsSpec)

/-- 'clavigerlaw9.FrameLengths', WHERE WHAT IT READS IS OF BULK AT MOST 1048576: true; the input reads as it did. -/
def frameLengthsUptoRow : OpenClaim := { program := "ytehinkckdeodhaa", sum := "ec0d5ee3ac602cca36bb37c3e099207e12b1245c1c2b5302a1c92beaa6b3f7be", func := "claviger/clavigerlaw9.FrameLengths", spec := "frameLengths", inPlace := ["internal/bytealg.Compare"], apart := false, narrowed := true }
def FrameLengthsUptoSaid : Prop := frameLengthsUptoRow.holds Try.pinned (OpenSpec.upto frameLengthsSpec)

/-- 'clavigerlaw9.FrameNumbers', WHERE WHAT IT READS IS OF BULK AT MOST 1048576: true; the input reads as it did. -/
def frameNumbersUptoRow : OpenClaim := { program := "ytehinkckdeodhaa", sum := "ec0d5ee3ac602cca36bb37c3e099207e12b1245c1c2b5302a1c92beaa6b3f7be", func := "claviger/clavigerlaw9.FrameNumbers", spec := "frameNumbers", inPlace := ["internal/bytealg.Compare"], apart := false, narrowed := true }
def FrameNumbersUptoSaid : Prop := frameNumbersUptoRow.holds Try.pinned (OpenSpec.upto frameNumbersSpec)

/-- 'clavigerlaw9.FrameTells', WHERE WHAT IT READS IS OF BULK AT MOST 1048576: true; the input reads as it did. -/
def frameTellsUptoRow : OpenClaim := { program := "ytehinkckdeodhaa", sum := "ec0d5ee3ac602cca36bb37c3e099207e12b1245c1c2b5302a1c92beaa6b3f7be", func := "claviger/clavigerlaw9.FrameTells", spec := "frameTells", inPlace := ["internal/bytealg.Compare"], apart := false, narrowed := true }
def FrameTellsUptoSaid : Prop := frameTellsUptoRow.holds Try.pinned (OpenSpec.upto frameTellsSpec)

/-- 'clavigerlaw9.FrameChain', WHERE WHAT IT READS IS OF BULK AT MOST 1048576: true; the input reads as it did. -/
def frameChainUptoRow : OpenClaim := { program := "ytehinkckdeodhaa", sum := "ec0d5ee3ac602cca36bb37c3e099207e12b1245c1c2b5302a1c92beaa6b3f7be", func := "claviger/clavigerlaw9.FrameChain", spec := "frameChain", inPlace := ["internal/bytealg.Compare"], apart := false, narrowed := true }
def FrameChainUptoSaid : Prop := frameChainUptoRow.holds Try.pinned (OpenSpec.upto frameChainSpec)

end Rows
end Go.Proofs.Ytehinkckdeodhaa
