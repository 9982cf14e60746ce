/-
  No cell of these rows narrows 'for every input' (looked for: loops, veiled, ifaces, maps, wideKeys, modest, calm, conditions, laid).
  DERIVED. THE GIVEN ROWS OF THIS SEAT. 13 by the template 'for every input the law returns true; each argument reads behind the call as it read before'; 0 by the template 'total and deterministic' (their statements: YtlahigboaeadmaaTotals.lean).
  GIVEN WITH THE SEED: the statements are not yours to turn. If you find one false, say at which input.
  Laid BY PROGRAM, IN A SANDBOX (cutbox-rows.mjs): the forced cells as the released guide's own fill.sh prints them over the translation 45d3e41938d1b8d5… (all of the seat's roots in one cut). By AI agents, Wed Nov 11 2026. No macro, syntax, notation, axiom, sorry.
-/
import Derived.Test.YtlahigboaeadmaaChecked
import GoSem.Claim
import GoSem.ClaimJoined
import GoSem.ClaimMapViews
import Derived.JoinedTies
import Derived.KernelRfl
namespace Go.Proofs.Ytlahigboaeadmaa
/- THE CELL 'sum', in the pinned program and in every row, IS THE sha256 OF THE DUMP (.gsa) THAT YtlahigboaeadmaaProg.lean LOADS. Nothing in Lean hashes anything: it is a label: what it is worth is what the hold of that sum in a sandbox is worth. -/
noncomputable def Try.pinned : Pinned := { name := "ytlahigboaeadmaa", sum := "45d3e41938d1b8d56654495dc3b0828fd23afb71826e970cf4bf25f8f45a1b21", checked := Try.checked }
namespace Rows
def none {H : Type} : Left H := { results := [], args := [] }

/-- 'clavigerlaw13.ShardHomes': WHATEVER THE INPUT: true; the input reads as it did. -/
def shardHomesSpec : ChangeSpec := { name := "shardHomes", fn := fun _ => fun
  | [d] => { results := [.lit (.bool true)], args := [d] }
  | _ => none }
def shardHomesRow : OpenClaim := { program := "ytlahigboaeadmaa", sum := "45d3e41938d1b8d56654495dc3b0828fd23afb71826e970cf4bf25f8f45a1b21", func := "claviger/clavigerlaw13.ShardHomes", spec := "shardHomes", apart := false }
def ShardHomesSaid : Prop := shardHomesRow.holds Try.pinned (OpenSpec.ofChange shardHomesSpec)

/-- ITS FALSE NEIGHBOUR: 'it returns false'. Refute it at one input. -/
def shardHomesWrong : ChangeSpec := { name := "shardHomes", fn := fun _ => fun
  | [d] => { results := [.lit (.bool false)], args := [d] }
  | _ => none }
def ShardHomesWrongFalsely : Prop := shardHomesRow.holds Try.pinned (OpenSpec.ofChange shardHomesWrong)

/-- 'clavigerlaw13.ShardMembers': WHATEVER THE INPUT: true; the input reads as it did. -/
def shardMembersSpec : ChangeSpec := { name := "shardMembers", fn := fun _ => fun
  | [d1, d2] => { results := [.lit (.bool true)], args := [d1, d2] }
  | _ => none }
def shardMembersRow : OpenClaim := { program := "ytlahigboaeadmaa", sum := "45d3e41938d1b8d56654495dc3b0828fd23afb71826e970cf4bf25f8f45a1b21", func := "claviger/clavigerlaw13.ShardMembers", spec := "shardMembers", apart := false }
def ShardMembersSaid : Prop := shardMembersRow.holds Try.pinned (OpenSpec.ofChange shardMembersSpec)

/-- ITS FALSE NEIGHBOUR: 'it returns false'. Refute it at one input. -/
def shardMembersWrong : ChangeSpec := { name := "shardMembers", fn := fun _ => fun
  | [d1, d2] => { results := [.lit (.bool false)], args := [d1, d2] }
  | _ => none }
def ShardMembersWrongFalsely : Prop := shardMembersRow.holds Try.pinned (OpenSpec.ofChange shardMembersWrong)

/-- 'clavigerlaw8.RegisterFolds': WHATEVER THE INPUT: true; the input reads as it did. -/
def registerFoldsSpec : ChangeSpec := { name := "registerFolds", fn := fun _ => fun
  | [d1, d2] => { results := [.lit (.bool true)], args := [d1, d2] }
  | _ => none }
def registerFoldsRow : OpenClaim := { program := "ytlahigboaeadmaa", sum := "45d3e41938d1b8d56654495dc3b0828fd23afb71826e970cf4bf25f8f45a1b21", func := "claviger/clavigerlaw8.RegisterFolds", spec := "registerFolds", apart := false }
def RegisterFoldsSaid : Prop := registerFoldsRow.holds Try.pinned (OpenSpec.ofChange registerFoldsSpec)

/-- ITS FALSE NEIGHBOUR: 'it returns false'. Refute it at one input. -/
def registerFoldsWrong : ChangeSpec := { name := "registerFolds", fn := fun _ => fun
  | [d1, d2] => { results := [.lit (.bool false)], args := [d1, d2] }
  | _ => none }
def RegisterFoldsWrongFalsely : Prop := registerFoldsRow.holds Try.pinned (OpenSpec.ofChange registerFoldsWrong)

/-- 'clavigerlaw8.RegisterNumbers': WHATEVER THE INPUT: true; the input reads as it did. -/
def registerNumbersSpec : ChangeSpec := { name := "registerNumbers", fn := fun _ => fun
  | [] => { results := [.lit (.bool true)], args := [] }
  | _ => none }
def registerNumbersRow : OpenClaim := { program := "ytlahigboaeadmaa", sum := "45d3e41938d1b8d56654495dc3b0828fd23afb71826e970cf4bf25f8f45a1b21", func := "claviger/clavigerlaw8.RegisterNumbers", spec := "registerNumbers", apart := false }
def RegisterNumbersSaid : Prop := registerNumbersRow.holds Try.pinned (OpenSpec.ofChange registerNumbersSpec)

/-- ITS FALSE NEIGHBOUR: 'it returns false'. Refute it at one input. -/
def registerNumbersWrong : ChangeSpec := { name := "registerNumbers", fn := fun _ => fun
  | [] => { results := [.lit (.bool false)], args := [] }
  | _ => none }
def RegisterNumbersWrongFalsely : Prop := registerNumbersRow.holds Try.pinned (OpenSpec.ofChange registerNumbersWrong)

/-- 'clavigerlaw8.RegisterTells': WHATEVER THE INPUT: true; the input reads as it did. -/
def registerTellsSpec : ChangeSpec := { name := "registerTells", fn := fun _ => fun
  | [d1, d2, d3, d4] => { results := [.lit (.bool true)], args := [d1, d2, d3, d4] }
  | _ => none }
def registerTellsRow : OpenClaim := { program := "ytlahigboaeadmaa", sum := "45d3e41938d1b8d56654495dc3b0828fd23afb71826e970cf4bf25f8f45a1b21", func := "claviger/clavigerlaw8.RegisterTells", spec := "registerTells", apart := false }
def RegisterTellsSaid : Prop := registerTellsRow.holds Try.pinned (OpenSpec.ofChange registerTellsSpec)

/-- ITS FALSE NEIGHBOUR: 'it returns false'. Refute it at one input. -/
def registerTellsWrong : ChangeSpec := { name := "registerTells", fn := fun _ => fun
  | [d1, d2, d3, d4] => { results := [.lit (.bool false)], args := [d1, d2, d3, d4] }
  | _ => none }
def RegisterTellsWrongFalsely : Prop := registerTellsRow.holds Try.pinned (OpenSpec.ofChange registerTellsWrong)

/-- 'clavigerlaw8.RegisterOnward': WHATEVER THE INPUT: true; the input reads as it did. -/
def registerOnwardSpec : ChangeSpec := { name := "registerOnward", fn := fun _ => fun
  | [d1, d2] => { results := [.lit (.bool true)], args := [d1, d2] }
  | _ => none }
def registerOnwardRow : OpenClaim := { program := "ytlahigboaeadmaa", sum := "45d3e41938d1b8d56654495dc3b0828fd23afb71826e970cf4bf25f8f45a1b21", func := "claviger/clavigerlaw8.RegisterOnward", spec := "registerOnward", apart := false }
def RegisterOnwardSaid : Prop := registerOnwardRow.holds Try.pinned (OpenSpec.ofChange registerOnwardSpec)

/-- ITS FALSE NEIGHBOUR: 'it returns false'. Refute it at one input. -/
def registerOnwardWrong : ChangeSpec := { name := "registerOnward", fn := fun _ => fun
  | [d1, d2] => { results := [.lit (.bool false)], args := [d1, d2] }
  | _ => none }
def RegisterOnwardWrongFalsely : Prop := registerOnwardRow.holds Try.pinned (OpenSpec.ofChange registerOnwardWrong)

/-- 'clavigerlaw13.ShardNumbers': WHATEVER THE INPUT: true; the input reads as it did. -/
def shardNumbersSpec : ChangeSpec := { name := "shardNumbers", fn := fun _ => fun
  | [] => { results := [.lit (.bool true)], args := [] }
  | _ => none }
def shardNumbersRow : OpenClaim := { program := "ytlahigboaeadmaa", sum := "45d3e41938d1b8d56654495dc3b0828fd23afb71826e970cf4bf25f8f45a1b21", func := "claviger/clavigerlaw13.ShardNumbers", spec := "shardNumbers", apart := false }
def ShardNumbersSaid : Prop := shardNumbersRow.holds Try.pinned (OpenSpec.ofChange shardNumbersSpec)

/-- ITS FALSE NEIGHBOUR: 'it returns false'. Refute it at one input. -/
def shardNumbersWrong : ChangeSpec := { name := "shardNumbers", fn := fun _ => fun
  | [] => { results := [.lit (.bool false)], args := [] }
  | _ => none }
def ShardNumbersWrongFalsely : Prop := shardNumbersRow.holds Try.pinned (OpenSpec.ofChange shardNumbersWrong)

/-- 'clavigerlaw13.ShardTells': WHATEVER THE INPUT: true; the input reads as it did. -/
def shardTellsSpec : ChangeSpec := { name := "shardTells", fn := fun _ => fun
  | [d1, d2, d3] => { results := [.lit (.bool true)], args := [d1, d2, d3] }
  | _ => none }
def shardTellsRow : OpenClaim := { program := "ytlahigboaeadmaa", sum := "45d3e41938d1b8d56654495dc3b0828fd23afb71826e970cf4bf25f8f45a1b21", func := "claviger/clavigerlaw13.ShardTells", spec := "shardTells", apart := false }
def ShardTellsSaid : Prop := shardTellsRow.holds Try.pinned (OpenSpec.ofChange shardTellsSpec)

/-- ITS FALSE NEIGHBOUR: 'it returns false'. Refute it at one input. -/
def shardTellsWrong : ChangeSpec := { name := "shardTells", fn := fun _ => fun
  | [d1, d2, d3] => { results := [.lit (.bool false)], args := [d1, d2, d3] }
  | _ => none }
def ShardTellsWrongFalsely : Prop := shardTellsRow.holds Try.pinned (OpenSpec.ofChange shardTellsWrong)

/-- 'clavigerlaw2.BlendNumbers': WHATEVER THE INPUT: true; the input reads as it did. -/
def blendNumbersSpec : ChangeSpec := { name := "blendNumbers", fn := fun _ => fun
  | [] => { results := [.lit (.bool true)], args := [] }
  | _ => none }
def blendNumbersRow : OpenClaim := { program := "ytlahigboaeadmaa", sum := "45d3e41938d1b8d56654495dc3b0828fd23afb71826e970cf4bf25f8f45a1b21", func := "claviger/clavigerlaw2.BlendNumbers", spec := "blendNumbers", apart := false }
def BlendNumbersSaid : Prop := blendNumbersRow.holds Try.pinned (OpenSpec.ofChange blendNumbersSpec)

/-- ITS FALSE NEIGHBOUR: 'it returns false'. Refute it at one input. -/
def blendNumbersWrong : ChangeSpec := { name := "blendNumbers", fn := fun _ => fun
  | [] => { results := [.lit (.bool false)], args := [] }
  | _ => none }
def BlendNumbersWrongFalsely : Prop := blendNumbersRow.holds Try.pinned (OpenSpec.ofChange blendNumbersWrong)

/-- 'clavigerlaw2.BlendTells': WHATEVER THE INPUT: true; the input reads as it did. -/
def blendTellsSpec : ChangeSpec := { name := "blendTells", fn := fun _ => fun
  | [d1, d2, d3, d4, d5, d6] => { results := [.lit (.bool true)], args := [d1, d2, d3, d4, d5, d6] }
  | _ => none }
def blendTellsRow : OpenClaim := { program := "ytlahigboaeadmaa", sum := "45d3e41938d1b8d56654495dc3b0828fd23afb71826e970cf4bf25f8f45a1b21", func := "claviger/clavigerlaw2.BlendTells", spec := "blendTells", apart := false }
def BlendTellsSaid : Prop := blendTellsRow.holds Try.pinned (OpenSpec.ofChange blendTellsSpec)

/-- ITS FALSE NEIGHBOUR: 'it returns false'. Refute it at one input. -/
def blendTellsWrong : ChangeSpec := { name := "blendTells", fn := fun _ => fun
  | [d1, d2, d3, d4, d5, d6] => { results := [.lit (.bool false)], args := [d1, d2, d3, d4, d5, d6] }
  | _ => none }
def BlendTellsWrongFalsely : Prop := blendTellsRow.holds Try.pinned (OpenSpec.ofChange blendTellsWrong)

/-- 'clavigerlaw2.BlendStreams': WHATEVER THE INPUT: true; the input reads as it did. -/
def blendStreamsSpec : ChangeSpec := { name := "blendStreams", fn := fun _ => fun
  | [d1, d2, d3, d4] => { results := [.lit (.bool true)], args := [d1, d2, d3, d4] }
  | _ => none }
def blendStreamsRow : OpenClaim := { program := "ytlahigboaeadmaa", sum := "45d3e41938d1b8d56654495dc3b0828fd23afb71826e970cf4bf25f8f45a1b21", func := "claviger/clavigerlaw2.BlendStreams", spec := "blendStreams", apart := false }
def BlendStreamsSaid : Prop := blendStreamsRow.holds Try.pinned (OpenSpec.ofChange blendStreamsSpec)

/-- ITS FALSE NEIGHBOUR: 'it returns false'. Refute it at one input. -/
def blendStreamsWrong : ChangeSpec := { name := "blendStreams", fn := fun _ => fun
  | [d1, d2, d3, d4] => { results := [.lit (.bool false)], args := [d1, d2, d3, d4] }
  | _ => none }
def BlendStreamsWrongFalsely : Prop := blendStreamsRow.holds Try.pinned (OpenSpec.ofChange blendStreamsWrong)

/-- 'clavigerlaw2.BlendParts': WHATEVER THE INPUT: true; the input reads as it did. -/
def blendPartsSpec : ChangeSpec := { name := "blendParts", fn := fun _ => fun
  | [d1, d2, d3, d4] => { results := [.lit (.bool true)], args := [d1, d2, d3, d4] }
  | _ => none }
def blendPartsRow : OpenClaim := { program := "ytlahigboaeadmaa", sum := "45d3e41938d1b8d56654495dc3b0828fd23afb71826e970cf4bf25f8f45a1b21", func := "claviger/clavigerlaw2.BlendParts", spec := "blendParts", apart := false }
def BlendPartsSaid : Prop := blendPartsRow.holds Try.pinned (OpenSpec.ofChange blendPartsSpec)

/-- ITS FALSE NEIGHBOUR: 'it returns false'. Refute it at one input. -/
def blendPartsWrong : ChangeSpec := { name := "blendParts", fn := fun _ => fun
  | [d1, d2, d3, d4] => { results := [.lit (.bool false)], args := [d1, d2, d3, d4] }
  | _ => none }
def BlendPartsWrongFalsely : Prop := blendPartsRow.holds Try.pinned (OpenSpec.ofChange blendPartsWrong)

/-- 'clavigerlaw2.BlendNumber': WHATEVER THE INPUT: true; the input reads as it did. -/
def blendNumberSpec : ChangeSpec := { name := "blendNumber", fn := fun _ => fun
  | [d1, d2] => { results := [.lit (.bool true)], args := [d1, d2] }
  | _ => none }
def blendNumberRow : OpenClaim := { program := "ytlahigboaeadmaa", sum := "45d3e41938d1b8d56654495dc3b0828fd23afb71826e970cf4bf25f8f45a1b21", func := "claviger/clavigerlaw2.BlendNumber", spec := "blendNumber", apart := false }
def BlendNumberSaid : Prop := blendNumberRow.holds Try.pinned (OpenSpec.ofChange blendNumberSpec)

/-- ITS FALSE NEIGHBOUR: 'it returns false'. Refute it at one input. -/
def blendNumberWrong : ChangeSpec := { name := "blendNumber", fn := fun _ => fun
  | [d1, d2] => { results := [.lit (.bool false)], args := [d1, d2] }
  | _ => none }
def BlendNumberWrongFalsely : Prop := blendNumberRow.holds Try.pinned (OpenSpec.ofChange blendNumberWrong)

/- THE SECOND FORM. 'bulk': how many values and letters a reading holds, each counted each time it is reached (what is shared counts as often as it is met; a slice's spare places count too). A statement '..UptoSaid' is the law's where the arguments, and the package variables that the reading takes, are together of bulk at most 1048576: NARROWER than '..Said'. Prove '..Said' where nothing that the law and all that it calls make is longer than what came in: it says more and counts as full. Else prove '..UptoSaid'. A law counts once. -/
mutual
def uptoBulk {H : Type} : DataW H → Nat
  | .lit (.string bytes) => bytes.length + 1
  | .lit _ => 1
  | .nil => 1
  | .ptr d => uptoBulk d + 1
  | .slice elems spare => uptoBulkAll elems + uptoBulkAll spare + 1
  | .agg parts => uptoBulkAll parts + 1
  | .iface _ d => uptoBulk d + 1
  | .map entries => uptoBulkEntries entries + 1
  | .held _ => 1
def uptoBulkAll {H : Type} : List (DataW H) → Nat
  | [] => 0
  | d :: r => uptoBulk d + uptoBulkAll r
def uptoBulkEntries {H : Type} : List (Lit × DataW H) → Nat
  | [] => 0
  | x :: r => uptoBulkEntry x + uptoBulkEntries r
def uptoBulkEntry {H : Type} : Lit × DataW H → Nat
  | (.string bytes, d) => bytes.length + uptoBulk d + 1
  | (_, d) => uptoBulk d + 1
 end
def uptoSmall : (H : Type) → List (DataW H) → Bool := fun _ ds => decide (uptoBulkAll ds ≤ 1048576)
def OpenSpec.upto (s : _root_.Go.ChangeSpec) : _root_.Go.OpenSpec := { _root_.Go.OpenSpec.ofChange s with cond := some uptoSmall }

/-- 'clavigerlaw13.ShardHomes', WHERE WHAT IT READS IS OF BULK AT MOST 1048576: true; the input reads as it did. -/
def shardHomesUptoRow : OpenClaim := { program := "ytlahigboaeadmaa", sum := "45d3e41938d1b8d56654495dc3b0828fd23afb71826e970cf4bf25f8f45a1b21", func := "claviger/clavigerlaw13.ShardHomes", spec := "shardHomes", apart := false, narrowed := true }
def ShardHomesUptoSaid : Prop := shardHomesUptoRow.holds Try.pinned (OpenSpec.upto shardHomesSpec)

/-- 'clavigerlaw13.ShardMembers', WHERE WHAT IT READS IS OF BULK AT MOST 1048576: true; the input reads as it did. -/
def shardMembersUptoRow : OpenClaim := { program := "ytlahigboaeadmaa", sum := "45d3e41938d1b8d56654495dc3b0828fd23afb71826e970cf4bf25f8f45a1b21", func := "claviger/clavigerlaw13.ShardMembers", spec := "shardMembers", apart := false, narrowed := true }
def ShardMembersUptoSaid : Prop := shardMembersUptoRow.holds Try.pinned (OpenSpec.upto shardMembersSpec)

/-- 'clavigerlaw8.RegisterFolds', WHERE WHAT IT READS IS OF BULK AT MOST 1048576: true; the input reads as it did. -/
def registerFoldsUptoRow : OpenClaim := { program := "ytlahigboaeadmaa", sum := "45d3e41938d1b8d56654495dc3b0828fd23afb71826e970cf4bf25f8f45a1b21", func := "claviger/clavigerlaw8.RegisterFolds", spec := "registerFolds", apart := false, narrowed := true }
def RegisterFoldsUptoSaid : Prop := registerFoldsUptoRow.holds Try.pinned (OpenSpec.upto registerFoldsSpec)

/-- 'clavigerlaw8.RegisterNumbers', WHERE WHAT IT READS IS OF BULK AT MOST 1048576: true; the input reads as it did. -/
def registerNumbersUptoRow : OpenClaim := { program := "ytlahigboaeadmaa", sum := "45d3e41938d1b8d56654495dc3b0828fd23afb71826e970cf4bf25f8f45a1b21", func := "claviger/clavigerlaw8.RegisterNumbers", spec := "registerNumbers", apart := false, narrowed := true }
def RegisterNumbersUptoSaid : Prop := registerNumbersUptoRow.holds Try.pinned (OpenSpec.upto registerNumbersSpec)

/-- 'clavigerlaw8.RegisterTells', WHERE WHAT IT READS IS OF BULK AT MOST 1048576: true; the input reads as it did. -/
def registerTellsUptoRow : OpenClaim := { program := "ytlahigboaeadmaa", sum := "45d3e41938d1b8d56654495dc3b0828fd23afb71826e970cf4bf25f8f45a1b21", func := "claviger/clavigerlaw8.RegisterTells", spec := "registerTells", apart := false, narrowed := true }
def RegisterTellsUptoSaid : Prop := registerTellsUptoRow.holds Try.pinned (OpenSpec.upto registerTellsSpec)

/-- 'clavigerlaw8.RegisterOnward', WHERE WHAT IT READS IS OF BULK AT MOST 1048576: true; the input reads as it did. -/
def registerOnwardUptoRow : OpenClaim := { program := "ytlahigboaeadmaa", sum := "45d3e41938d1b8d56654495dc3b0828fd23afb71826e970cf4bf25f8f45a1b21", func := "claviger/clavigerlaw8.RegisterOnward", spec := "registerOnward", apart := false, narrowed := true }
def RegisterOnwardUptoSaid : Prop := registerOnwardUptoRow.holds Try.pinned (OpenSpec.upto registerOnwardSpec)

/-- 'clavigerlaw13.ShardNumbers', WHERE WHAT IT READS IS OF BULK AT MOST 1048576: true; the input reads as it did. -/
def shardNumbersUptoRow : OpenClaim := { program := "ytlahigboaeadmaa", sum := "45d3e41938d1b8d56654495dc3b0828fd23afb71826e970cf4bf25f8f45a1b21", func := "claviger/clavigerlaw13.ShardNumbers", spec := "shardNumbers", apart := false, narrowed := true }
def ShardNumbersUptoSaid : Prop := shardNumbersUptoRow.holds Try.pinned (OpenSpec.upto shardNumbersSpec)

/-- 'clavigerlaw13.ShardTells', WHERE WHAT IT READS IS OF BULK AT MOST 1048576: true; the input reads as it did. -/
def shardTellsUptoRow : OpenClaim := { program := "ytlahigboaeadmaa", sum := "45d3e41938d1b8d56654495dc3b0828fd23afb71826e970cf4bf25f8f45a1b21", func := "claviger/clavigerlaw13.ShardTells", spec := "shardTells", apart := false, narrowed := true }
def ShardTellsUptoSaid : Prop := shardTellsUptoRow.holds Try.pinned (OpenSpec.upto shardTellsSpec)

/-- 'clavigerlaw2.BlendNumbers', WHERE WHAT IT READS IS OF BULK AT MOST 1048576: true; the input reads as it did. -/
def blendNumbersUptoRow : OpenClaim := { program := "ytlahigboaeadmaa", sum := "45d3e41938d1b8d56654495dc3b0828fd23afb71826e970cf4bf25f8f45a1b21", func := "claviger/clavigerlaw2.BlendNumbers", spec := "blendNumbers", apart := false, narrowed := true }
def BlendNumbersUptoSaid : Prop := blendNumbersUptoRow.holds Try.pinned (OpenSpec.upto blendNumbersSpec)

/-- 'clavigerlaw2.BlendTells', WHERE WHAT IT READS IS OF BULK AT MOST 1048576: true; the input reads as it did. -/
def blendTellsUptoRow : OpenClaim := { program := "ytlahigboaeadmaa", sum := "45d3e41938d1b8d56654495dc3b0828fd23afb71826e970cf4bf25f8f45a1b21", func := "claviger/clavigerlaw2.BlendTells", spec := "blendTells", apart := false, narrowed := true }
def BlendTellsUptoSaid : Prop := blendTellsUptoRow.holds Try.pinned (OpenSpec.upto blendTellsSpec)

/-- 'clavigerlaw2.BlendStreams', WHERE WHAT IT READS IS OF BULK AT MOST 1048576: true; the input reads as it did. -/
def blendStreamsUptoRow : OpenClaim := { program := "ytlahigboaeadmaa", sum := "45d3e41938d1b8d56654495dc3b0828fd23afb71826e970cf4bf25f8f45a1b21", func := "claviger/clavigerlaw2.BlendStreams", spec := "blendStreams", apart := false, narrowed := true }
def BlendStreamsUptoSaid : Prop := blendStreamsUptoRow.holds Try.pinned (OpenSpec.upto blendStreamsSpec)

/-- 'clavigerlaw2.BlendParts', WHERE WHAT IT READS IS OF BULK AT MOST 1048576: true; the input reads as it did. -/
def blendPartsUptoRow : OpenClaim := { program := "ytlahigboaeadmaa", sum := "45d3e41938d1b8d56654495dc3b0828fd23afb71826e970cf4bf25f8f45a1b21", func := "claviger/clavigerlaw2.BlendParts", spec := "blendParts", apart := false, narrowed := true }
def BlendPartsUptoSaid : Prop := blendPartsUptoRow.holds Try.pinned (OpenSpec.upto blendPartsSpec)

/-- 'clavigerlaw2.BlendNumber', WHERE WHAT IT READS IS OF BULK AT MOST 1048576: true; the input reads as it did. -/
def blendNumberUptoRow : OpenClaim := { program := "ytlahigboaeadmaa", sum := "45d3e41938d1b8d56654495dc3b0828fd23afb71826e970cf4bf25f8f45a1b21", func := "claviger/clavigerlaw2.BlendNumber", spec := "blendNumber", apart := false, narrowed := true }
def BlendNumberUptoSaid : Prop := blendNumberUptoRow.holds Try.pinned (OpenSpec.upto blendNumberSpec)

end Rows
end Go.Proofs.Ytlahigboaeadmaa
