/- Closed facts of the program alone. -/
import Derived.Test.YtfpoebmihjbknaaGreatVB
import Derived.ChangeOld
set_option linter.unusedVariables false
set_option maxRecDepth 100000
namespace Go.Proofs.YtfpoebmihjbknaaGreat.VA
open Go Go.ChangeShapes Go.WideShapes Go.RowKit
def ioChars : List Char := List.map Char.ofNat [104, 97, 114, 110, 101, 115, 115, 32, 49, 50, 50, 100, 56, 99, 102, 100, 101, 97, 56, 57, 100, 49, 54, 55, 52, 50, 99, 55, 53, 101, 57, 48, 97, 51, 54, 54, 101, 102, 98, 97, 101, 97, 99, 50, 55, 57, 99, 57, 53, 99, 51, 50, 57, 53, 49, 57, 54, 57, 101, 100, 98, 102, 53, 101, 101, 100, 51, 50, 56, 100, 54, 55, 32, 99, 117, 116, 32, 97, 116, 32, 99, 108, 97, 118, 105, 103, 101, 114, 47, 99, 108, 97, 118, 105, 103, 101, 114, 108, 97, 119, 49, 57, 46, 72, 97, 110, 100, 111, 102, 102, 78, 117, 109, 98, 101, 114, 115]
theorem io_eq : Tryz.prog.initOrder = String.ofList ioChars := by kernel_rfl
theorem io_list : Tryz.prog.initOrder.toList = ioChars := by rw [io_eq, String.toList_ofList]
def ioWord : List Char := [Char.ofNat 99, Char.ofNat 117, Char.ofNat 116]
def ioRest : List (List Char) := wordsSigns (List.map Char.ofNat [97, 116, 32, 99, 108, 97, 118, 105, 103, 101, 114, 47, 99, 108, 97, 118, 105, 103, 101, 114, 108, 97, 119, 49, 57, 46, 72, 97, 110, 100, 111, 102, 102, 78, 117, 109, 98, 101, 114, 115])
theorem words_eq : behindMainWord (wordsSigns ioChars) = ioWord :: ioRest := by kernel_rfl
theorem word_gc : (ioWord == "gc".toList) = false := by kernel_rfl
theorem word_spec : (ioWord == "spec".toList) = false := by kernel_rfl
theorem word_cut : (ioWord == "cut".toList) = true := by kernel_rfl
theorem word_car : (ioWord == "carried".toList) = false := by kernel_rfl
theorem word_head : ((ioWord :: ioRest).head? == some "cut".toList) = true := by kernel_rfl
theorem strip_eq : stripLifts liftWords (ioWord :: ioRest) = ([], ioWord :: ioRest) := by kernel_rfl
theorem lays_ok : Tryz.prog.laysLater = false := by kernel_rfl
theorem bears_ok : Tryz.prog.bearsReflect = false := by kernel_rfl
theorem door_ok : Tryz.prog.doorFits [] = true := by kernel_rfl
theorem words_P : behindMainWord (wordsSigns Tryz.prog.initOrder.toList) = ioWord :: ioRest := by rw [io_list]; exact words_eq
theorem make_of (P : Program) {c : List Char} {r : List (List Char)} (h : behindMainWord (wordsSigns P.initOrder.toList) = c :: r) (h1 : (c == "gc".toList) = false) (h2 : (c == "spec".toList) = false) (h3 : (c == "cut".toList) = true) : P.make = some .cut := by
  unfold Program.make
  rw [h]
  simp only [h1, h2, h3, Bool.or_self, Bool.true_or, Bool.false_eq_true, if_false, if_true]
theorem lifts_of (P : Program) {c : List Char} {r : List (List Char)} (h : behindMainWord (wordsSigns P.initOrder.toList) = c :: r) (h1 : (c == "carried".toList) = false) (h5 : stripLifts liftWords (c :: r) = ([], c :: r)) : P.liftsFinal = false := by
  unfold Program.liftsFinal Program.headLifts
  simp only [h, h5, List.head?_cons]
  have : (some c == some "carried".toList) = false := h1
  rw [this]
  split <;> rfl
theorem enter_of (P : Program) {c : List Char} {r : List (List Char)} (h : behindMainWord (wordsSigns P.initOrder.toList) = c :: r) (h3 : ((c :: r).head? == some "cut".toList) = true) (h5 : stripLifts liftWords (c :: r) = ([], c :: r))
    (h6 : P.laysLater = false) (h7 : P.bearsReflect = false) (h8 : P.doorFits [] = true) : P.mayEnter = true := by
  unfold Program.mayEnter
  rw [h]
  simp only [h3, h5, h6, h7, h8]
  simp
theorem mayEnter_ok : Tryz.prog.mayEnter = true := enter_of _ words_P word_head strip_eq lays_ok bears_ok door_ok
theorem liftsFinal_ok : Tryz.prog.liftsFinal = false := lifts_of _ words_P word_car strip_eq
theorem make_ok : Tryz.prog.make = some .cut := make_of _ words_P word_gc word_spec word_cut
theorem joined_all {P : Program} {f : FuncId} {fn : Func} {s : ChangeSpec} {c : OpenClaim} (h0 : (c.wf (OpenSpec.ofChange s)) = true) (h1 : (laidOutB P) = true) (h2 : (mapsRowed P) = true) (h3 : (fn.params.all (P.readableRec ·)) = true) (h4 : (namedTie P c.named s.vars) = true) (h5 : ((c.stops == [])) = true) (h6 : ((P.stops == [])) = true) (h7 : ((c.knobs == [])) = true) (h8 : ((P.stopKnobs == [])) = true) (h9 : ((c.inPlace == P.inPlace f)) = true) (h10 : ((c.unfollowed == P.unfollowed f)) = true) (h11 : ((c.recurses == P.recurses f)) = true) (h12 : ((c.named == P.varsNamed f)) = true) (h13 : ((c.maps == (fn.params.toList ++ s.plain.varTypes P).any (P.mapsRec ·))) = true) (h14 : ((c.ifaces == (fn.params.toList ++ s.plain.varTypes P).any (P.ifacesRec ·))) = true) (h15 : ((c.mapsOut == P.mapsAmong fn.resultTypes.toList)) = true) (h16 : ((c.loops == (fn.params.toList ++ s.plain.varTypes P).any (P.loopsFrom ·))) = true) (h17 : ((c.wideKeys == (fn.params.toList ++ s.plain.varTypes P ++ fn.resultTypes.toList).any (P.wideKeysFrom ·))) = true) (h18 : (s.vars.all (P.varReadable ·)) = true) (h19 : (fn.resultTypes.all (fun t => P.readableRec t && decide (t < P.types.size))) = true) (h20 : ((c.ifacesOut == fn.resultTypes.toList.any (P.ifacesRec ·))) = true) (h21 : ((c.loopsOut == fn.resultTypes.toList.any (P.loopsFrom ·))) = true) (h22 : ((c.plainKeys == P.plainKeys)) = true) (h23 : (c.shortTexts.isNone) = true) (h24 : (P.stopsHeard) = true) (h25 : (P.mayEnter) = true) (h26 : ((c.lifted == P.liftsFinal)) = true) (h27 : ((P.make == some c.make)) = true) (h28 : ((c.kinds == (if c.domain.isEmpty then [] else fn.params.toList.map fun t => match P.underlying t with | some (.int k) => some k | _ => none))) = true) (h29 : ((c.pinned == c.pinnedBy)) = true) (h30 : ((c.veiled == (fn.params.toList ++ s.plain.varTypes P ++ fn.resultTypes.toList).any (P.veiledRec ·))) = true) (h31 : (c.veiledFits P fn.params.toList (fn.params.toList ++ s.plain.varTypes P ++ fn.resultTypes.toList)) = true) : joinedFacts P f fn s c = true := by
  unfold joinedFacts
  simp only [Bool.and_eq_true]
  exact ⟨⟨⟨⟨⟨⟨⟨⟨⟨⟨⟨⟨⟨⟨⟨⟨⟨⟨⟨⟨⟨⟨⟨⟨⟨⟨⟨⟨⟨⟨⟨h0, h1⟩, h2⟩, h3⟩, h4⟩, h5⟩, h6⟩, h7⟩, h8⟩, h9⟩, h10⟩, h11⟩, h12⟩, h13⟩, h14⟩, h15⟩, h16⟩, h17⟩, h18⟩, h19⟩, h20⟩, h21⟩, h22⟩, h23⟩, h24⟩, h25⟩, h26⟩, h27⟩, h28⟩, h29⟩, h30⟩, h31⟩
theorem mapsRowed_ok : mapsRowed Tryz.prog = true := by kernel_rfl
theorem laidOut_ok : laidOutB Tryz.prog = true := by kernel_rfl
theorem stopsHeard_ok : Tryz.prog.stopsHeard = true := by kernel_rfl
theorem plainKeys_ok : Tryz.prog.plainKeys = true := by kernel_rfl
theorem own_ok : ownKnob Tryz.prog.godebug = none := by kernel_rfl
end Go.Proofs.YtfpoebmihjbknaaGreat.VA
