/- What the operations of the compact code do, and the abstract machine's own 'weakest precondition'. -/
import Derived.Test.YtlahigboaeadmaaV2
namespace Go.Proofs.Ytlahigboaeadmaa.VA
open Go
noncomputable section

def constV : Value → V
  | .agg cs => .agg (cs.toList.map .sc)
  | .func (.func f) first caps => if first.isEmpty && caps.isEmpty then .fn f [] else .sc (.func (.func f) first caps)
  | v => .sc v

def Od.ev (S : List V) : Od → V
  | .t i => S.getD i .dead
  | .c v => constV v

def blkAt (H : Heap) (id : Nat) : Option (List V) := H.getD id none

def cellsV : V → Option (List V)
  | .sc v => if v.oneCell' = true then some [.sc v] else none
  | .agg cs => some cs
  | .tup _ => none
  | .dead => none
  | v => some [v]

def rd (k : Option Nat) (cells : List V) (off : Nat) : Option V :=
  match k with
  | none => cells[off]?
  | some n => if off + n ≤ cells.length then some (.agg ((cells.drop off).take n)) else none

def splice (cells : List V) (off : Nat) (new : List V) : List V := cells.take off ++ (new ++ cells.drop (off + new.length))

def pureV : Sem Value → Option Value
  | .pure v => some v
  | _ => none

def evBin (op : BinOp) : V → V → Option V
  | .sc (.int k a), .sc (.int k' b) => (pureV (binOp op 0 (.int k a) (.int k' b))).map .sc
  | .sc (.string a), .sc (.string b) => (pureV (binOp op 0 (.string a) (.string b))).map .sc
  | _, _ => none

/-- Are two rows of cells, of integers and bools, the same? -/
def eqW : List Bool → List Value → List Value → Option Bool
  | [], [], [] => some true
  | false :: s, .int k a :: xs, .int k' b :: ys => if k = k' then (eqW s xs ys).map fun r => a == b && r else none
  | true :: s, .bool a :: xs, .bool b :: ys => (eqW s xs ys).map fun r => a == b && r
  | _, _, _ => none

def scs : List V → Option (List Value)
  | [] => some []
  | .sc v :: r => (scs r).map (v :: ·)
  | _ => none

def evEqA (sh : List Bool) : V → V → Option Bool
  | .agg xs, .agg ys => match scs xs, scs ys with
    | some xs, some ys => eqW sh xs ys
    | _, _ => none
  | _, _ => none

/-- Comparison with nil. -/
def evEqNil : V → V → Option Bool
  | x, .sc (.slice none _ _) => match x with
    | .sc (.slice none _ _) => some true
    | .sl _ _ => some false
    | .sref _ _ _ _ => some false
    | _ => none
  | _, _ => none

def strOf : List V → Option (List UInt8)
  | [] => some []
  | .sc (.int .u8 n) :: r => (strOf r).map (UInt8.ofNat n.toNat :: ·)
  | _ => none

def intOf? : V → Option Int
  | .sc (.int _ i) => some i
  | _ => none

def u8V (b : UInt8) : V := .sc (.int .u8 b.toNat)

/-- The cells of a slice, with how many elements it has. -/
def slCells (H : Heap) (sz : Nat) : V → Option (Nat × List V)
  | .sc (.slice none 0 0) => some (0, [])
  | .sl n cs => if cs.length = n * sz then some (n, cs) else none
  | .sref id off n sz' =>
    match blkAt H id with
    | some cells => if sz' = sz ∧ off + n * sz ≤ cells.length then some (n, (cells.drop off).take (n * sz)) else none
    | none => none
  | _ => none

def srcCells (H : Heap) (sz : Nat) : V → Option (Nat × List V)
  | .sc (.string s) => if sz = 1 then some (s.size, s.data.toList.map u8V) else none
  | v => slCells H sz v

def fillV : List V → List (Nat × Nat × V) → Option (List V)
  | cs, [] => some cs
  | cs, (off, n, v) :: rest =>
    match cellsV v with
    | some l => if l.length = n ∧ off + n ≤ cs.length then fillV (splice cs off l) rest else none
    | none => none

def evParts (S : List V) (parts : List (Nat × Nat × Od)) : List (Nat × Nat × V) := parts.map fun p => (p.1, p.2.1, p.2.2.ev S)

def zeroCells (zs : List Value) (n : Nat) : List V := (List.replicate n (zs.map V.sc)).flatten

/-- A bound of a slice expression. -/
def bnd (S : List V) (o : Option Od) (dflt mx : Nat) : Option Nat :=
  match o with
  | none => some dflt
  | some x => match intOf? (x.ev S) with
    | some i => if 0 ≤ i ∧ i ≤ mx then some i.toNat else none
    | none => none

def allInts : List V → Option (List Value)
  | [] => some []
  | .sc (.int k n) :: r => (allInts r).map (.int k n :: ·)
  | _ => none

def evOp (S : List V) (H : Heap) : AOp → Option (V × Heap)
  | .mov x => some (x.ev S, H)
  | .pick c a b => match c.ev S with
    | .sc (.bool t) => some (if t then a.ev S else b.ev S, H)
    | _ => none
  | .alloc zs => some (.ref H.length 0, H ++ [some (zs.map .sc)])
  | .box x => match cellsV (x.ev S) with
    | some l => some (.ref H.length 0, H ++ [some l])
    | none => none
  | .build zs parts => match fillV (zs.map .sc) (evParts S parts) with
    | some cs => some (.agg cs, H)
    | none => none
  | .buildSl sz n zs parts => match fillV (zeroCells zs n) (evParts S parts) with
    | some cs => some (.sref H.length 0 n sz, H ++ [some cs])
    | none => none
  | .load k x => match x.ev S with
    | .ref id off => match blkAt H id with
      | some cells => (rd k cells off).map fun v => (v, H)
      | none => none
    | .box cs => (rd k cs 0).map fun v => (v, H)
    | _ => none
  | .store n a x => match a.ev S, cellsV (x.ev S) with
    | .ref id off, some l => match blkAt H id with
      | some cells => if l.length = n ∧ off + n ≤ cells.length then some (.dead, H.set id (some (splice cells off l))) else none
      | none => none
    | _, _ => none
  | .nilChk x => match x.ev S with
    | .ref id off => some (.ref id off, H)
    | .box cs => some (.box cs, H)
    | .fn f caps => some (.fn f caps, H)
    | _ => none
  | .bin op x y => (evBin op (x.ev S) (y.ev S)).map fun v => (v, H)
  | .eqB neg x y => match x.ev S, y.ev S with
    | .sc (.bool a), .sc (.bool b) => some (.sc (.bool (if neg then !(a == b) else a == b)), H)
    | _, _ => none
  | .eqA neg sh x y => (evEqA sh (x.ev S) (y.ev S)).map fun b => (.sc (.bool (if neg then !b else b)), H)
  | .eqNil neg x y => (evEqNil (x.ev S) (y.ev S)).map fun b => (.sc (.bool (if neg then !b else b)), H)
  | .un op x => match x.ev S with
    | .sc (.int k n) => (pureV (Op.unary op (.int k n))).map fun v => (.sc v, H)
    | .sc (.bool b) => (pureV (Op.unary op (.bool b))).map fun v => (.sc v, H)
    | _ => none
  | .conv k x => match x.ev S with
    | .sc (.int _ n) => some (.sc (.int k (k.wrap n)), H)
    | _ => none
  | .same x => match x.ev S with
    | .sc (.string s) => some (.sc (.string s), H)
    | _ => none
  | .mark x => match x.ev S with
    | .sref id off n sz => match blkAt H id with
      | some _ => some (.sref id off n sz, H)
      | none => none
    | _ => none
  | .toStr x => match slCells H 1 (x.ev S) with
    | some (_, cs) => (strOf cs).map fun l => (.sc (.string ⟨l.toArray⟩), H)
    | none => none
  | .toBytes x => match x.ev S with
    | .sc (.string s) => if s.size ≤ 2 ^ 46 then some (.sref H.length 0 s.size 1, H ++ [some (s.data.toList.map u8V)]) else none
    | _ => none
  | .mkSl sz bytes zs l c => match intOf? (l.ev S), intOf? (c.ev S) with
    | some l, some c => if 0 ≤ l ∧ l ≤ c ∧ bytes * c ≤ 2 ^ 47 ∧ c ≤ 2 ^ 47 then some (.sref H.length 0 l.toNat sz, H ++ [some (zeroCells zs l.toNat)]) else none
    | _, _ => none
  | .sliceArr n sz x lo hi => match bnd S hi n n with
    | some h => match bnd S lo 0 h with
      | some l => match x.ev S with
        | .ref id off => match blkAt H id with
          | some cells => if off + n * sz ≤ cells.length then some (.sref id (off + l * sz) (h - l) sz, H) else none
          | none => none
        | .box cs => if n * sz ≤ cs.length then some (.sl (h - l) ((cs.drop (l * sz)).take ((h - l) * sz)), H) else none
        | _ => none
      | none => none
    | none => none
  | .sliceSl sz x lo hi => match x.ev S with
    | .sc (.slice none 0 0) => match bnd S hi 0 0 with
      | some h => match bnd S lo 0 h with
        | some _ => some (.sc (.slice none 0 0), H)
        | none => none
      | none => none
    | .sl n cs => match bnd S hi n n with
      | some h => match bnd S lo 0 h with
        | some l => if cs.length = n * sz then some (.sl (h - l) ((cs.drop (l * sz)).take ((h - l) * sz)), H) else none
        | none => none
      | none => none
    | .sref id off n sz' => match bnd S hi n n with
      | some h => match bnd S lo 0 h with
        | some l => if sz' = sz then some (.sref id (off + l * sz) (h - l) sz, H) else none
        | none => none
      | none => none
    | _ => none
  | .sliceStr x lo hi => match x.ev S with
    | .sc (.string s) => match bnd S hi s.size s.size with
      | some h => match bnd S lo 0 h with
        | some l => some (.sc (.string (s.extract l h)), H)
        | none => none
      | none => none
    | _ => none
  | .fieldAddr off x => match x.ev S with
    | .ref id o => some (.ref id (o + off), H)
    | .box cs => some (.box (cs.drop off), H)
    | _ => none
  | .field off k x => match x.ev S with
    | .agg cs => (rd k cs off).map fun v => (v, H)
    | _ => none
  | .idxArr n sz x i => match intOf? (i.ev S) with
    | some i => if 0 ≤ i ∧ i < n then match x.ev S with
        | .ref id off => some (.ref id (off + i.toNat * sz), H)
        | .box cs => some (.box (cs.drop (i.toNat * sz)), H)
        | _ => none
      else none
    | none => none
  | .idxSl sz x i => match intOf? (i.ev S), x.ev S with
    | some i, .sref id off n sz' => if 0 ≤ i ∧ i < n ∧ sz' = sz then some (.ref id (off + i.toNat * sz), H) else none
    | some i, .sl n cs => if 0 ≤ i ∧ i < n then some (.box (cs.drop (i.toNat * sz)), H) else none
    | _, _ => none
  | .indexArr n sz k x i => match intOf? (i.ev S), x.ev S with
    | some i, .agg cs => if 0 ≤ i ∧ i < n then (rd k cs (i.toNat * sz)).map fun v => (v, H) else none
    | _, _ => none
  | .indexStr x i => match intOf? (i.ev S), x.ev S with
    | some i, .sc (.string s) => if 0 ≤ i then (s.data.toList[i.toNat]?).map fun b => (u8V b, H) else none
    | _, _ => none
  | .extract x i => match x.ev S with
    | .tup vs => (vs[i]?).map fun v => (v, H)
    | _ => none
  | .lenC n => some (.sc (.int .i64 n), H)
  | .lenStr x => match x.ev S with
    | .sc (.string s) => some (.sc (.int .i64 s.size), H)
    | _ => none
  | .lenSl x => match x.ev S with
    | .sc (.slice none 0 0) => some (.sc (.int .i64 0), H)
    | .sl n _ => some (.sc (.int .i64 n), H)
    | .sref _ _ n _ => some (.sc (.int .i64 n), H)
    | _ => none
  | .minmax mx xs => match allInts (xs.map (·.ev S)) with
    | some l => (pureV (if mx then Builtin.max_ #[] 0 l.toArray else Builtin.min_ #[] 0 l.toArray)).map fun v => (.sc v, H)
    | none => none
  | .append sz bytes x y => match srcCells H sz (y.ev S) with
    | some (m, ys) => match x.ev S with
      | .sc (.slice none 0 0) =>
        if m = 0 then some (.sc (.slice none 0 0), H)
        else if m * bytes ≤ 2 ^ 47 ∧ m ≤ 2 ^ 47 then some (.sref H.length 0 m sz, H ++ [some ys]) else none
      | .sref id off n sz' => match blkAt H id with
        | some cells =>
          if off = 0 ∧ sz' = sz ∧ n * sz ≤ cells.length ∧ (n + m) * bytes ≤ 2 ^ 47 ∧ n + m ≤ 2 ^ 47 then
            some (.sref H.length 0 (n + m) sz, H.set id none ++ [some (cells.take (n * sz) ++ ys)])
          else none
        | none => none
      | _ => none
    | none => none
  | .copy sz x y => match srcCells H sz (y.ev S), x.ev S with
    | some (m, ys), .sref id off n sz' => match blkAt H id with
      | some cells => if sz' = sz ∧ off + n * sz ≤ cells.length then
          some (.sc (.int .i64 (min m n : Nat)), H.set id (some (splice cells off (ys.take (min m n * sz)))))
        else none
      | none => none
    | _, _ => none
  | .mkFunc f caps => some (.fn f (caps.map (·.ev S)), H)
  | .call _ _ => none
  | .callv _ _ => none

def idV : V → List Nat
  | .ref id _ => [id]
  | .sref id _ _ _ => [id]
  | _ => []

/-- Which owned blocks an operation looks into, and which it writes or uses up. -/
def footOp (S : List V) : AOp → List Nat
  | .load _ x => idV (x.ev S)
  | .store _ a _ => idV (a.ev S)
  | .mark x => idV (x.ev S)
  | .toStr x => idV (x.ev S)
  | .sliceArr _ _ x _ _ => idV (x.ev S)
  | .append _ _ x y => idV (x.ev S) ++ idV (y.ev S)
  | .copy _ x y => idV (x.ev S) ++ idV (y.ev S)
  | _ => []

def wrOp (S : List V) : AOp → List Nat
  | .store _ a _ => idV (a.ev S)
  | .append _ _ x _ => idV (x.ev S)
  | .copy _ x _ => idV (x.ev S)
  | _ => []

/-! ## Calls -/

def kap (H : Heap) : Nat → Prop := fun i => LiveId H i

/-- What a Go function does, said of abstract values: with the owned blocks 'Hin' (numbered 0, 1, ..) it answers 'r' and leaves 'Hout'. -/
def C (P : Program) (f : Nat) (args : List V) (Hin : List (List V)) (r : V) (Hout : Heap) : Prop :=
  ∀ (K : Cx) (vs : List Value), K.B = K.w.heap.size → HeapOK K (Hin.map some) (kap (Hin.map some)) → (∀ i b, K.β i = some b → i < Hin.length) → RepL K args vs →
    Calls P f vs.toArray K.w fun e w' => ∃ c K', e = .returned c ∧ K'.w = w' ∧ HeapOK K' Hout (kap Hout) ∧ (∀ i b, K'.β i = some b → i < Hout.length) ∧
      Step K (Hin.map some) (kap (Hin.map some)) K' Hout (kap Hout) ∧ Rep K' r c

mutual
/-- References under other numbers. -/
def renV (ρ : Nat → Nat) : V → V
  | .sc v => .sc v
  | .agg cs => .agg (renL ρ cs)
  | .tup vs => .tup (renL ρ vs)
  | .sl n cs => .sl n (renL ρ cs)
  | .box cs => .box (renL ρ cs)
  | .ref id off => .ref (ρ id) off
  | .sref id off n sz => .sref (ρ id) off n sz
  | .fn f caps => .fn f (renL ρ caps)
  | .dead => .dead
def renL (ρ : Nat → Nat) : List V → List V
  | [] => []
  | v :: vs => renV ρ v :: renL ρ vs
end

mutual
/-- No read-only memory in it (but empty rows). -/
def NoRO : V → Prop
  | .sc _ => True
  | .agg cs => NoROL cs
  | .tup vs => NoROL vs
  | .sl _ cs => cs = []
  | .box cs => cs = []
  | .ref _ _ => True
  | .sref _ _ _ _ => True
  | .fn _ caps => NoROL caps
  | .dead => True
def NoROL : List V → Prop
  | [] => True
  | v :: vs => NoRO v ∧ NoROL vs
end

def NoROH (H : Heap) : Prop := ∀ (i : Nat) cells, H[i]? = some (some cells) → NoROL cells

mutual
/-- The owned blocks that a value names. -/
def idsIn : V → List Nat
  | .ref id _ => [id]
  | .sref id _ _ _ => [id]
  | .agg cs => idsInL cs
  | .tup vs => idsInL vs
  | .fn _ caps => idsInL caps
  | _ => []
def idsInL : List V → List Nat
  | [] => []
  | v :: vs => idsIn v ++ idsInL vs
end

/-- Each block that is handed over is named by an argument, or by a block that is handed over ahead of it. -/
def Named (H : Heap) (args : List V) (ids : List Nat) : Prop :=
  ∀ (k id : Nat), ids[k]? = some id → id ∈ idsInL args ∨ ∃ (k' id' : Nat) (cells : List V), k' < k ∧ ids[k']? = some id' ∧ blkAt H id' = some cells ∧ id ∈ idsInL cells

/-- The number of a block of a callee in its caller: 'ids' are handed over, the others are new. -/
def ρof (ids : List Nat) (n : Nat) (k : Nat) : Nat := if k < ids.length then ids.getD k 0 else n + (k - ids.length)

mutual
/-- An argument as the callee sees it: blocks 'ids' are handed over; of others ('bs') what is in them is shown. -/
def ArgRel (H : Heap) (ids bs : List Nat) : V → V → Prop
  | .sc v, a => a = .sc v
  | .agg cs, a => ∃ cs', a = .agg cs' ∧ ArgRelL H ids bs cs cs'
  | .sl n cs, a => a = .sl n cs ∧ ClosedL cs
  | .box cs, a => a = .box cs ∧ ClosedL cs
  | .ref id off, a => ∃ k, ids[k]? = some id ∧ a = .ref k off
  | .sref id off n sz, a => (∃ k, ids[k]? = some id ∧ a = .sref k off n sz) ∨
      (id ∉ ids ∧ id ∈ bs ∧ ∃ cells, blkAt H id = some cells ∧ off + n * sz ≤ cells.length ∧ ClosedL ((cells.drop off).take (n * sz)) ∧ a = .sl n ((cells.drop off).take (n * sz)))
  | .fn f caps, a => ∃ cs', a = .fn f cs' ∧ ArgRelL H ids bs caps cs'
  | .tup vs, a => ∃ vs', a = .tup vs' ∧ ArgRelL H ids bs vs vs'
  | .dead, a => a = .dead
def ArgRelL (H : Heap) (ids bs : List Nat) : List V → List V → Prop
  | [], us => us = []
  | v :: vs, us => ∃ a us', us = a :: us' ∧ ArgRel H ids bs v a ∧ ArgRelL H ids bs vs us'
end

/-- A caller's memory behind a call. -/
def putBack (H : Heap) (ρ : Nat → Nat) : List Nat → Heap → Heap
  | [], out => H ++ out.map (Option.map (renL ρ))
  | id :: ids, [] => putBack (H.set id none) ρ ids []
  | id :: ids, o :: out => putBack (H.set id (o.map (renL ρ))) ρ ids out

def CallRel (P : Program) (f : Nat) (H : Heap) (args : List V) (v : V) (H' : Heap) (F W : List Nat) : Prop :=
  ∃ (ids bs : List Nat) (args' : List V) (Hin : List (List V)) (r : V) (Hout : Heap),
    C P f args' Hin r Hout ∧ ids.Nodup ∧ Hin.length = ids.length ∧ ids.length ≤ Hout.length ∧
    (∀ (k id : Nat), ids[k]? = some id → ∃ cells cells', Hin[k]? = some cells' ∧ blkAt H id = some cells ∧ ArgRelL H ids [] cells cells') ∧
    Named H args ids ∧ (∀ id ∈ bs, id ∈ idsInL args ∧ ∃ cells, blkAt H id = some cells) ∧ ArgRelL H ids bs args args' ∧ (bs ≠ [] → NoRO r ∧ NoROH Hout) ∧
    v = renV (ρof ids H.length) r ∧ H' = putBack H (ρof ids H.length) ids Hout ∧ F = ids ++ bs ∧ W = ids

def EvOp (P : Program) (S : List V) (H : Heap) (op : AOp) (v : V) (H' : Heap) (F W : List Nat) : Prop :=
  match op with
  | .call f args => CallRel P f H (args.map (·.ev S)) v H' F W
  | .callv f args =>
    match f.ev S with
    | .fn g caps => Callable P g = true ∧ CallRel P g H (args.map (·.ev S) ++ caps) v H' F W
    | _ => False
  | op => evOp S H op = some (v, H') ∧ F = footOp S op ∧ W = wrOp S op

/-! ## Code -/

structure St where
  S : List V
  H : Heap

inductive AExit where
  | normal
  | exit (id : Nat)
  | ret

def putS (S : List V) (dst : Option Nat) (v : V) : List V :=
  match dst with
  | some d => S.set d v
  | none => S

def RunOps (P : Program) (Q : List V → Heap → List (List Nat × List Nat) → Prop) : List AOper → List V → Heap → List (List Nat × List Nat) → Prop
  | [], S, H, FW => Q S H FW
  | o :: os, S, H, FW =>
    match o.guard with
    | none => ∃ v H' F W, EvOp P S H o.op v H' F W ∧ RunOps P Q os (putS S o.dst v) H' (FW ++ [(F, W)])
    | some (t, want) => (S.getD t .dead = .sc (.bool want) ∧ ∃ v H' F W, EvOp P S H o.op v H' F W ∧ RunOps P Q os (putS S o.dst v) H' (FW ++ [(F, W)])) ∨
        ((S.getD t .dead = .sc (.bool (!want)) ∨ S.getD t .dead = .sc undef) ∧ RunOps P Q os (putS S o.dst (.sc undef)) H (FW ++ [([], [])]))

def disj (a b : List Nat) : Bool := a.all fun x => !b.contains x

def chk (FW : List (List Nat × List Nat)) (pairs : List (Nat × Nat)) : Bool :=
  pairs.all fun (i, j) => disj (FW.getD i ([], [])).2 (FW.getD j ([], [])).1 && disj (FW.getD j ([], [])).2 (FW.getD i ([], [])).1

/-- A block that is written no more: what refers to it shows what is in it. -/
def frzV (id : Nat) (cells : List V) : V → V
  | .ref i off => if i = id then .box (cells.drop off) else .ref i off
  | .sref i off n sz => if i = id then (if off + n * sz ≤ cells.length then .sl n ((cells.drop off).take (n * sz)) else .dead) else .sref i off n sz
  | v => v

/-- What is kept of the slots, the blocks 'sel' under new numbers. -/
def KeepS (H : Heap) (sel : List Nat) : List V → List V → Prop
  | [], [] => True
  | v :: vs, a :: us => (a = .dead ∨ ArgRel H sel [] v a) ∧ KeepS H sel vs us
  | _, _ => False

/-- What is kept of the memory. -/
def KeepH (H : Heap) (sel : List Nat) : List Nat → Heap → Prop
  | [], [] => True
  | _ :: ids, none :: H' => KeepH H sel ids H'
  | id :: ids, some cells' :: H' => (∃ cells, blkAt H id = some cells ∧ ArgRelL H sel [] cells cells') ∧ KeepH H sel ids H'
  | _, _ => False

/-- What may be forgotten of a state; the first 'm0' blocks keep their numbers. -/
inductive Weak (m0 : Nat) : St → St → Prop where
  | refl (σ : St) : Weak m0 σ σ
  | frz (σ : St) (id : Nat) (cells : List V) (h : blkAt σ.H id = some cells) : Weak m0 σ ⟨σ.S.map (frzV id cells), σ.H.set id none⟩
  | trans {a b c : St} (h : Weak m0 a b) (k : Weak m0 b c) : Weak m0 a c
  | ren (σ : St) (S' : List V) (H' : Heap) (sel : List Nat) (hnd : sel.Nodup) (hlo : ∀ k, k < m0 → sel[k]? = some k) (hS : KeepS σ.H sel σ.S S') (hH : KeepH σ.H sel sel H') : Weak m0 σ ⟨S', H'⟩

def wpA (P : Program) (m0 : Nat) : ACode → (AExit → St → Prop) → St → Prop
  | .skip, Q, σ => Q .normal σ
  | .region pairs ops, Q, σ => ∃ σ', Weak m0 σ σ' ∧ RunOps P (fun S H FW => chk FW pairs = true ∧ Q .normal ⟨S, H⟩) ops σ'.S σ'.H []
  | .seq a b, Q, σ => wpA P m0 a (fun e σ' => match e with | .normal => wpA P m0 b Q σ' | e => Q e σ') σ
  | .cond c a b, Q, σ => ∃ t, c.ev σ.S = .sc (.bool t) ∧ (t = true → wpA P m0 a Q σ) ∧ (t = false → wpA P m0 b Q σ)
  | .block id c, Q, σ => wpA P m0 c (fun e σ' => match e with | .exit i => if i = id then Q .normal σ' else Q (.exit i) σ' | e => Q e σ') σ
  | .loop c, Q, σ => ∃ (I : Nat → St → Prop) (m : Nat) (σ' : St), Weak m0 σ σ' ∧ I m σ' ∧
      ∀ n σ, I n σ → wpA P m0 c (fun e σ' => match e with | .normal => ∃ n' σ'', n' < n ∧ Weak m0 σ' σ'' ∧ I n' σ'' | e => Q e σ') σ
  | .exit id, Q, σ => Q (.exit id) σ
  | .ret, Q, σ => Q .ret σ

/-- What a call answers, out of its slots. -/
def resV (S : List V) (H : Heap) : ARes → Option V
  | .tmp t => some (S.getD t .dead)
  | .cell t k => match S.getD t .dead with
    | .ref id off => match blkAt H id with
      | some cells => rd k cells off
      | none => none
    | _ => none

def resL (S : List V) (H : Heap) : List ARes → Option (List V)
  | [] => some []
  | r :: rs => match resV S H r, resL S H rs with
    | some v, some vs => some (v :: vs)
    | _, _ => none

def resAll (S : List V) (H : Heap) (rs : List ARes) : Option V :=
  match resL S H rs with
  | some [v] => some v
  | some vs => some (.tup vs)
  | none => none

/-- What a call leaves, of which its caller is told: 'sel' says which blocks. -/
def OutOK (n : Nat) (H : Heap) (v r : V) (Hout : Heap) : Prop :=
  ∃ sel : List Nat, sel.Nodup ∧ sel.length = Hout.length ∧ n ≤ Hout.length ∧ (∀ k, k < n → sel[k]? = some k) ∧ ArgRel H sel [] v r ∧
    ∀ (k : Nat) cells', Hout[k]? = some (some cells') → ∃ id cells, sel[k]? = some id ∧ blkAt H id = some cells ∧ ArgRelL H sel [] cells cells'

end
end Go.Proofs.Ytlahigboaeadmaa.VA
