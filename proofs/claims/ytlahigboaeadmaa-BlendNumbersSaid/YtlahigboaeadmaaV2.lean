/- The compact code of the abstract machine 'VA', how it is made out of the model's code, and what its operations do. -/
import Derived.Test.YtlahigboaeadmaaV1
namespace Go.Proofs.Ytlahigboaeadmaa.VA
open Go
noncomputable section

inductive Od where
  | t (i : Nat)
  | c (v : Value)

inductive AOp where
  | mov (x : Od)
  | pick (c a b : Od)
  | alloc (zs : List Value)
  | box (x : Od)
  | build (zs : List Value) (parts : List (Nat × Nat × Od))
  | buildSl (sz n : Nat) (zs : List Value) (parts : List (Nat × Nat × Od))
  | load (k : Option Nat) (x : Od)
  | store (n : Nat) (a x : Od)
  | nilChk (x : Od)
  | bin (op : BinOp) (x y : Od)
  | eqB (neg : Bool) (x y : Od)
  | eqA (neg : Bool) (sh : List Bool) (x y : Od)
  | eqNil (neg : Bool) (x y : Od)
  | un (op : UnOp) (x : Od)
  | conv (k : IntKind) (x : Od)
  | same (x : Od)
  | mark (x : Od)
  | toStr (x : Od)
  | toBytes (x : Od)
  | mkSl (sz bytes : Nat) (zs : List Value) (len cap : Od)
  | sliceArr (n sz : Nat) (x : Od) (lo hi : Option Od)
  | sliceSl (sz : Nat) (x : Od) (lo hi : Option Od)
  | sliceStr (x : Od) (lo hi : Option Od)
  | fieldAddr (off : Nat) (x : Od)
  | field (off : Nat) (k : Option Nat) (x : Od)
  | idxArr (len sz : Nat) (x i : Od)
  | idxSl (sz : Nat) (x i : Od)
  | indexArr (len sz : Nat) (k : Option Nat) (x i : Od)
  | indexStr (x i : Od)
  | extract (x : Od) (i : Nat)
  | lenC (n : Nat)
  | lenStr (x : Od)
  | lenSl (x : Od)
  | minmax (mx : Bool) (xs : List Od)
  | append (sz bytes : Nat) (x y : Od)
  | copy (sz : Nat) (x y : Od)
  | mkFunc (f : Nat) (caps : List Od)
  | call (f : Nat) (args : List Od)
  | callv (f : Od) (args : List Od)

structure AOper where
  dst : Option Nat
  op : AOp
  guard : Option (Nat × Bool)

inductive ACode where
  | skip
  | region (pairs : List (Nat × Nat)) (ops : List AOper)
  | seq (a b : ACode)
  | cond (c : Od) (a b : ACode)
  | block (id : Nat) (c : ACode)
  | loop (c : ACode)
  | exit (id : Nat)
  | ret

inductive ARes where
  | tmp (t : Nat)
  | cell (t : Nat) (k : Option Nat)

/-! ## The making -/

def cOd : Operand → Option Od
  | .tmp t => some (.t t)
  | .const (.agg cs) => if cs.toList.all (·.oneCell') then some (.c (.agg cs)) else none
  | .const (.tuple _) => none
  | .const v => some (.c v)
  | .func f => some (.c (.func (.func f) #[] #[]))
  | .global _ => none

def cOds (l : List Operand) : Option (List Od) := l.mapM cOd

/-- How many cells a type has, if it is a struct or an array; else one. -/
def kindOf (P : Program) (t : TypeId) : Option (Option Nat) :=
  match P.underlying t, P.info? t with
  | some (.struct _), some i => some (some i.size)
  | some (.array _ _), some i => some (some i.size)
  | some _, some i => if i.size = 1 then some none else none
  | _, _ => none

def sizeC (P : Program) (t : TypeId) : Option Nat := (P.info? t).map (·.size)

def oneL (l : List Value) : Bool := l.all (·.oneCell')

def zeroC (P : Program) (t : TypeId) : Option (List Value) :=
  match P.info? t with
  | some i => match i.zero with
    | some z => if z.cells.size = i.size && oneL z.cells.toList then some z.cells.toList else none
    | none => none
  | none => none

def cParts (off : Nat → Option (Nat × Nat)) : List (Nat × Operand) → Option (List (Nat × Nat × Od))
  | [] => some []
  | (i, x) :: rest => do
    let (o, n) ← off i
    let x ← cOd x
    let r ← cParts off rest
    pure ((o, n, x) :: r)

def cOpt : Option Operand → Option (Option Od)
  | none => some none
  | some x => (cOd x).map some

/-- The fields of a struct, one behind the other, each of a flat type: of each cell, whether it is a bool. -/
def flatFields (P : Program) (ft : TypeId → Option (List Bool)) : List Field → Nat → Option (List Bool)
  | [], _ => some []
  | f :: fs, n =>
    if f.offset = n ∧ (f.name != "_") = true then
      match ft f.type with
      | some l => (flatFields P ft fs (n + l.length)).map fun r => l ++ r
      | none => none
    else none

/-- A type whose values are compared cell by cell, each cell an integer or a bool: of each cell, whether it is a bool. -/
def flatSh (P : Program) : Nat → TypeId → Option (List Bool)
  | 0, _ => none
  | d + 1, t =>
    match P.underlying t with
    | some .bool => if sizeC P t = some 1 then some [true] else none
    | some (.int _) => if sizeC P t = some 1 then some [false] else none
    | some (.struct fs) =>
      if P.stoodInHeld t = false then
        match flatFields P (flatSh P d) fs.toList 0 with
        | some l => if sizeC P t = some l.length ∧ l ≠ [] then some l else none
        | none => none
      else none
    | some (.array n e) =>
      match flatSh P d e with
      | some l => if sizeC P t = some (n * l.length) ∧ 0 < n * l.length then some (List.replicate n l).flatten else none
      | none => none
    | _ => none

def cEqA (P : Program) (neg : Bool) (t : TypeId) (x y : Operand) : Option AOp := do
  let sh ← flatSh P 20 t
  if P.eqGuardType P.depth t then none else
  pure (.eqA neg sh (← cOd x) (← cOd y))

def cBuiltin (P : Program) (args : Array Operand) (argTypes : Array TypeId) : Builtin → Option AOp
  | .len => do
    let x ← args[0]?
    let t ← argTypes[0]?
    match P.underlying t with
    | some (.array n _) => some (.lenC n)
    | some .string => (cOd x).map .lenStr
    | some (.slice _) => (cOd x).map .lenSl
    | _ => none
  | .min => do pure (.minmax false (← cOds args.toList))
  | .max => do pure (.minmax true (← cOds args.toList))
  | .append => do
    let x ← args[0]?
    let y ← args[1]?
    let t ← argTypes[0]?
    let u ← argTypes[1]?
    match P.underlying t with
    | some (.slice e) => do
      let i ← P.info? e
      let _ ← zeroC P e
      match P.underlying u with
      | some (.slice _) | some .string =>
        if i.size = 0 || args.size != 2 then none else
        pure (.append i.size i.bytes (← cOd x) (← cOd y))
      | _ => none
    | _ => none
  | .copy => do
    let x ← args[0]?
    let y ← args[1]?
    let t ← argTypes[0]?
    match P.underlying t with
    | some (.slice e) => do
      let i ← P.info? e
      if i.size = 0 then none else
      pure (.copy i.size (← cOd x) (← cOd y))
    | _ => none
  | _ => none

def Callable (P : Program) (f : Nat) : Bool :=
  match P.funcs[f]? with
  | some fn => fn.name != "runtime.NumGoroutine" && fn.body.isSome
  | none => false

def cCall (P : Program) (c : Callee) (args : Array Operand) (argTypes : Array TypeId) : Option AOp :=
  match c with
  | .builtin b => cBuiltin P args argTypes b
  | .value (.func f) => if Callable P f then do pure (.call f (← cOds args.toList)) else none
  | .value f => do pure (.callv (← cOd f) (← cOds args.toList))
  | .invoke _ _ => none

def cOp (P : Program) : Op → Option AOp
  | .move x | .assign x => (cOd x).map .mov
  | .pick c a b => do pure (.pick (← cOd c) (← cOd a) (← cOd b))
  | .alloc t => (zeroC P t).map .alloc
  | .box _ x => (cOd x).map .box
  | .build t parts => do
    let zs ← zeroC P t
    match P.underlying t with
    | some (.struct fields) => do
      let places ← fields.toList.mapM (fun f => (P.info? f.type).map fun i => (f.offset, i.size))
      pure (.build zs (← cParts (fun i => places.toArray[i]?) parts.toList))
    | some (.array _ e) => do
      let sz ← sizeC P e
      pure (.build zs (← cParts (fun i => some (i * sz, sz)) parts.toList))
    | _ => none
  | .buildSlice t n parts =>
    match P.underlying t with
    | some (.slice e) => do
      let sz ← sizeC P e
      let zs ← zeroC P e
      if sz = 0 || n * sz > 2 ^ 20 then none else
      pure (.buildSl sz n zs (← cParts (fun i => some (i * sz, sz)) parts.toList))
    | _ => none
  | .load t x => do pure (.load (← kindOf P t) (← cOd x))
  | .store t a x => do pure (.store (← sizeC P t) (← cOd a) (← cOd x))
  | .nilCheck x => (cOd x).map .nilChk
  | .binOp op t x y _ =>
    match op, P.underlying t with
    | .eql, some (.int _) | .neq, some (.int _) | .eql, some .string | .neq, some .string => do pure (.bin op (← cOd x) (← cOd y))
    | .eql, some .bool => do pure (.eqB false (← cOd x) (← cOd y))
    | .neq, some .bool => do pure (.eqB true (← cOd x) (← cOd y))
    | .eql, some (.slice _) => do pure (.eqNil false (← cOd x) (← cOd y))
    | .neq, some (.slice _) => do pure (.eqNil true (← cOd x) (← cOd y))
    | .eql, some (.struct _) | .eql, some (.array _ _) => cEqA P false t x y
    | .neq, some (.struct _) | .neq, some (.array _ _) => cEqA P true t x y
    | .eql, _ | .neq, _ => none
    | _, _ => do pure (.bin op (← cOd x) (← cOd y))
  | .unOp op _ x => (cOd x).map (.un op)
  | .convert src dst x =>
    match P.underlying src, P.underlying dst with
    | some (.int _), some (.int k) => (cOd x).map (.conv k)
    | some .string, some .string => (cOd x).map .same
    | some (.slice _), some (.slice e) => if src = dst then match P.underlying e with
      | some (.int .u8) => (cOd x).map .mark
      | _ => none else none
    | some (.slice e), some .string => match P.underlying e with
      | some (.int .u8) => if sizeC P e = some 1 then (cOd x).map .toStr else none
      | _ => none
    | some .string, some (.slice e) => match P.underlying e with
      | some (.int .u8) => if sizeC P e = some 1 then (cOd x).map .toBytes else none
      | _ => none
    | _, _ => none
  | .makeSlice t l c =>
    match P.underlying t with
    | some (.slice e) => do
      let i ← P.info? e
      let zs ← zeroC P e
      if i.size = 0 then none else
      pure (.mkSl i.size i.bytes zs (← cOd l) (← cOd c))
    | _ => none
  | .slice t x lo hi none =>
    match P.underlying t with
    | some (.array n e) => do
      let sz ← sizeC P e
      if sz = 0 then none else
      pure (.sliceArr n sz (← cOd x) (← cOpt lo) (← cOpt hi))
    | some (.slice e) => do
      let sz ← sizeC P e
      if sz = 0 then none else
      pure (.sliceSl sz (← cOd x) (← cOpt lo) (← cOpt hi))
    | some .string => do pure (.sliceStr (← cOd x) (← cOpt lo) (← cOpt hi))
    | _ => none
  | .fieldAddr t x f =>
    match P.underlying t with
    | some (.struct fields) => do
      let f ← fields[f]?
      let n ← sizeC P f.type
      if n = 0 then none else
      pure (.fieldAddr f.offset (← cOd x))
    | _ => none
  | .field t x f =>
    match P.underlying t with
    | some (.struct fields) => do
      let f ← fields[f]?
      pure (.field f.offset (← kindOf P f.type) (← cOd x))
    | _ => none
  | .indexAddr t x i =>
    match P.underlying t with
    | some (.array n e) => do
      let sz ← sizeC P e
      if sz = 0 || n ≤ 1 then none else
      pure (.idxArr n sz (← cOd x) (← cOd i))
    | some (.slice e) => do
      let sz ← sizeC P e
      if sz = 0 then none else
      pure (.idxSl sz (← cOd x) (← cOd i))
    | _ => none
  | .index t x i =>
    match P.underlying t with
    | some (.array n e) => do
      let sz ← sizeC P e
      if sz = 0 then none else
      pure (.indexArr n sz (← kindOf P e) (← cOd x) (← cOd i))
    | some .string => do pure (.indexStr (← cOd x) (← cOd i))
    | _ => none
  | .extract x i => do pure (.extract (← cOd x) i)
  | .makeFunc (.func f) first caps => if first.isEmpty then do pure (.mkFunc f (← cOds caps.toList)) else none
  | .call c => cCall P c.callee c.args c.argTypes
  | _ => none

/-- The slot in which the operation that a guard names leaves its answer. -/
def cGuard (ops : Array Oper) : Option (Nat × Bool) → Option (Option (Nat × Bool))
  | none => some none
  | some (j, want) => match (ops[j]?).bind (·.dst) with
    | some d => some (some (d, want))
    | none => none

/-- Of each operation which others come ahead of it, by the edges that bind always: a bit each. -/
def masks : List Oper → List Nat → List Nat
  | [], acc => acc
  | o :: os, acc => masks os (acc ++ [o.after.toList.foldl (fun s e => if Region.binds .any e then s ||| 2 ^ e.on ||| acc.getD e.on 0 else s) 0])

def bef (ms : List Nat) (i j : Nat) : Bool := (ms.getD j 0).testBit i

def looks (ops : Array Oper) (o : Oper) : List Nat :=
  (o.op.operands.toList.filterMap fun | .tmp t => some t | _ => none) ++
  (match o.guard with
   | some (g, _) => ((ops[g]?).bind (·.dst)).toList
   | none => [])

/-- Neither of two operations looks at, or writes, what the other one writes. -/
def apartOps (ops : Array Oper) (x y : Oper) : Bool :=
  (match x.dst with
   | some d => !(looks ops y).contains d && y.dst != some d
   | none => true) &&
  (match y.dst with
   | some d => !(looks ops x).contains d
   | none => true)

/-- May an operation write memory that was there? -/
def mayWrite : Op → Bool
  | .store .. => true
  | .call { callee := .builtin .append, .. } => true
  | .call { callee := .builtin .copy, .. } => true
  | .call { callee := .builtin _, .. } => false
  | .call _ => true
  | _ => false

/-- May an operation read memory that is owned? -/
def mayTouch : Op → Bool
  | .load .. => true
  | .slice .. => true
  | .convert .. => true
  | .call { callee := .builtin .len, .. } => false
  | .call { callee := .builtin .min, .. } => false
  | .call { callee := .builtin .max, .. } => false
  | .store .. => true
  | .call _ => true
  | _ => false

/-- All pairs of places below 'n', the smaller one first. -/
def allPairs (n : Nat) : List (Nat × Nat) := (List.range n).flatMap fun j => (List.range j).map fun i => (i, j)

/-- The pairs that are not bound. -/
def freePairs (ops : List Oper) : List (Nat × Nat) :=
  let ms := masks ops []
  (allPairs ops.length).filter fun (i, j) => !bef ms i j

def opAt (ops : List Oper) (i : Nat) : Oper := ops.getD i default

/-- A region whose order is drawn: each edge goes back, and what is not bound is apart. -/
def drawOK (ops : Array Oper) (l : List Oper) (free : List (Nat × Nat)) : Bool :=
  (l.zipIdx.all fun (o, j) => o.after.toList.all fun e => !Region.binds .any e || decide (e.on < j)) &&
  free.all fun (i, j) => apartOps ops (opAt l i) (opAt l j)

def cOps (P : Program) (ops : Array Oper) : List Oper → Option (List AOper)
  | [] => some []
  | o :: rest => do
    let op ← cOp P o.op
    let g ← cGuard ops o.guard
    let r ← cOps P ops rest
    pure ({ dst := o.dst, op, guard := g } :: r)

/-- The pairs of which it is to be shown that they touch no memory that the other one writes. -/
def askedPairs (l : List Oper) (free : List (Nat × Nat)) : List (Nat × Nat) :=
  free.filter fun (i, j) => (mayWrite (opAt l i).op && mayTouch (opAt l j).op) || (mayWrite (opAt l j).op && mayTouch (opAt l i).op)

def cCode (P : Program) : Code → Option ACode
  | .skip => some .skip
  | .region _ ops draw =>
    match draw with
    | false => (cOps P ops ops.toList).map (.region [])
    | true =>
      let l := ops.toList
      let free := freePairs l
      if drawOK ops l free then (cOps P ops l).map (.region (askedPairs l free)) else none
  | .seq a b => do pure (.seq (← cCode P a) (← cCode P b))
  | .cond c a b => do pure (.cond (← cOd c) (← cCode P a) (← cCode P b))
  | .block id c => (cCode P c).map (.block id)
  | .loop c => (cCode P c).map .loop
  | .exit id => some (.exit id)
  | .ret => some .ret
  | _ => none

def cRes (P : Program) : List ResultVar → Option (List ARes)
  | [] => some []
  | .tmp t :: r => do pure (.tmp t :: (← cRes P r))
  | .cell t ty :: r => do pure (.cell t (← kindOf P ty) :: (← cRes P r))

end
end Go.Proofs.Ytlahigboaeadmaa.VA
