/- Rows of bytes and texts; the operations' rules in small pieces; what arguments are. -/
import Derived.Test.YtlahigboaeadmaaV22
import Derived.Test.YtlahigboaeadmaaV16
set_option linter.unusedVariables false
set_option linter.unusedSimpArgs false
namespace Go.Proofs.Ytlahigboaeadmaa.VA
open Go

/-! A rule for each operation. -/
section
variable (S : List V) (H : Heap)
theorem op_mov (x : Od) : evOp S H (.mov x) = some (x.ev S, H) := rfl
theorem op_pick (c a b : Od) : evOp S H (.pick c a b) = (match c.ev S with | .sc (.bool t) => some (if t then a.ev S else b.ev S, H) | _ => none) := rfl
theorem op_alloc (zs : List Value) : evOp S H (.alloc zs) = some (.ref H.length 0, H ++ [some (zs.map .sc)]) := rfl
theorem op_box (x : Od) : evOp S H (.box x) = (match cellsV (x.ev S) with | some l => some (.ref H.length 0, H ++ [some l]) | none => none) := rfl
theorem op_build (zs : List Value) (parts : List (Nat × Nat × Od)) : evOp S H (.build zs parts) = (match fillV (zs.map .sc) (evParts S parts) with | some cs => some (.agg cs, H) | none => none) := rfl
def zeroLit (zs : List Value) : Nat → List V
  | 0 => []
  | n + 1 => zs.map .sc ++ zeroLit zs n
theorem zeroLit_eq (zs : List Value) : ∀ n, zeroCells zs n = zeroLit zs n
  | 0 => rfl
  | n + 1 => by
    have ih := zeroLit_eq zs n
    simp only [zeroCells, zeroLit] at ih ⊢
    rw [List.replicate_succ, List.flatten_cons, ih]
theorem zl_0 (zs : List Value) : zeroLit zs 0 = [] := rfl
theorem zl_S (zs : List Value) (n : Nat) : zeroLit zs (n + 1) = zs.map .sc ++ zeroLit zs n := rfl
theorem op_buildSl (sz n : Nat) (zs : List Value) (parts : List (Nat × Nat × Od)) : evOp S H (.buildSl sz n zs parts) = (match fillV (zeroLit zs n) (evParts S parts) with | some cs => some (.sref H.length 0 n sz, H ++ [some cs]) | none => none) := by
  rw [← zeroLit_eq]; rfl
def evLoad (H : Heap) (k : Option Nat) : V → Option (V × Heap)
  | .ref id off => match blkAt H id with
    | some cells => (rd k cells off).map fun v => (v, H)
    | none => none
  | .box cs => (rd k cs 0).map fun v => (v, H)
  | _ => none
theorem op_load (k : Option Nat) (x : Od) : evOp S H (.load k x) = evLoad H k (x.ev S) := by
  simp only [evOp]; unfold evLoad; rfl
theorem op_store (n : Nat) (a x : Od) : evOp S H (.store n a x) = (match a.ev S, cellsV (x.ev S) with
    | .ref id off, some l => match blkAt H id with
      | some cells => if l.length = n ∧ off + n ≤ cells.length then some (.dead, H.set id (some (splice cells off l))) else none
      | none => none
    | _, _ => none) := rfl
theorem op_nilChk (x : Od) : evOp S H (.nilChk x) = (match x.ev S with
    | .ref id off => some (.ref id off, H)
    | .box cs => some (.box cs, H)
    | .fn f caps => some (.fn f caps, H)
    | _ => none) := rfl
theorem op_bin (op : BinOp) (x y : Od) : evOp S H (.bin op x y) = (evBin op (x.ev S) (y.ev S)).map fun v => (v, H) := rfl
theorem op_eqB (neg : Bool) (x y : Od) : evOp S H (.eqB neg x y) = (match x.ev S, y.ev S with
    | .sc (.bool a), .sc (.bool b) => some (.sc (.bool (if neg then !(a == b) else a == b)), H)
    | _, _ => none) := rfl
theorem op_eqA (neg : Bool) (sh : List Bool) (x y : Od) : evOp S H (.eqA neg sh x y) = (evEqA sh (x.ev S) (y.ev S)).map fun b => (.sc (.bool (if neg then !b else b)), H) := rfl
theorem op_eqNil (neg : Bool) (x y : Od) : evOp S H (.eqNil neg x y) = (evEqNil (x.ev S) (y.ev S)).map fun b => (.sc (.bool (if neg then !b else b)), H) := rfl
theorem op_un (op : UnOp) (x : Od) : evOp S H (.un op x) = (match x.ev S with
    | .sc (.int k n) => (pureV (Op.unary op (.int k n))).map fun v => (.sc v, H)
    | .sc (.bool b) => (pureV (Op.unary op (.bool b))).map fun v => (.sc v, H)
    | _ => none) := rfl
theorem op_conv (k : IntKind) (x : Od) : evOp S H (.conv k x) = (match x.ev S with | .sc (.int _ n) => some (.sc (.int k (k.wrap n)), H) | _ => none) := rfl
theorem op_same (x : Od) : evOp S H (.same x) = (match x.ev S with | .sc (.string s) => some (.sc (.string s), H) | _ => none) := rfl
theorem op_mark (x : Od) : evOp S H (.mark x) = (match x.ev S with
    | .sref id off n sz => match blkAt H id with
      | some _ => some (.sref id off n sz, H)
      | none => none
    | _ => none) := rfl
theorem op_toStr (x : Od) : evOp S H (.toStr x) = (match slCells H 1 (x.ev S) with | some (_, cs) => (strOf cs).map fun l => (.sc (.string ⟨l.toArray⟩), H) | none => none) := rfl
def evToBytes (H : Heap) : V → Option (V × Heap)
  | .sc (.string s) => if s.size ≤ 2 ^ 46 then some (.sref H.length 0 s.size 1, H ++ [some (s.data.toList.map u8V)]) else none
  | _ => none
theorem op_toBytes (x : Od) : evOp S H (.toBytes x) = evToBytes H (x.ev S) := by simp only [evOp]; unfold evToBytes; rfl
theorem op_mkSl (sz bytes : Nat) (zs : List Value) (l c : Od) : evOp S H (.mkSl sz bytes zs l c) = (match intOf? (l.ev S), intOf? (c.ev S) with
    | some l, some c => if 0 ≤ l ∧ l ≤ c ∧ bytes * c ≤ 2 ^ 47 ∧ c ≤ 2 ^ 47 then some (.sref H.length 0 l.toNat sz, H ++ [some (zeroCells zs l.toNat)]) else none
    | _, _ => none) := rfl
theorem op_sliceArr (n sz : Nat) (x : Od) (lo hi : Option Od) : evOp S H (.sliceArr n sz x lo hi) = (match bnd S hi n n with
    | some h => match bnd S lo 0 h with
      | some l => match x.ev S with
        | .ref id off => match blkAt H id with
          | some cells => if off + n * sz ≤ cells.length then some (.sref id (off + l * sz) (h - l) sz, H) else none
          | none => none
        | .box cs => if n * sz ≤ cs.length then some (.sl (h - l) ((cs.drop (l * sz)).take ((h - l) * sz)), H) else none
        | _ => none
      | none => none
    | none => none) := rfl
def evSlice (S : List V) (H : Heap) (sz : Nat) (lo hi : Option Od) : V → Option (V × Heap)
  | .sc (.slice none 0 0) => match bnd S hi 0 0 with
    | some h => match bnd S lo 0 h with
      | some _ => some (.sc (.slice none 0 0), H)
      | none => none
    | none => none
  | .sl n cs => match bnd S hi n n with
    | some h => match bnd S lo 0 h with
      | some l => if cs.length = n * sz then some (.sl (h - l) ((cs.drop (l * sz)).take ((h - l) * sz)), H) else none
      | none => none
    | none => none
  | .sref id off n sz' => match bnd S hi n n with
    | some h => match bnd S lo 0 h with
      | some l => if sz' = sz then some (.sref id (off + l * sz) (h - l) sz, H) else none
      | none => none
    | none => none
  | _ => none
theorem op_sliceSl (sz : Nat) (x : Od) (lo hi : Option Od) : evOp S H (.sliceSl sz x lo hi) = evSlice S H sz lo hi (x.ev S) := by
  simp only [evOp]; unfold evSlice; rfl
theorem op_sliceStr (x : Od) (lo hi : Option Od) : evOp S H (.sliceStr x lo hi) = (match x.ev S with
    | .sc (.string s) => match bnd S hi s.size s.size with
      | some h => match bnd S lo 0 h with
        | some l => some (.sc (.string (s.extract l h)), H)
        | none => none
      | none => none
    | _ => none) := rfl
theorem op_fieldAddr (off : Nat) (x : Od) : evOp S H (.fieldAddr off x) = (match x.ev S with
    | .ref id o => some (.ref id (o + off), H)
    | .box cs => some (.box (cs.drop off), H)
    | _ => none) := rfl
theorem op_field (off : Nat) (k : Option Nat) (x : Od) : evOp S H (.field off k x) = (match x.ev S with
    | .agg cs => (rd k cs off).map fun v => (v, H)
    | _ => none) := rfl
theorem op_idxArr (n sz : Nat) (x i : Od) : evOp S H (.idxArr n sz x i) = (match intOf? (i.ev S) with
    | some i => if 0 ≤ i ∧ i < n then match x.ev S with
        | .ref id off => some (.ref id (off + i.toNat * sz), H)
        | .box cs => some (.box (cs.drop (i.toNat * sz)), H)
        | _ => none
      else none
    | none => none) := rfl
def evIdx (H : Heap) (sz : Nat) (i : Option Int) (x : V) : Option (V × Heap) :=
  match i, x with
    | some i, .sref id off n sz' => if 0 ≤ i ∧ i < n ∧ sz' = sz then some (.ref id (off + i.toNat * sz), H) else none
    | some i, .sl n cs => if 0 ≤ i ∧ i < n then some (.box (cs.drop (i.toNat * sz)), H) else none
    | _, _ => none
theorem op_idxSl (sz : Nat) (x i : Od) : evOp S H (.idxSl sz x i) = evIdx H sz (intOf? (i.ev S)) (x.ev S) := by
  simp only [evOp]; unfold evIdx; rfl
theorem op_indexArr (n sz : Nat) (k : Option Nat) (x i : Od) : evOp S H (.indexArr n sz k x i) = (match intOf? (i.ev S), x.ev S with
    | some i, .agg cs => if 0 ≤ i ∧ i < n then (rd k cs (i.toNat * sz)).map fun v => (v, H) else none
    | _, _ => none) := rfl
theorem op_indexStr (x i : Od) : evOp S H (.indexStr x i) = (match intOf? (i.ev S), x.ev S with
    | some i, .sc (.string s) => if 0 ≤ i then (s.data.toList[i.toNat]?).map fun b => (u8V b, H) else none
    | _, _ => none) := rfl
theorem op_extract (x : Od) (i : Nat) : evOp S H (.extract x i) = (match x.ev S with | .tup vs => (vs[i]?).map fun v => (v, H) | _ => none) := rfl
theorem op_lenC (n : Nat) : evOp S H (.lenC n) = some (.sc (.int .i64 n), H) := rfl
theorem op_lenStr (x : Od) : evOp S H (.lenStr x) = (match x.ev S with | .sc (.string s) => some (.sc (.int .i64 s.size), H) | _ => none) := rfl
def evLen (H : Heap) : V → Option (V × Heap)
  | .sc (.slice none 0 0) => some (.sc (.int .i64 0), H)
  | .sl n _ => some (.sc (.int .i64 n), H)
  | .sref _ _ n _ => some (.sc (.int .i64 n), H)
  | _ => none
theorem op_lenSl (x : Od) : evOp S H (.lenSl x) = evLen H (x.ev S) := by simp only [evOp]; unfold evLen; rfl
theorem op_minmax (mx : Bool) (xs : List Od) : evOp S H (.minmax mx xs) = (match allInts (xs.map (·.ev S)) with
    | some l => (pureV (if mx then Builtin.max_ #[] 0 l.toArray else Builtin.min_ #[] 0 l.toArray)).map fun v => (.sc v, H)
    | none => none) := rfl
def evAppend (H : Heap) (sz bytes : Nat) (y : Option (Nat × List V)) (x : V) : Option (V × Heap) :=
  match y with
    | some (m, ys) => match x with
      | .sc (.slice none 0 0) =>
        if m = 0 then some (.sc (.slice none 0 0), H)
        else if m * bytes ≤ 2 ^ 47 ∧ m ≤ 2 ^ 47 then some (.sref H.length 0 m sz, H ++ [some ys]) else none
      | .sref id off n sz' => match blkAt H id with
        | some cells =>
          if off = 0 ∧ sz' = sz ∧ n * sz ≤ cells.length ∧ (n + m) * bytes ≤ 2 ^ 47 ∧ n + m ≤ 2 ^ 47 then
            some (.sref H.length 0 (n + m) sz, H.set id none ++ [some (cells.take (n * sz) ++ ys)])
          else none
        | none => none
      | _ => none
    | none => none
theorem op_append (sz bytes : Nat) (x y : Od) : evOp S H (.append sz bytes x y) = evAppend H sz bytes (srcCells H sz (y.ev S)) (x.ev S) := by
  simp only [evOp]; unfold evAppend; rfl
theorem op_copy (sz : Nat) (x y : Od) : evOp S H (.copy sz x y) = (match srcCells H sz (y.ev S), x.ev S with
    | some (m, ys), .sref id off n sz' => match blkAt H id with
      | some cells => if sz' = sz ∧ off + n * sz ≤ cells.length then
          some (.sc (.int .i64 (min m n : Nat)), H.set id (some (splice cells off (ys.take (min m n * sz)))))
        else none
      | none => none
    | _, _ => none) := rfl
theorem op_mkFunc (f : Nat) (caps : List Od) : evOp S H (.mkFunc f caps) = some (.fn f (caps.map (·.ev S)), H) := rfl
end

theorem intOf_int (k : IntKind) (i : Int) : intOf? (.sc (.int k i)) = some i := rfl
theorem allInts_nil : allInts [] = some [] := rfl
theorem allInts_cons (k : IntKind) (i : Int) (r : List V) : allInts (.sc (.int k i) :: r) = (allInts r).map (.int k i :: ·) := rfl
theorem mn2 (k : IntKind) (a b : Int) : pureV (Builtin.min_ #[] 0 [Value.int k a, Value.int k b].toArray) = some (.int k (min a b)) := by
  have h : pureV (Builtin.min_ #[] 0 [Value.int k a, Value.int k b].toArray) = some (.int k (if b < a then b else a)) := rfl
  rw [h]; congr 2; split <;> omega
theorem mx2 (k : IntKind) (a b : Int) : pureV (Builtin.max_ #[] 0 [Value.int k a, Value.int k b].toArray) = some (.int k (max a b)) := by
  have h : pureV (Builtin.max_ #[] 0 [Value.int k a, Value.int k b].toArray) = some (.int k (if a < b then b else a)) := rfl
  rw [h]; congr 2; split <;> omega

theorem splice_one (l : List V) (i : Nat) (v : V) (h : i < l.length) : splice l i [v] = l.set i v := by
  simp only [splice, List.length_singleton]
  rw [List.set_eq_take_append_cons_drop, if_pos h]
  rfl
theorem bs_set (l : List UInt8) (i : Nat) (b : UInt8) : (bs l).set i (u8V b) = bs (l.set i b) := by simp [bs, List.map_set]
theorem sp_dgV {n : Nat} (d : Bn n) (i : Nat) (b : UInt8) (h : i < n) : splice (dg d) i [u8V b] = dg (d.set i b) := by
  rw [splice_one _ _ _ (by rw [dg_len]; exact h), dg, bs_set]; rfl
theorem sp_dg {n : Nat} (d : Bn n) (i : Nat) (x : Int) (h : i < n) (h0 : 0 ≤ x) (h1 : x ≤ 255) : splice (dg d) i [.sc (.int .u8 x)] = dg (d.set i (UInt8.ofNat x.toNat)) := by
  have e : V.sc (.int .u8 x) = u8V (UInt8.ofNat x.toNat) := by
    have : (UInt8.ofNat x.toNat).toNat = x.toNat := by rw [UInt8.toNat_ofNat']; omega
    rw [u8V, this]; congr 2; omega
  rw [e, sp_dgV d i _ h]

/-- A row of numbers that stand in the code. -/
def nums (k : IntKind) (l : List Int) : List V := l.map (vi k)
theorem nums_of (k : IntKind) (x : Int) (l : List Int) : vi k x :: nums k l = nums k (x :: l) := rfl
theorem nums_len (k : IntKind) (l : List Int) : (nums k l).length = l.length := by simp [nums]
theorem nums_closed (k : IntKind) (l : List Int) : ClosedL (nums k l) := ClosedL.mk fun v hv => by
  obtain ⟨x, _, rfl⟩ := List.mem_map.1 hv
  trivial
theorem rd_nums (k : IntKind) (l : List Int) (i : Nat) (h : i < l.length) : rd none (nums k l) i = some (vi k (l.getD i 0)) := by
  simp [rd, nums, h]

/-! Rows of bytes that are handed in, and texts. -/
inductive Row where
  | nil
  | of (l : List UInt8)
def Row.l : Row → List UInt8
  | .nil => []
  | .of l => l
def Row.cut : Row → Nat → Nat → Row
  | .nil, _, _ => .nil
  | .of l, a, b => .of ((l.drop a).take (b - a))
def rowV : Row → V
  | .nil => vnil
  | .of l => .sl l.length (bs l)
theorem cut_l (r : Row) (a b : Nat) : (r.cut a b).l = (r.l.drop a).take (b - a) := by cases r <;> simp [Row.cut, Row.l]
theorem row_closed (r : Row) : Closed (rowV r) := by cases r <;> simp [rowV, Closed, bs_closed]
theorem rowV_of (l : List UInt8) : V.sl l.length (bs l) = rowV (.of l) := rfl
theorem cells_row (r : Row) : cellsV (rowV r) = some [rowV r] := by cases r <;> rfl
theorem len_row (H : Heap) (r : Row) : evLen H (rowV r) = some (vi .i64 r.l.length, H) := by cases r <;> rfl
theorem len_sref (H : Heap) (i o n s : Nat) : evLen H (.sref i o n s) = some (vi .i64 n, H) := rfl
theorem len_nil (H : Heap) : evLen H (.sc (.slice none 0 0)) = some (vi .i64 0, H) := rfl
theorem len_sl (H : Heap) (n : Nat) (cs : List V) : evLen H (.sl n cs) = some (vi .i64 n, H) := rfl
theorem sl_row (H : Heap) (r : Row) : slCells H 1 (rowV r) = some (r.l.length, bs r.l) := by
  cases r with
  | nil => rfl
  | of l => simp [rowV, slCells, Row.l, bs_len]
theorem src_row (H : Heap) (r : Row) : srcCells H 1 (rowV r) = some (r.l.length, bs r.l) := by
  cases r with
  | nil => rfl
  | of l => simp [rowV, srcCells, slCells, Row.l, bs_len]
theorem slice_row (S : List V) (H : Heap) (lo hi : Option Od) (r : Row) : evSlice S H 1 lo hi (rowV r) = (match bnd S hi r.l.length r.l.length with
    | some h => match bnd S lo 0 h with
      | some l => some (rowV (r.cut l h), H)
      | none => none
    | none => none) := by
  cases r with
  | nil =>
    simp only [rowV, evSlice, Row.l, List.length_nil]
    cases bnd S hi 0 0 with
    | none => rfl
    | some h => cases hl : bnd S lo 0 h <;> simp only [hl] <;> rfl
  | of l =>
    simp only [rowV, evSlice, Row.l, bs_len, Nat.mul_one, if_true]
    cases hh : bnd S hi l.length l.length with
    | none => rfl
    | some h =>
      cases hl : bnd S lo 0 h with
      | none => simp [hl]
      | some x =>
        have hb : h ≤ l.length := by
          unfold bnd at hh
          split at hh
          · cases hh; exact Nat.le_refl _
          · split at hh
            · split at hh
              · rename_i h1
                cases hh; omega
              · cases hh
            · cases hh
        simp only [hl, Row.cut, rowV, bs_drop, bs_take, Option.some.injEq, Prod.mk.injEq, and_true, V.sl.injEq]
        simp; omega
theorem idx_row (H : Heap) (r : Row) (i : Int) : evIdx H 1 (some i) (rowV r) = if 0 ≤ i ∧ i < r.l.length then some (.box (bs (r.l.drop i.toNat)), H) else none := by
  cases r with
  | nil =>
    have h : ¬ (0 ≤ i ∧ i < (Row.nil.l.length : Nat)) := by simp only [Row.l, List.length_nil]; omega
    rw [if_neg h]; rfl
  | of l =>
    simp only [rowV, evIdx, Row.l, bs_drop, Nat.mul_one]
    rfl
theorem idx_sref (H : Heap) (sz : Nat) (i : Int) (id off n s : Nat) : evIdx H sz (some i) (.sref id off n s) = if 0 ≤ i ∧ i < n ∧ s = sz then some (.ref id (off + i.toNat * sz), H) else none := rfl
theorem idx_sl (H : Heap) (sz : Nat) (i : Int) (n : Nat) (cs : List V) : evIdx H sz (some i) (.sl n cs) = if 0 ≤ i ∧ i < n then some (.box (cs.drop (i.toNat * sz)), H) else none := rfl
theorem load_ref (H : Heap) (k : Option Nat) (id off : Nat) : evLoad H k (.ref id off) = (match blkAt H id with | some cells => (rd k cells off).map fun v => (v, H) | none => none) := rfl
theorem load_box (H : Heap) (k : Option Nat) (cs : List V) : evLoad H k (.box cs) = (rd k cs 0).map fun v => (v, H) := rfl
theorem slice_sref (S : List V) (H : Heap) (sz : Nat) (lo hi : Option Od) (id off n s : Nat) : evSlice S H sz lo hi (.sref id off n s) = (match bnd S hi n n with
    | some h => match bnd S lo 0 h with
      | some l => if s = sz then some (.sref id (off + l * sz) (h - l) sz, H) else none
      | none => none
    | none => none) := rfl

/-- A text. -/
def st (l : List UInt8) : V := .sc (.string ⟨l.toArray⟩)
theorem st_closed (l : List UInt8) : Closed (st l) := trivial
theorem st_of (l : List UInt8) : V.sc (.string ⟨l.toArray⟩) = st l := rfl
theorem st_eq (a b : List UInt8) : evBin .eql (st a) (st b) = some (vb (decide (a = b))) := by
  simp only [st, evBin, binOp, Op.stringOp, pureV, pure, ByteArray.toList_eq]
  by_cases h : a = b
  · simp [h]
  · simp [h]
theorem st_ne (a b : List UInt8) : evBin .neq (st a) (st b) = some (vb (!decide (a = b))) := by
  simp only [st, evBin, binOp, Op.stringOp, pureV, pure, ByteArray.toList_eq]
  by_cases h : a = b
  · simp [h]
  · simp [h]

/-- Rows of numbers that are handed in. -/
inductive Ints where
  | nil
  | of (l : List Int)
def Ints.l : Ints → List Int
  | .nil => []
  | .of l => l
def intsV (k : IntKind) : Ints → V
  | .nil => vnil
  | .of l => .sl l.length (l.map (vi k))
theorem len_ints (H : Heap) (k : IntKind) (r : Ints) : evLen H (intsV k r) = some (vi .i64 r.l.length, H) := by cases r <;> rfl
theorem idx_ints (H : Heap) (k : IntKind) (r : Ints) (i : Int) : evIdx H 1 (some i) (intsV k r) = if 0 ≤ i ∧ i < r.l.length then some (.box ((r.l.drop i.toNat).map (vi k)), H) else none := by
  cases r with
  | nil =>
    have h : ¬ (0 ≤ i ∧ i < (Ints.nil.l.length : Nat)) := by simp only [Ints.l, List.length_nil]; omega
    rw [if_neg h]; rfl
  | of l =>
    simp only [intsV, evIdx, Ints.l, Nat.mul_one, List.map_drop]
theorem ints_closed (k : IntKind) (r : Ints) : Closed (intsV k r) := by
  cases r with
  | nil => trivial
  | of l =>
    simp only [intsV, Closed]
    exact ClosedL.mk fun v hv => by
      obtain ⟨x, _, rfl⟩ := List.mem_map.1 hv
      trivial
theorem cells_ints (k : IntKind) (r : Ints) : cellsV (intsV k r) = some [intsV k r] := by cases r <;> rfl


end Go.Proofs.Ytlahigboaeadmaa.VA
