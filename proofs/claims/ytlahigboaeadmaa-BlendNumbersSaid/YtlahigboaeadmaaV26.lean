/- Rows of bytes that a function makes: their blocks are 'bs l'. -/
import Derived.Test.YtlahigboaeadmaaV25
set_option linter.unusedVariables false
set_option linter.unusedSimpArgs false
namespace Go.Proofs.Ytlahigboaeadmaa.VA
open Go

def z1 : List Value := [.int .u8 0]
def by8 (x : Int) : UInt8 := UInt8.ofNat x.toNat
theorem by8_V (x : Int) (h0 : 0 ≤ x) (h1 : x ≤ 255) : V.sc (.int .u8 x) = u8V (by8 x) := by
  have : (by8 x).toNat = x.toNat := by rw [by8, UInt8.toNat_ofNat']; omega
  rw [u8V, this]; congr 2; omega
theorem by8_nat (b : UInt8) : by8 (b.toNat : Int) = b := by
  apply UInt8.toNat_inj.1
  rw [by8, UInt8.toNat_ofNat']
  have := b.toNat_lt
  simp
theorem wrap8_lo (x : Int) : (0 ≤ IntKind.u8.wrap x) = True := by
  have : IntKind.u8.wrap x = x % 256 := rfl
  rw [this]; exact eq_true (by omega)
theorem wrap8_hi (x : Int) : (IntKind.u8.wrap x ≤ 255) = True := by
  have : IntKind.u8.wrap x = x % 256 := rfl
  rw [this]; exact eq_true (by omega)
theorem u8_lo (b : UInt8) : (0 ≤ (b.toNat : Int)) = True := eq_true (by omega)
theorem u8_hi (b : UInt8) : ((b.toNat : Int) ≤ 255) = True := eq_true (by have := b.toNat_lt; omega)

/-- The block of a row that is written down. -/
def blkOf (zs : List Value) (cs : List V) : List V := cs
def asB (cs : List V) : List V := cs
def consB (x : Int) (l : List V) : List V := .sc (.int .u8 x) :: l
theorem blk_z1 (cs : List V) : blkOf z1 cs = asB cs := rfl
theorem blk_cons (v : Value) (zs : List Value) (cs : List V) : blkOf (v :: zs) cs = cs := rfl
theorem asB_nil : asB [] = bs [] := rfl
theorem asB_cons (x : Int) (l : List V) : asB (.sc (.int .u8 x) :: l) = consB x (asB l) := rfl
theorem asB_consV (x : UInt8) (l : List V) : asB (u8V x :: l) = consB x.toNat (asB l) := rfl
theorem consB_bs (x : Int) (l : List UInt8) (h0 : 0 ≤ x) (h1 : x ≤ 255) : consB x (bs l) = bs (by8 x :: l) := by
  rw [consB, by8_V x h0 h1]; rfl
theorem z1_sc : z1.map V.sc = [vi .u8 0] := rfl
theorem op_buildSlB (S : List V) (H : Heap) (sz n : Nat) (zs : List Value) (parts : List (Nat × Nat × Od)) : evOp S H (.buildSl sz n zs parts) = (match fillV (zeroLit zs n) (evParts S parts) with | some cs => some (.sref H.length 0 n sz, H ++ [some (blkOf zs cs)]) | none => none) := op_buildSl S H sz n zs parts
theorem zc_z1 (n : Nat) : zeroCells z1 n = bs (List.replicate n 0) := by
  have : (z1.map V.sc) = [vi .u8 0] := rfl
  simp only [zeroCells, this, bs, List.map_replicate]
  induction n with
  | zero => rfl
  | succ n ih => rw [List.replicate_succ, List.flatten_cons, ih, List.replicate_succ]; rfl

/-- What is appended, and where. -/
def appB (H : Heap) (sz bytes m : Nat) (ys : List V) (id off n s : Nat) (cells : List V) : Option (V × Heap) :=
  if off = 0 ∧ s = sz ∧ n * sz ≤ cells.length ∧ (n + m) * bytes ≤ 2 ^ 47 ∧ n + m ≤ 2 ^ 47 then
    some (.sref H.length 0 (n + m) sz, H.set id none ++ [some (cells.take (n * sz) ++ ys)])
  else none
theorem app_sref (H : Heap) (sz bytes m : Nat) (ys : List V) (id off n s : Nat) : evAppend H sz bytes (some (m, ys)) (.sref id off n s) = (match blkAt H id with | some cells => appB H sz bytes m ys id off n s cells | none => none) := rfl
theorem app_nil (H : Heap) (sz bytes m : Nat) (ys : List V) : evAppend H sz bytes (some (m, ys)) (.sc (.slice none 0 0)) = if m = 0 then some (.sc (.slice none 0 0), H) else if m * bytes ≤ 2 ^ 47 ∧ m ≤ 2 ^ 47 then some (.sref H.length 0 m sz, H ++ [some ys]) else none := rfl
/-- Short enough to grow by k. -/
def Sm (l : List UInt8) (k : Nat) : Prop := l.length + k ≤ 140737488355328
theorem sm_app1 (l : List UInt8) (x : UInt8) (k : Nat) : Sm (l ++ [x]) k = Sm l (k + 1) := by simp only [Sm, List.length_append, List.length_singleton, eq_iff_iff]; omega
theorem sm_nil (k : Nat) : Sm [] k = (k ≤ 140737488355328) := by simp [Sm]
theorem sm_one (x : UInt8) (k : Nat) : Sm [x] k = (k + 1 ≤ 140737488355328) := by simp only [Sm, List.length_singleton, eq_iff_iff]; omega
theorem app_bs (H : Heap) (l ys : List UInt8) (id n m : Nat) (hn : n = l.length) (hm : m = ys.length) (hle : Sm l ys.length) :
    appB H 1 1 m (bs ys) id 0 n 1 (bs l) = some (.sref H.length 0 (l ++ ys).length 1, H.set id none ++ [some (bs (l ++ ys))]) := by
  subst hn; subst hm
  have hle' : l.length + ys.length ≤ 140737488355328 := hle
  unfold appB
  rw [if_pos ⟨rfl, rfl, by rw [bs_len]; omega, by omega, by omega⟩, Nat.mul_one, List.take_of_length_le (by rw [bs_len]; exact Nat.le_refl _), bs_app, List.length_append]
def slB (sz id off n s : Nat) (cells : List V) : Option (Nat × List V) := if s = sz ∧ off + n * sz ≤ cells.length then some (n, (cells.drop off).take (n * sz)) else none
theorem sl_sref (H : Heap) (sz id off n s : Nat) : slCells H sz (.sref id off n s) = (match blkAt H id with | some cells => slB sz id off n s cells | none => none) := rfl
theorem src_sref (H : Heap) (sz id off n s : Nat) : srcCells H sz (.sref id off n s) = (match blkAt H id with | some cells => slB sz id off n s cells | none => none) := rfl
theorem src_nil (H : Heap) (sz : Nat) : srcCells H sz (.sc (.slice none 0 0)) = some (0, []) := rfl
theorem sl_nil (H : Heap) (sz : Nat) : slCells H sz (.sc (.slice none 0 0)) = some (0, []) := rfl
theorem slB_bs (l : List UInt8) (id off n : Nat) (h : off + n ≤ l.length) : slB 1 id off n 1 (bs l) = some (((l.drop off).take n).length, bs ((l.drop off).take n)) := by
  unfold slB
  rw [if_pos ⟨rfl, by rw [bs_len]; omega⟩, bs_drop, Nat.mul_one, bs_take]
  congr 2
  simp; omega
theorem slB_all (l : List UInt8) (id n : Nat) (h : n = l.length) : slB 1 id 0 n 1 (bs l) = some (l.length, bs l) := by
  subst h
  rw [slB_bs l id 0 _ (by omega), List.drop_zero, List.take_length]
theorem slB_dg {k : Nat} (d : Bn k) (id n : Nat) (h : n = k) : slB 1 id 0 n 1 (dg d) = some (k, bs d.1) := by
  rw [dg, slB_all d.1 id n (by rw [d.2]; exact h), d.2]
theorem toBytes_st (H : Heap) (l : List UInt8) (h : l.length ≤ 70368744177664) : evToBytes H (st l) = some (.sref H.length 0 l.length 1, H ++ [some (bs l)]) := by
  have e : (⟨l.toArray⟩ : ByteArray).size = l.length := by simp [ByteArray.size]
  simp only [st, evToBytes, e]
  rw [if_pos (by omega)]; rfl
theorem strOf_bs' (H : Heap) (l : List UInt8) : (strOf (bs l)).map (fun l => ((V.sc (.string ⟨l.toArray⟩), H) : V × Heap)) = some (st l, H) := by rw [strOf_bs]; rfl
theorem copy_bs (l ys : List UInt8) (n : Nat) (h : ys.length ≤ l.length) (hn : n = ys.length) : splice (bs l) 0 ((bs ys).take n) = bs (ys ++ l.drop ys.length) := by
  subst hn
  rw [bs_take, List.take_length]
  simp only [splice, List.take_zero, List.nil_append, Nat.zero_add, bs_len, bs_drop, bs_app]
theorem rd_bs (l : List UInt8) (i : Nat) (h : i < l.length) : rd none (bs l) i = some (vi .u8 (l.getD i 0).toNat) := by
  simp [rd, bs, u8V, h]
theorem rd_dg {k : Nat} (d : Bn k) (i : Nat) (h : i < k) : rd none (dg d) i = some (vi .u8 (d.1.getD i 0).toNat) := rd_bs _ _ (by rw [d.2]; exact h)
theorem rd_drop1 (cs : List V) (n : Nat) : rd none (cs.drop n) 0 = rd none cs n := by simp [rd]
theorem rd_dropk (cs : List V) (n m : Nat) (hm : 0 < m) : rd (some m) (cs.drop n) 0 = rd (some m) cs n := by
  simp only [rd, List.length_drop, List.drop_zero, Nat.zero_add]
  by_cases h : n + m ≤ cs.length
  · rw [if_pos h, if_pos (by omega)]
  · rw [if_neg h, if_neg (by omega)]
theorem sp_dg8 {n : Nat} (d : Bn n) (i : Nat) (x : Int) (h : i < n) (h0 : 0 ≤ x) (h1 : x ≤ 255) : splice (dg d) i [.sc (.int .u8 x)] = dg (d.set i (by8 x)) := sp_dg d i x h h0 h1
theorem bnd_none (S : List V) (d m : Nat) : bnd S none d m = some d := rfl
theorem bnd_some (S : List V) (x : Od) (d m : Nat) : bnd S (some x) d m = (match intOf? (x.ev S) with | some i => if 0 ≤ i ∧ i ≤ m then some i.toNat else none | none => none) := rfl
/-- A row of bytes that is only read. -/
theorem arg_row {H : Heap} {bs' : List Nat} {id off n : Nat} {L : List UInt8} (hb : blkAt H id = some (bs L)) (hi : id ∈ bs') (h : off + n ≤ L.length) : ArgRel H [] bs' (.sref id off n 1) (rowV (.of ((L.drop off).take n))) := by
  simp only [ArgRel]
  refine .inr ⟨by simp, hi, bs L, hb, by rw [bs_len]; omega, ?_, ?_⟩
  · rw [bs_drop, bs_take]; exact bs_closed _
  · rw [bs_drop, Nat.mul_one, bs_take, rowV]
    congr 1
    simp; omega
theorem arg_rowA {H : Heap} {bs' : List Nat} {id n : Nat} {L : List UInt8} (hb : blkAt H id = some (bs L)) (hi : id ∈ bs') (h : n = L.length) : ArgRel H [] bs' (.sref id 0 n 1) (rowV (.of L)) := by
  have := arg_row (off := 0) (n := n) hb hi (by omega)
  rwa [List.drop_zero, h, List.take_length, ← h] at this
theorem arg_dg {H : Heap} {bs' : List Nat} {id n k : Nat} {d : Bn k} (hb : blkAt H id = some (dg d)) (hi : id ∈ bs') (h : n = k) : ArgRel H [] bs' (.sref id 0 n 1) (rowV (.of d.1)) :=
  arg_rowA hb hi (by rw [d.2]; exact h)
theorem args1 {H : Heap} {ids bs : List Nat} {v a : V} (h : ArgRel H ids bs v a) : ArgRelL H ids bs [v] [a] := by simp only [ArgRelL]; exact ⟨a, [], rfl, h, rfl⟩
theorem args_c {H : Heap} {ids bs : List Nat} {v a : V} {vs us : List V} (h : ArgRel H ids bs v a) (k : ArgRelL H ids bs vs us) : ArgRelL H ids bs (v :: vs) (a :: us) := by simp only [ArgRelL]; exact ⟨a, us, rfl, h, k⟩
theorem args_n {H : Heap} {ids bs : List Nat} : ArgRelL H ids bs [] [] := rfl
theorem sp_bs (l : List UInt8) (i : Nat) (x : Int) (h : i < l.length) (h0 : 0 ≤ x) (h1 : x ≤ 255) : splice (bs l) i [.sc (.int .u8 x)] = bs (l.set i (by8 x)) := by
  rw [splice_one _ _ _ (by rw [bs_len]; exact h), by8_V x h0 h1, bs_set]
theorem sp_bsV (l : List UInt8) (i : Nat) (x : UInt8) (h : i < l.length) : splice (bs l) i [u8V x] = bs (l.set i x) := by
  rw [splice_one _ _ _ (by rw [bs_len]; exact h), bs_set]

theorem bn_len {n : Nat} (d : Bn n) : d.1.length = n := d.2
theorem slice_nil (S : List V) (H : Heap) (sz : Nat) (lo hi : Option Od) : evSlice S H sz lo hi (.sc (.slice none 0 0)) = (match bnd S hi 0 0 with
    | some h => match bnd S lo 0 h with
      | some _ => some (.sc (.slice none 0 0), H)
      | none => none
    | none => none) := rfl
theorem no_ro_dg {n : Nat} (d : Bn n) : NoROL (dg d) := no_ro_bs _

theorem rep_dead (n : Nat) : List.replicate (n + 1) V.dead = V.dead :: List.replicate n V.dead := rfl

theorem ids_bs (l : List UInt8) : idsInL (bs l) = [] := by
  induction l with
  | nil => rfl
  | cons x l ih => show [] ++ idsInL (bs l) = []; rw [ih]; rfl
theorem ids_dg {n : Nat} (d : Bn n) : idsInL (dg d) = [] := ids_bs _
theorem ids_row (r : Row) : idsIn (rowV r) = [] := by cases r <;> rfl
theorem ids_ints (k : IntKind) (r : Ints) : idsIn (intsV k r) = [] := by cases r <;> rfl
theorem ids_nil : idsInL [] = [] := rfl
theorem ids_cons (v : V) (vs : List V) : idsInL (v :: vs) = idsIn v ++ idsInL vs := rfl
theorem ids_sc (v : Value) : idsIn (.sc v) = [] := rfl
theorem ids_agg (cs : List V) : idsIn (.agg cs) = idsInL cs := rfl
theorem ids_ref (i o : Nat) : idsIn (.ref i o) = [i] := rfl
theorem ids_sref (i o n s : Nat) : idsIn (.sref i o n s) = [i] := rfl
theorem ids_sl (n : Nat) (cs : List V) : idsIn (.sl n cs) = [] := rfl
theorem call_roA {P : Program} {f : Nat} {args' : List V} {r : V} (hC : C P f args' [] r []) {H : Heap} {args : List V} (hbs : ∀ id ∈ idsInL args, ∃ cells, blkAt H id = some cells)
    (hrel : ArgRelL H [] (idsInL args) args args') (hr : Closed r) (hro : NoRO r) : CallRel P f H args r H (idsInL args) [] := call_ro hC _ (fun id h => ⟨h, hbs id h⟩) hrel hr hro
theorem call_roA_new {P : Program} {f : Nat} {args' : List V} {n sz : Nat} {cells : List V} (hC : C P f args' [] (.sref 0 0 n sz) [some cells]) {H : Heap} {args : List V} (hbs : ∀ id ∈ idsInL args, ∃ cells, blkAt H id = some cells)
    (hrel : ArgRelL H [] (idsInL args) args args') (hc : ClosedL cells) (hro : NoROL cells) : CallRel P f H args (.sref H.length 0 n sz) (H ++ [some cells]) (idsInL args) [] := call_ro_new hC _ (fun id h => ⟨h, hbs id h⟩) hrel hc hro
theorem strOf_nil : strOf [] = some [] := rfl

/-! Words. -/
theorem w32_add (a b : Nat) : IntKind.u32.wrap ((a : Int) + b) = ((a + b) % 4294967296 : Nat) := by
  have : IntKind.u32.wrap ((a : Int) + b) = ((a : Int) + b) % 4294967296 := rfl
  rw [this]; omega
def xorW (a b : Nat) : Nat := (a % 4294967296) ^^^ (b % 4294967296)
def orW (a b : Nat) : Nat := (a % 4294967296) ||| (b % 4294967296)
theorem ofInt_nat (n a : Nat) : (BitVec.ofInt n (a : Int)).toNat = a % 2 ^ n := by simp
theorem xorW_lt (a b : Nat) : xorW a b < 4294967296 := Nat.xor_lt_two_pow (n := 32) (Nat.mod_lt _ (by decide)) (Nat.mod_lt _ (by decide))
theorem orW_lt (a b : Nat) : orW a b < 4294967296 := Nat.or_lt_two_pow (n := 32) (Nat.mod_lt _ (by decide)) (Nat.mod_lt _ (by decide))
theorem w32_nat (a : Nat) (h : a < 4294967296) : IntKind.u32.wrap (a : Int) = a := by
  have : IntKind.u32.wrap (a : Int) = (a : Int) % 4294967296 := rfl
  rw [this]; omega
theorem w32_xor (a b : Nat) : IntKind.u32.wrap (((BitVec.ofInt IntKind.u32.bits (a : Int) ^^^ BitVec.ofInt IntKind.u32.bits (b : Int)).toNat : Nat) : Int) = (xorW a b : Nat) := by
  have e : (BitVec.ofInt IntKind.u32.bits (a : Int) ^^^ BitVec.ofInt IntKind.u32.bits (b : Int)).toNat = xorW a b := by
    rw [BitVec.toNat_xor, ofInt_nat, ofInt_nat]; rfl
  rw [e, w32_nat _ (xorW_lt a b)]
theorem w32_or (a b : Nat) : IntKind.u32.wrap (((BitVec.ofInt IntKind.u32.bits (a : Int) ||| BitVec.ofInt IntKind.u32.bits (b : Int)).toNat : Nat) : Int) = (orW a b : Nat) := by
  have e : (BitVec.ofInt IntKind.u32.bits (a : Int) ||| BitVec.ofInt IntKind.u32.bits (b : Int)).toNat = orW a b := by
    rw [BitVec.toNat_or, ofInt_nat, ofInt_nat]; rfl
  rw [e, w32_nat _ (orW_lt a b)]

/-! Numbers that need no wrapping. -/
theorem i64_id (n : Int) (h1 : -9223372036854775808 ≤ n) (h2 : n ≤ 9223372036854775807) : IntKind.i64.wrap n = n := wrap_id n h1 h2
theorem u64_id (n : Int) (h1 : 0 ≤ n) (h2 : n ≤ 18446744073709551615) : IntKind.u64.wrap n = n := IntWalk.u64_in n ⟨h1, h2⟩
theorem u8_id (n : Int) (h1 : 0 ≤ n) (h2 : n ≤ 255) : IntKind.u8.wrap n = n := IntWalk.u8_in n ⟨h1, h2⟩
theorem u32_id (n : Int) (h1 : 0 ≤ n) (h2 : n ≤ 4294967295) : IntKind.u32.wrap n = n := IntWalk.u32_in n ⟨h1, h2⟩
theorem bits_u8 : IntKind.u8.bits = 8 := rfl
theorem bits_u32 : IntKind.u32.bits = 32 := rfl
theorem bits_u64 : IntKind.u64.bits = 64 := rfl
theorem bits_i64 : IntKind.i64.bits = 64 := rfl
theorem shr_nat (k yk : IntKind) (a : Nat) (s : Int) (h0 : 0 ≤ s) (h1 : s.toNat ≤ k.bits) : evBin .shr (.sc (.int k (a : Int))) (.sc (.int yk s)) = some (.sc (.int k ((a / 2 ^ s.toNat : Nat) : Int))) := by
  rw [bin_shr k yk _ _ h0, Nat.min_eq_left h1]
  have hp : (2 : Int) ^ s.toNat = ((2 ^ s.toNat : Nat) : Int) := by rw [Int.natCast_pow]; rfl
  rw [hp, Int.fdiv_eq_ediv_of_nonneg _ (Int.natCast_nonneg _), Int.natCast_ediv]
theorem shr_u64 (yk : IntKind) (a : Nat) (s : Int) (h0 : 0 ≤ s) (h1 : s.toNat ≤ 64) : evBin .shr (.sc (.int .u64 (a : Int))) (.sc (.int yk s)) = some (.sc (.int .u64 ((a / 2 ^ s.toNat : Nat) : Int))) := shr_nat _ _ _ _ h0 h1
theorem shr_u32 (yk : IntKind) (a : Nat) (s : Int) (h0 : 0 ≤ s) (h1 : s.toNat ≤ 32) : evBin .shr (.sc (.int .u32 (a : Int))) (.sc (.int yk s)) = some (.sc (.int .u32 ((a / 2 ^ s.toNat : Nat) : Int))) := shr_nat _ _ _ _ h0 h1
theorem quo_u64 (a : Nat) (b : Int) (hb : 0 < b) : evBin .quo (.sc (.int .u64 (a : Int))) (.sc (.int .u64 b)) = some (.sc (.int .u64 ((a / b.toNat % 18446744073709551616 : Nat) : Int))) := by
  rw [bin_quo .u64 _ _ (by omega), Int.tdiv_eq_ediv_of_nonneg (Int.natCast_nonneg _)]
  obtain ⟨c, rfl⟩ : ∃ c : Nat, b = c := ⟨b.toNat, by omega⟩
  rw [Int.toNat_natCast, ← Int.natCast_ediv]
  have e : ∀ x : Nat, IntKind.u64.wrap (x : Int) = ((x % 18446744073709551616 : Nat) : Int) := fun x => by
    have : IntKind.u64.wrap (x : Int) = (x : Int) % 18446744073709551616 := rfl
    rw [this]; omega
  rw [e]
theorem quo_u32 (a : Nat) (b : Int) (hb : 0 < b) : evBin .quo (.sc (.int .u32 (a : Int))) (.sc (.int .u32 b)) = some (.sc (.int .u32 ((a / b.toNat % 4294967296 : Nat) : Int))) := by
  rw [bin_quo .u32 _ _ (by omega), Int.tdiv_eq_ediv_of_nonneg (Int.natCast_nonneg _)]
  obtain ⟨c, rfl⟩ : ∃ c : Nat, b = c := ⟨b.toNat, by omega⟩
  rw [Int.toNat_natCast, ← Int.natCast_ediv]
  have e : ∀ x : Nat, IntKind.u32.wrap (x : Int) = ((x % 4294967296 : Nat) : Int) := fun x => by
    have : IntKind.u32.wrap (x : Int) = (x : Int) % 4294967296 := rfl
    rw [this]; omega
  rw [e]
theorem quo_i64 (a b : Int) (h : b ≠ 0) : evBin .quo (.sc (.int .i64 a)) (.sc (.int .i64 b)) = some (.sc (.int .i64 (IntKind.i64.wrap (a.tdiv b)))) := bin_quo .i64 a b h
theorem shl_u32 (yk : IntKind) (a : Nat) (s : Int) (h0 : 0 ≤ s) (h1 : s.toNat ≤ 32) : evBin .shl (.sc (.int .u32 (a : Int))) (.sc (.int yk s)) = some (.sc (.int .u32 ((a * 2 ^ s.toNat % 4294967296 : Nat) : Int))) := by
  rw [bin_shl .u32 yk _ _ h0, Nat.min_eq_left (show s.toNat ≤ IntKind.u32.bits from h1)]
  have e : IntKind.u32.wrap ((a : Int) * 2 ^ s.toNat) = ((a : Int) * 2 ^ s.toNat) % 4294967296 := rfl
  rw [e, Int.natCast_emod, Int.natCast_mul, Int.natCast_pow]; rfl
theorem shl_u32z (yk : IntKind) (s : Int) (h0 : 0 ≤ s) : evBin .shl (.sc (.int .u32 0)) (.sc (.int yk s)) = some (.sc (.int .u32 0)) := by
  rw [bin_shl .u32 yk _ _ h0, Int.zero_mul]; rfl
theorem or_u32 (a b : Nat) : evBin .or (.sc (.int .u32 (a : Int))) (.sc (.int .u32 (b : Int))) = some (.sc (.int .u32 ((orW a b : Nat) : Int))) := by rw [bin_or, w32_or]
theorem xor_u32 (a b : Nat) : evBin .xor (.sc (.int .u32 (a : Int))) (.sc (.int .u32 (b : Int))) = some (.sc (.int .u32 ((xorW a b : Nat) : Int))) := by rw [bin_xor, w32_xor]
theorem xor_u8 (a b : UInt8) : evBin .xor (.sc (.int .u8 (a.toNat : Int))) (.sc (.int .u8 (b.toNat : Int))) = some (.sc (.int .u8 ((a ^^^ b).toNat : Int))) := by
  rw [bin_xor]
  have ha := a.toNat_lt
  have hb := b.toNat_lt
  have e : (BitVec.ofInt IntKind.u8.bits (a.toNat : Int) ^^^ BitVec.ofInt IntKind.u8.bits (b.toNat : Int)).toNat = (a ^^^ b).toNat := by
    rw [BitVec.toNat_xor, ofInt_nat, ofInt_nat, UInt8.toNat_xor]
    have : (2 : Nat) ^ IntKind.u8.bits = 256 := by decide
    rw [this, Nat.mod_eq_of_lt ha, Nat.mod_eq_of_lt hb]
  rw [e, u8_id _ (by omega) (by have := (a ^^^ b).toNat_lt; omega)]
theorem or_u32z (b : Nat) : evBin .or (.sc (.int .u32 0)) (.sc (.int .u32 (b : Int))) = some (.sc (.int .u32 ((orW 0 b : Nat) : Int))) := by
  rw [bin_or]
  have := w32_or 0 b
  rw [show ((0 : Nat) : Int) = 0 from rfl] at this
  rw [this]
theorem rd_bs0 (l : List UInt8) (h : 0 < l.length) : rd none (bs l) 0 = some (vi .u8 (l.getD 0 0).toNat) := rd_bs l 0 h
theorem shl_u64 (yk : IntKind) (a : Nat) (s : Int) (h0 : 0 ≤ s) (h1 : s.toNat ≤ 64) : evBin .shl (.sc (.int .u64 (a : Int))) (.sc (.int yk s)) = some (.sc (.int .u64 ((a * 2 ^ s.toNat % 18446744073709551616 : Nat) : Int))) := by
  rw [bin_shl .u64 yk _ _ h0, Nat.min_eq_left (show s.toNat ≤ IntKind.u64.bits from h1)]
  have e : IntKind.u64.wrap ((a : Int) * 2 ^ s.toNat) = ((a : Int) * 2 ^ s.toNat) % 18446744073709551616 := rfl
  rw [e, Int.natCast_emod, Int.natCast_mul, Int.natCast_pow]; rfl
theorem by8_wrap (m : Nat) : by8 (IntKind.u8.wrap (m : Int)) = UInt8.ofNat m := by
  have e : IntKind.u8.wrap (m : Int) = ((m % 256 : Nat) : Int) := by
    have : IntKind.u8.wrap (m : Int) = (m : Int) % 256 := rfl
    rw [this]; omega
  rw [e, by8]
  apply UInt8.toNat_inj.1
  rw [UInt8.toNat_ofNat', UInt8.toNat_ofNat', Int.toNat_natCast]
  omega
theorem w32_u8 (b : UInt8) : IntKind.u32.wrap (b.toNat : Int) = b.toNat := w32_nat _ (by have := b.toNat_lt; omega)
theorem row_l_of (l : List UInt8) : (Row.of l).l = l := rfl
theorem row_l_nil : Row.nil.l = [] := rfl
theorem rd_bs_drop (l : List UInt8) (i : Nat) (h : i < l.length) : rd none (bs (l.drop i)) 0 = some (vi .u8 (l.getD i 0).toNat) := by
  rw [rd_bs _ _ (by rw [List.length_drop]; omega)]
  simp
theorem eqnil_nil (n c n' c' : Nat) : evEqNil (.sc (.slice none n c)) (.sc (.slice none n' c')) = some true := rfl
theorem eqnil_sl (n n' c' : Nat) (cs : List V) : evEqNil (.sl n cs) (.sc (.slice none n' c')) = some false := rfl
theorem eqnil_sref (i o n s n' c' : Nat) : evEqNil (.sref i o n s) (.sc (.slice none n' c')) = some false := rfl
theorem eqnil_of (l : List UInt8) (n' c' : Nat) : evEqNil (rowV (.of l)) (.sc (.slice none n' c')) = some false := rfl
theorem eqnil_rnil (n' c' : Nat) : evEqNil (rowV .nil) (.sc (.slice none n' c')) = some true := rfl
theorem via {A B : Prop} (h : A → B) (a : A) : B := h a

end Go.Proofs.Ytlahigboaeadmaa.VA
