/- Texts of this proof, one behind the other: V22, V23, V25, V26, V27, V28, V29, V30, V24, V31, V32, V33, V34, V35, V39. -/
import Derived.Test.YtfpoebmihjbknaaGreatVB
/- Bytes and rows of a fixed number of bytes as cells; how cells are read and written. -/
set_option linter.unusedVariables false
set_option linter.unusedSimpArgs false
namespace Go.Proofs.YtfpoebmihjbknaaGreat.VA
open Go
def bs (l : List UInt8) : List V := l.map u8V
theorem bs_len (l : List UInt8) : (bs l).length = l.length := by simp [bs]
theorem bs_app (a b : List UInt8) : bs (a ++ b) = bs a ++ bs b := by simp [bs]
theorem bs_take (l : List UInt8) (n : Nat) : (bs l).take n = bs (l.take n) := by simp [bs]
theorem bs_drop (l : List UInt8) (n : Nat) : (bs l).drop n = bs (l.drop n) := by simp [bs]
theorem bs_closed (l : List UInt8) : ClosedL (bs l) := closedL_u8 l
theorem bs_get (l : List UInt8) (i : Nat) : (bs l)[i]? = (l[i]?).map u8V := by simp [bs]
theorem bs_nil : bs [] = [] := rfl
theorem u8V_eq (b : UInt8) : u8V b = vi .u8 b.toNat := rfl
theorem bs_inj {a b : List UInt8} (h : bs a = bs b) : a = b := by
  induction a generalizing b with
  | nil => cases b <;> simp_all [bs]
  | cons x a ih =>
    cases b with
    | nil => simp [bs] at h
    | cons y b =>
      simp only [bs, List.map_cons, List.cons.injEq, u8V, V.sc.injEq, Value.int.injEq, true_and] at h
      have h1 : x = y := UInt8.toNat_inj.1 (by have := h.1; omega)
      rw [h1, ih h.2]
theorem strOf_bs : ∀ l : List UInt8, strOf (bs l) = some l
  | [] => rfl
  | x :: l => by
    have ih := strOf_bs l
    simp only [bs, List.map_cons] at ih ⊢
    simp [strOf, u8V, ih]
theorem scs_bs : ∀ (h : List UInt8), scs (bs h) = some (h.map fun b => Value.int .u8 b.toNat)
  | [] => rfl
  | x :: h => by
    have ih := scs_bs h
    simp only [bs, List.map_cons, scs] at ih ⊢
    simp [u8V, scs, ih]
theorem scs_app : ∀ (a b : List V) {x y : List Value}, scs a = some x → scs b = some y → scs (a ++ b) = some (x ++ y)
  | [], b, x, y, h, k => by simp only [scs] at h; cases h; simpa using k
  | v :: a, b, x, y, h, k => by
    cases v <;> simp only [scs] at h <;> try cases h
    rename_i u
    simp only [Option.map_eq_some_iff] at h
    obtain ⟨x', h1, rfl⟩ := h
    simp [scs, scs_app a b h1 k]
theorem eqW_app : ∀ (s t : List Bool) (x y x' y' : List Value) {r q : Bool}, eqW s x y = some r → eqW t x' y' = some q → eqW (s ++ t) (x ++ x') (y ++ y') = some (r && q)
  | [], t, x, y, x', y', r, q, h, k => by
    match x, y, h with
    | [], [], h => simp only [eqW] at h; cases h; simpa using k
  | false :: s, t, x, y, x', y', r, q, h, k => by
    match x, y, h with
    | .int k1 a :: x, .int k2 b :: y, h =>
      simp only [eqW] at h
      split at h
      · rename_i hk
        simp only [Option.map_eq_some_iff] at h
        obtain ⟨r', h1, rfl⟩ := h
        simp [eqW, hk, eqW_app s t x y x' y' h1 k, Bool.and_assoc]
      · cases h
  | true :: s, t, x, y, x', y', r, q, h, k => by
    match x, y, h with
    | .bool a :: x, .bool b :: y, h =>
      simp only [eqW, Option.map_eq_some_iff] at h
      obtain ⟨r', h1, rfl⟩ := h
      simp [eqW, eqW_app s t x y x' y' h1 k, Bool.and_assoc]
theorem eqW_bs : ∀ (n : Nat) (xs ys : List UInt8), xs.length = n → ys.length = n → eqW (List.replicate n false) (xs.map fun b => Value.int .u8 b.toNat) (ys.map fun b => Value.int .u8 b.toNat) = some (decide (xs = ys))
  | 0, xs, ys, hx, hy => by
    rw [List.length_eq_zero_iff.1 hx, List.length_eq_zero_iff.1 hy]; rfl
  | n + 1, x :: xs, y :: ys, hx, hy => by
    have ih := eqW_bs n xs ys (by simpa using hx) (by simpa using hy)
    simp only [List.replicate_succ, List.map_cons, eqW, if_true, ih, Option.map_some, Option.some.injEq]
    by_cases h1 : x = y
    · by_cases h2 : xs = ys <;> simp [h1, h2]
    · have : ¬ ((x.toNat : Int) = y.toNat) := fun h => h1 (UInt8.toNat_inj.1 (by omega))
      simp [h1, this]
  | n + 1, [], ys, hx, hy => by simp at hx
  | n + 1, x :: xs, [], hx, hy => by simp at hy
abbrev Bn (n : Nat) := {l : List UInt8 // l.length = n}
def dg {n : Nat} (d : Bn n) : List V := bs d.1
def Bn.zero (n : Nat) : Bn n := ⟨List.replicate n 0, by simp⟩
def Bn.set {n : Nat} (d : Bn n) (i : Nat) (b : UInt8) : Bn n := ⟨d.1.set i b, by simp [d.2]⟩
theorem dg_len {n : Nat} (d : Bn n) : (dg d).length = n := by rw [dg, bs_len, d.2]
theorem dg_closed {n : Nat} (d : Bn n) : ClosedL (dg d) := bs_closed _
theorem dg_inj {n : Nat} {a b : Bn n} (h : dg a = dg b) : a = b := Subtype.ext (bs_inj h)
def z4 : List Value := [.int .u8 0, .int .u8 0, .int .u8 0, .int .u8 0]
def z16 : List Value := [.int .u8 0, .int .u8 0, .int .u8 0, .int .u8 0, .int .u8 0, .int .u8 0, .int .u8 0, .int .u8 0, .int .u8 0, .int .u8 0, .int .u8 0, .int .u8 0, .int .u8 0, .int .u8 0, .int .u8 0, .int .u8 0]
theorem z4_sc : z4.map V.sc = dg (Bn.zero 4) := rfl
theorem z16_sc : z16.map V.sc = dg (Bn.zero 16) := rfl
def sh4 : List Bool := [false, false, false, false]
def sh16 : List Bool := [false, false, false, false, false, false, false, false, false, false, false, false, false, false, false, false]
theorem dg_eq {n : Nat} (sh : List Bool) (hs : sh = List.replicate n false) (a b : Bn n) : evEqA sh (.agg (dg a)) (.agg (dg b)) = some (decide (a = b)) := by
  subst hs
  simp only [evEqA, dg, scs_bs, eqW_bs n a.1 b.1 a.2 b.2, Subtype.ext_iff]
theorem eq_dg4 (a b : Bn 4) : evEqA sh4 (.agg (dg a)) (.agg (dg b)) = some (decide (a = b)) := dg_eq _ rfl a b
theorem eq_dg16 (a b : Bn 16) : evEqA sh16 (.agg (dg a)) (.agg (dg b)) = some (decide (a = b)) := dg_eq _ rfl a b
def EqC (sh : List Bool) (xs ys : List V) (b : Bool) : Prop := ∃ x y, scs xs = some x ∧ scs ys = some y ∧ eqW sh x y = some b
theorem EqC.ev {sh : List Bool} {xs ys : List V} {b : Bool} (h : EqC sh xs ys b) : evEqA sh (.agg xs) (.agg ys) = some b := by
  obtain ⟨x, y, h1, h2, h3⟩ := h
  simp only [evEqA, h1, h2, h3]
theorem EqC.int (k : IntKind) (a b : Int) : EqC [false] [vi k a] [vi k b] (decide (a = b)) := ⟨_, _, rfl, rfl, by simp [eqW]; rfl⟩
theorem EqC.bool (a b : Bool) : EqC [true] [vb a] [vb b] (decide (a = b)) := ⟨_, _, rfl, rfl, by cases a <;> cases b <;> rfl⟩
theorem EqC.dg {n : Nat} (a b : Bn n) : EqC (List.replicate n false) (dg a) (dg b) (decide (a = b)) := ⟨_, _, scs_bs _, scs_bs _, by rw [eqW_bs n a.1 b.1 a.2 b.2]; simp only [Subtype.ext_iff]⟩
theorem EqC.app {s t : List Bool} {a b a' b' : List V} {r q : Bool} (h : EqC s a b r) (k : EqC t a' b' q) : EqC (s ++ t) (a ++ a') (b ++ b') (r && q) := by
  obtain ⟨x, y, h1, h2, h3⟩ := h
  obtain ⟨x', y', k1, k2, k3⟩ := k
  exact ⟨x ++ x', y ++ y', scs_app _ _ h1 k1, scs_app _ _ h2 k2, eqW_app _ _ _ _ _ _ h3 k3⟩
theorem rd_n0 (v : V) (l : List V) : rd none (v :: l) 0 = some v := rfl
theorem rd_nS (v : V) (l : List V) (n : Nat) : rd none (v :: l) (n + 1) = rd none l n := rfl
theorem rd_sS (v : V) (l : List V) (n k : Nat) : rd (some k) (v :: l) (n + 1) = rd (some k) l n := by
  simp only [rd, List.length_cons, List.drop_succ_cons]
  by_cases h : n + k ≤ l.length
  · rw [if_pos h, if_pos (by omega)]
  · rw [if_neg h, if_neg (by omega)]
theorem rd_sA (a l : List V) (k : Nat) (h : a.length = k) : rd (some k) (a ++ l) 0 = some (.agg a) := by
  simp only [rd, List.length_append, List.drop_zero]
  rw [if_pos (by omega), ← h, List.take_left']
  rfl
theorem rd_sE (a : List V) (k : Nat) (h : a.length = k) : rd (some k) a 0 = some (.agg a) := by
  simpa using rd_sA a [] k h
theorem rd_skip (kd : Option Nat) (a l : List V) (n : Nat) (h : a.length ≤ n) : rd kd (a ++ l) n = rd kd l (n - a.length) := by
  cases kd with
  | none => simp only [rd]; rw [List.getElem?_append_right h]
  | some k =>
    simp only [rd, List.length_append]
    have e : n + k ≤ a.length + l.length ↔ n - a.length + k ≤ l.length := by omega
    rw [List.drop_append, List.drop_eq_nil_of_le h, List.nil_append]
    simp only [e]
theorem sp_nil (a : List V) : splice [] 0 a = a := by simp [splice]
theorem sp_S (v : V) (l a : List V) (n : Nat) : splice (v :: l) (n + 1) a = v :: splice l n a := by
  simp [splice, Nat.add_right_comm, Nat.succ_add]
theorem sp_0 (v u : V) (l : List V) : splice (v :: l) 0 [u] = u :: l := by simp [splice]
theorem sp_A (a b l : List V) (h : a.length = b.length) : splice (a ++ l) 0 b = b ++ l := by
  simp only [splice, List.take_zero, List.nil_append, Nat.zero_add]
  rw [← h, List.drop_left']
  rfl
theorem sp_all (a b : List V) (h : a.length = b.length) : splice a 0 b = b := by simpa using sp_A a b [] h
theorem sp_skip (a l b : List V) (n : Nat) (h : a.length ≤ n) : splice (a ++ l) n b = a ++ splice l (n - a.length) b := by
  have e : n + b.length - a.length = n - a.length + b.length := by omega
  simp only [splice, List.take_append, List.drop_append, List.take_of_length_le h, List.append_assoc, e]
  rw [List.drop_eq_nil_of_le (by omega : a.length ≤ n + b.length)]
  simp
theorem cellsV_int (k : IntKind) (n : Int) : cellsV (.sc (.int k n)) = some [.sc (.int k n)] := rfl
theorem cellsV_bool (b : Bool) : cellsV (.sc (.bool b)) = some [.sc (.bool b)] := rfl
theorem cellsV_str (b : ByteArray) : cellsV (.sc (.string b)) = some [.sc (.string b)] := rfl
theorem cellsV_nil (a : Option Addr) (n c : Nat) : cellsV (.sc (.slice a n c)) = some [.sc (.slice a n c)] := rfl
theorem cellsV_agg (cs : List V) : cellsV (.agg cs) = some cs := rfl
theorem cellsV_sl (n : Nat) (cs : List V) : cellsV (.sl n cs) = some [.sl n cs] := rfl
theorem cellsV_ref (i o : Nat) : cellsV (.ref i o) = some [.ref i o] := rfl
theorem cellsV_sref (i o n s : Nat) : cellsV (.sref i o n s) = some [.sref i o n s] := rfl
theorem cellsV_box (cs : List V) : cellsV (.box cs) = some [.box cs] := rfl
theorem cellsV_fn (f : Nat) (cs : List V) : cellsV (.fn f cs) = some [.fn f cs] := rfl
theorem closedL_app {a b : List V} (ha : ClosedL a) (hb : ClosedL b) : ClosedL (a ++ b) := by
  induction a with
  | nil => exact hb
  | cons v a ih => exact ⟨ha.1, ih ha.2⟩
theorem out_eq {H : Heap} {v r : V} (h : v = r) (hr : Closed r) : OutOK 0 H v r [] := by
  subst h
  exact out_val hr
theorem out_vb {H : Heap} {b c : Bool} (h : b = c) : OutOK 0 H (.sc (.bool b)) (.sc (.bool c)) [] := out_eq (by rw [h]) trivial
theorem out_vi {H : Heap} {k : IntKind} {b c : Int} (h : b = c) : OutOK 0 H (.sc (.int k b)) (.sc (.int k c)) [] := out_eq (by rw [h]) trivial
theorem set_same {S : List V} {t : Nat} {v : V} (h : S.getD t .dead = v) (hv : v ≠ .dead) : S.set t v = S := by
  apply List.ext_getElem?
  intro i
  rw [List.getElem?_set]
  by_cases hi : t = i
  · subst hi
    rw [List.getD_eq_getElem?_getD] at h
    cases hs : S[t]? with
    | none => rw [hs] at h; simp at h; exact absurd h.symm hv
    | some u =>
      rw [hs] at h; simp at h
      have hl := (List.getElem?_eq_some_iff.1 hs).1
      simp [hl, h]
  · simp [hi]
section
variable {P : Program} {m0 : Nat} {Q : AExit → List V → Heap → Prop} {S : List V} {H : Heap} {k : Kt}
theorem rk_guard' (d : Option Nat) (op : AOp) (t : Nat) (want : Bool) (os : List AOper) : RK P m0 Q (⟨d, op, some (t, want)⟩ :: os) k S H =
    (match S.getD t .dead with
      | .sc (.bool b) => if b = want then RK P m0 Q (⟨d, op, none⟩ :: os) k (S.set t (.sc (.bool want))) H else RK P m0 Q os k (putS (S.set t (.sc (.bool (!want)))) d (.sc undef)) H
      | .sc (.tuple ⟨[]⟩) => RK P m0 Q os k (putS S d (.sc undef)) H
      | _ => False) := by
  rw [rk_guard]
  generalize hv : S.getD t .dead = v
  split
  · rename_i b
    have hb := hv
    simp only []
    by_cases hw : b = want
    · rw [if_pos hw, if_pos hw, set_same (by rw [hb, hw]) (by simp)]
    · have : b = !want := by cases b <;> cases want <;> simp_all
      rw [if_neg hw, if_neg hw, set_same (by rw [hb, this]) (by simp)]
  · rfl
  · split <;> simp_all
theorem fk_guard' (pairs : List (Nat × Nat)) (FW : List (List Nat × List Nat)) (d : Option Nat) (op : AOp) (t : Nat) (want : Bool) (os : List AOper) : FK P m0 Q pairs (⟨d, op, some (t, want)⟩ :: os) k S H FW =
    (match S.getD t .dead with
      | .sc (.bool b) => if b = want then FK P m0 Q pairs (⟨d, op, none⟩ :: os) k (S.set t (.sc (.bool want))) H FW else FK P m0 Q pairs os k (putS (S.set t (.sc (.bool (!want)))) d (.sc undef)) H (FW ++ [([], [])])
      | .sc (.tuple ⟨[]⟩) => FK P m0 Q pairs os k (putS S d (.sc undef)) H (FW ++ [([], [])])
      | _ => False) := by
  rw [fk_guard]
  generalize hv : S.getD t .dead = v
  split
  · rename_i b
    have hb := hv
    simp only []
    by_cases hw : b = want
    · rw [if_pos hw, if_pos hw, set_same (by rw [hb, hw]) (by simp)]
    · have : b = !want := by cases b <;> cases want <;> simp_all
      rw [if_neg hw, if_neg hw, set_same (by rw [hb, this]) (by simp)]
  · rfl
  · split <;> simp_all
end
theorem argL_closed' {H : Heap} {ids bs : List Nat} {l : List V} (h : ClosedL l) : ArgRelL H ids bs l l ↔ True := ⟨fun _ => trivial, fun _ => argL_closed l h⟩
theorem arg_closed' {H : Heap} {ids bs : List Nat} {v : V} (h : Closed v) : ArgRel H ids bs v v ↔ True := ⟨fun _ => trivial, fun _ => arg_closed v h⟩
theorem un_not (b : Bool) : pureV (Op.unary .not (.bool b)) = some (.bool (!b)) := rfl
end Go.Proofs.YtfpoebmihjbknaaGreat.VA

/- Rows of bytes and texts; the operations' rules in small pieces; what arguments are. -/
set_option linter.unusedVariables false
set_option linter.unusedSimpArgs false
namespace Go.Proofs.YtfpoebmihjbknaaGreat.VA
open Go
section
variable (S : List V) (H : Heap)
theorem op_mov (x : Od) : evOp S H (.mov x) = some (x.ev S, H) := rfl
theorem op_pick (c a b : Od) : evOp S H (.pick c a b) = (match c.ev S with | .sc (.bool t) => some (if t then a.ev S else b.ev S, H) | _ => none) := rfl
theorem op_alloc (zs : List Value) : evOp S H (.alloc zs) = some (.ref H.length 0, H ++ [some (zs.map .sc)]) := rfl
theorem op_box (x : Od) : evOp S H (.box x) = (match cellsV (x.ev S) with | some l => some (.ref H.length 0, H ++ [some l]) | none => none) := rfl
theorem op_build (zs : List Value) (parts : List (Nat × Nat × Od)) : evOp S H (.build zs parts) = (match fillV (zs.map .sc) (evParts S parts) with | some cs => some (.agg cs, H) | none => none) := rfl
def zeroLit (zs : List Value) : Nat → List V
  | 0 => []
  | n + 1 => zs.map .sc ++ zeroLit zs n
theorem zeroLit_eq (zs : List Value) : ∀ n, zeroCells zs n = zeroLit zs n
  | 0 => rfl
  | n + 1 => by
    have ih := zeroLit_eq zs n
    simp only [zeroCells, zeroLit] at ih ⊢
    rw [List.replicate_succ, List.flatten_cons, ih]
theorem zl_0 (zs : List Value) : zeroLit zs 0 = [] := rfl
theorem zl_S (zs : List Value) (n : Nat) : zeroLit zs (n + 1) = zs.map .sc ++ zeroLit zs n := rfl
theorem op_buildSl (sz n : Nat) (zs : List Value) (parts : List (Nat × Nat × Od)) : evOp S H (.buildSl sz n zs parts) = (match fillV (zeroLit zs n) (evParts S parts) with | some cs => some (.sref H.length 0 n sz, H ++ [some cs]) | none => none) := by
  rw [← zeroLit_eq]; rfl
def evLoad (H : Heap) (k : Option Nat) : V → Option (V × Heap)
  | .ref id off => match blkAt H id with
    | some cells => (rd k cells off).map fun v => (v, H)
    | none => none
  | .box cs => (rd k cs 0).map fun v => (v, H)
  | _ => none
theorem op_load (k : Option Nat) (x : Od) : evOp S H (.load k x) = evLoad H k (x.ev S) := by
  simp only [evOp]; unfold evLoad; rfl
theorem op_store (n : Nat) (a x : Od) : evOp S H (.store n a x) = (match a.ev S, cellsV (x.ev S) with
    | .ref id off, some l => match blkAt H id with
      | some cells => if l.length = n ∧ off + n ≤ cells.length then some (.dead, H.set id (some (splice cells off l))) else none
      | none => none
    | _, _ => none) := rfl
theorem op_nilChk (x : Od) : evOp S H (.nilChk x) = (match x.ev S with
    | .ref id off => some (.ref id off, H)
    | .box cs => some (.box cs, H)
    | .fn f caps => some (.fn f caps, H)
    | _ => none) := rfl
theorem op_bin (op : BinOp) (x y : Od) : evOp S H (.bin op x y) = (evBin op (x.ev S) (y.ev S)).map fun v => (v, H) := rfl
theorem op_eqB (neg : Bool) (x y : Od) : evOp S H (.eqB neg x y) = (match x.ev S, y.ev S with
    | .sc (.bool a), .sc (.bool b) => some (.sc (.bool (if neg then !(a == b) else a == b)), H)
    | _, _ => none) := rfl
theorem op_eqA (neg : Bool) (sh : List Bool) (x y : Od) : evOp S H (.eqA neg sh x y) = (evEqA sh (x.ev S) (y.ev S)).map fun b => (.sc (.bool (if neg then !b else b)), H) := rfl
theorem op_eqNil (neg : Bool) (x y : Od) : evOp S H (.eqNil neg x y) = (evEqNil (x.ev S) (y.ev S)).map fun b => (.sc (.bool (if neg then !b else b)), H) := rfl
theorem op_un (op : UnOp) (x : Od) : evOp S H (.un op x) = (match x.ev S with
    | .sc (.int k n) => (pureV (Op.unary op (.int k n))).map fun v => (.sc v, H)
    | .sc (.bool b) => (pureV (Op.unary op (.bool b))).map fun v => (.sc v, H)
    | _ => none) := rfl
theorem op_conv (k : IntKind) (x : Od) : evOp S H (.conv k x) = (match x.ev S with | .sc (.int _ n) => some (.sc (.int k (k.wrap n)), H) | _ => none) := rfl
theorem op_same (x : Od) : evOp S H (.same x) = (match x.ev S with | .sc (.string s) => some (.sc (.string s), H) | _ => none) := rfl
theorem op_mark (x : Od) : evOp S H (.mark x) = (match x.ev S with
    | .sref id off n sz => match blkAt H id with
      | some _ => some (.sref id off n sz, H)
      | none => none
    | _ => none) := rfl
theorem op_toStr (x : Od) : evOp S H (.toStr x) = (match slCells H 1 (x.ev S) with | some (_, cs) => (strOf cs).map fun l => (.sc (.string ⟨l.toArray⟩), H) | none => none) := rfl
def evToBytes (H : Heap) : V → Option (V × Heap)
  | .sc (.string s) => if s.size ≤ 2 ^ 46 then some (.sref H.length 0 s.size 1, H ++ [some (s.data.toList.map u8V)]) else none
  | _ => none
theorem op_toBytes (x : Od) : evOp S H (.toBytes x) = evToBytes H (x.ev S) := by simp only [evOp]; unfold evToBytes; rfl
theorem op_mkSl (sz bytes : Nat) (zs : List Value) (l c : Od) : evOp S H (.mkSl sz bytes zs l c) = (match intOf? (l.ev S), intOf? (c.ev S) with
    | some l, some c => if 0 ≤ l ∧ l ≤ c ∧ bytes * c ≤ 2 ^ 47 ∧ c ≤ 2 ^ 47 then some (.sref H.length 0 l.toNat sz, H ++ [some (zeroCells zs l.toNat)]) else none
    | _, _ => none) := rfl
theorem op_sliceArr (n sz : Nat) (x : Od) (lo hi : Option Od) : evOp S H (.sliceArr n sz x lo hi) = (match bnd S hi n n with
    | some h => match bnd S lo 0 h with
      | some l => match x.ev S with
        | .ref id off => match blkAt H id with
          | some cells => if off + n * sz ≤ cells.length then some (.sref id (off + l * sz) (h - l) sz, H) else none
          | none => none
        | .box cs => if n * sz ≤ cs.length then some (.sl (h - l) ((cs.drop (l * sz)).take ((h - l) * sz)), H) else none
        | _ => none
      | none => none
    | none => none) := rfl
def evSlice (S : List V) (H : Heap) (sz : Nat) (lo hi : Option Od) : V → Option (V × Heap)
  | .sc (.slice none 0 0) => match bnd S hi 0 0 with
    | some h => match bnd S lo 0 h with
      | some _ => some (.sc (.slice none 0 0), H)
      | none => none
    | none => none
  | .sl n cs => match bnd S hi n n with
    | some h => match bnd S lo 0 h with
      | some l => if cs.length = n * sz then some (.sl (h - l) ((cs.drop (l * sz)).take ((h - l) * sz)), H) else none
      | none => none
    | none => none
  | .sref id off n sz' => match bnd S hi n n with
    | some h => match bnd S lo 0 h with
      | some l => if sz' = sz then some (.sref id (off + l * sz) (h - l) sz, H) else none
      | none => none
    | none => none
  | _ => none
theorem op_sliceSl (sz : Nat) (x : Od) (lo hi : Option Od) : evOp S H (.sliceSl sz x lo hi) = evSlice S H sz lo hi (x.ev S) := by
  simp only [evOp]; unfold evSlice; rfl
theorem op_sliceStr (x : Od) (lo hi : Option Od) : evOp S H (.sliceStr x lo hi) = (match x.ev S with
    | .sc (.string s) => match bnd S hi s.size s.size with
      | some h => match bnd S lo 0 h with
        | some l => some (.sc (.string (s.extract l h)), H)
        | none => none
      | none => none
    | _ => none) := rfl
theorem op_fieldAddr (off : Nat) (x : Od) : evOp S H (.fieldAddr off x) = (match x.ev S with
    | .ref id o => some (.ref id (o + off), H)
    | .box cs => some (.box (cs.drop off), H)
    | _ => none) := rfl
theorem op_field (off : Nat) (k : Option Nat) (x : Od) : evOp S H (.field off k x) = (match x.ev S with
    | .agg cs => (rd k cs off).map fun v => (v, H)
    | _ => none) := rfl
theorem op_idxArr (n sz : Nat) (x i : Od) : evOp S H (.idxArr n sz x i) = (match intOf? (i.ev S) with
    | some i => if 0 ≤ i ∧ i < n then match x.ev S with
        | .ref id off => some (.ref id (off + i.toNat * sz), H)
        | .box cs => some (.box (cs.drop (i.toNat * sz)), H)
        | _ => none
      else none
    | none => none) := rfl
def evIdx (H : Heap) (sz : Nat) (i : Option Int) (x : V) : Option (V × Heap) :=
  match i, x with
    | some i, .sref id off n sz' => if 0 ≤ i ∧ i < n ∧ sz' = sz then some (.ref id (off + i.toNat * sz), H) else none
    | some i, .sl n cs => if 0 ≤ i ∧ i < n then some (.box (cs.drop (i.toNat * sz)), H) else none
    | _, _ => none
theorem op_idxSl (sz : Nat) (x i : Od) : evOp S H (.idxSl sz x i) = evIdx H sz (intOf? (i.ev S)) (x.ev S) := by
  simp only [evOp]; unfold evIdx; rfl
theorem op_indexArr (n sz : Nat) (k : Option Nat) (x i : Od) : evOp S H (.indexArr n sz k x i) = (match intOf? (i.ev S), x.ev S with
    | some i, .agg cs => if 0 ≤ i ∧ i < n then (rd k cs (i.toNat * sz)).map fun v => (v, H) else none
    | _, _ => none) := rfl
theorem op_indexStr (x i : Od) : evOp S H (.indexStr x i) = (match intOf? (i.ev S), x.ev S with
    | some i, .sc (.string s) => if 0 ≤ i then (s.data.toList[i.toNat]?).map fun b => (u8V b, H) else none
    | _, _ => none) := rfl
theorem op_extract (x : Od) (i : Nat) : evOp S H (.extract x i) = (match x.ev S with | .tup vs => (vs[i]?).map fun v => (v, H) | _ => none) := rfl
theorem op_lenC (n : Nat) : evOp S H (.lenC n) = some (.sc (.int .i64 n), H) := rfl
theorem op_lenStr (x : Od) : evOp S H (.lenStr x) = (match x.ev S with | .sc (.string s) => some (.sc (.int .i64 s.size), H) | _ => none) := rfl
def evLen (H : Heap) : V → Option (V × Heap)
  | .sc (.slice none 0 0) => some (.sc (.int .i64 0), H)
  | .sl n _ => some (.sc (.int .i64 n), H)
  | .sref _ _ n _ => some (.sc (.int .i64 n), H)
  | _ => none
theorem op_lenSl (x : Od) : evOp S H (.lenSl x) = evLen H (x.ev S) := by simp only [evOp]; unfold evLen; rfl
theorem op_minmax (mx : Bool) (xs : List Od) : evOp S H (.minmax mx xs) = (match allInts (xs.map (·.ev S)) with
    | some l => (pureV (if mx then Builtin.max_ #[] 0 l.toArray else Builtin.min_ #[] 0 l.toArray)).map fun v => (.sc v, H)
    | none => none) := rfl
def evAppend (H : Heap) (sz bytes : Nat) (y : Option (Nat × List V)) (x : V) : Option (V × Heap) :=
  match y with
    | some (m, ys) => match x with
      | .sc (.slice none 0 0) =>
        if m = 0 then some (.sc (.slice none 0 0), H)
        else if m * bytes ≤ 2 ^ 47 ∧ m ≤ 2 ^ 47 then some (.sref H.length 0 m sz, H ++ [some ys]) else none
      | .sref id off n sz' => match blkAt H id with
        | some cells =>
          if off = 0 ∧ sz' = sz ∧ n * sz ≤ cells.length ∧ (n + m) * bytes ≤ 2 ^ 47 ∧ n + m ≤ 2 ^ 47 then
            some (.sref H.length 0 (n + m) sz, H.set id none ++ [some (cells.take (n * sz) ++ ys)])
          else none
        | none => none
      | _ => none
    | none => none
theorem op_append (sz bytes : Nat) (x y : Od) : evOp S H (.append sz bytes x y) = evAppend H sz bytes (srcCells H sz (y.ev S)) (x.ev S) := by
  simp only [evOp]; unfold evAppend; rfl
theorem op_copy (sz : Nat) (x y : Od) : evOp S H (.copy sz x y) = (match srcCells H sz (y.ev S), x.ev S with
    | some (m, ys), .sref id off n sz' => match blkAt H id with
      | some cells => if sz' = sz ∧ off + n * sz ≤ cells.length then
          some (.sc (.int .i64 (min m n : Nat)), H.set id (some (splice cells off (ys.take (min m n * sz)))))
        else none
      | none => none
    | _, _ => none) := rfl
theorem op_mkFunc (f : Nat) (caps : List Od) : evOp S H (.mkFunc f caps) = some (.fn f (caps.map (·.ev S)), H) := rfl
end
theorem intOf_int (k : IntKind) (i : Int) : intOf? (.sc (.int k i)) = some i := rfl
theorem allInts_nil : allInts [] = some [] := rfl
theorem allInts_cons (k : IntKind) (i : Int) (r : List V) : allInts (.sc (.int k i) :: r) = (allInts r).map (.int k i :: ·) := rfl
theorem mn2 (k : IntKind) (a b : Int) : pureV (Builtin.min_ #[] 0 [Value.int k a, Value.int k b].toArray) = some (.int k (min a b)) := by
  have h : pureV (Builtin.min_ #[] 0 [Value.int k a, Value.int k b].toArray) = some (.int k (if b < a then b else a)) := rfl
  rw [h]; congr 2; split <;> omega
theorem mx2 (k : IntKind) (a b : Int) : pureV (Builtin.max_ #[] 0 [Value.int k a, Value.int k b].toArray) = some (.int k (max a b)) := by
  have h : pureV (Builtin.max_ #[] 0 [Value.int k a, Value.int k b].toArray) = some (.int k (if a < b then b else a)) := rfl
  rw [h]; congr 2; split <;> omega
theorem splice_one (l : List V) (i : Nat) (v : V) (h : i < l.length) : splice l i [v] = l.set i v := by
  simp only [splice, List.length_singleton]
  rw [List.set_eq_take_append_cons_drop, if_pos h]
  rfl
theorem bs_set (l : List UInt8) (i : Nat) (b : UInt8) : (bs l).set i (u8V b) = bs (l.set i b) := by simp [bs, List.map_set]
theorem sp_dgV {n : Nat} (d : Bn n) (i : Nat) (b : UInt8) (h : i < n) : splice (dg d) i [u8V b] = dg (d.set i b) := by
  rw [splice_one _ _ _ (by rw [dg_len]; exact h), dg, bs_set]; rfl
theorem sp_dg {n : Nat} (d : Bn n) (i : Nat) (x : Int) (h : i < n) (h0 : 0 ≤ x) (h1 : x ≤ 255) : splice (dg d) i [.sc (.int .u8 x)] = dg (d.set i (UInt8.ofNat x.toNat)) := by
  have e : V.sc (.int .u8 x) = u8V (UInt8.ofNat x.toNat) := by
    have : (UInt8.ofNat x.toNat).toNat = x.toNat := by rw [UInt8.toNat_ofNat']; omega
    rw [u8V, this]; congr 2; omega
  rw [e, sp_dgV d i _ h]
def nums (k : IntKind) (l : List Int) : List V := l.map (vi k)
theorem nums_of (k : IntKind) (x : Int) (l : List Int) : vi k x :: nums k l = nums k (x :: l) := rfl
theorem nums_len (k : IntKind) (l : List Int) : (nums k l).length = l.length := by simp [nums]
theorem nums_closed (k : IntKind) (l : List Int) : ClosedL (nums k l) := ClosedL.mk fun v hv => by
  obtain ⟨x, _, rfl⟩ := List.mem_map.1 hv
  trivial
theorem rd_nums (k : IntKind) (l : List Int) (i : Nat) (h : i < l.length) : rd none (nums k l) i = some (vi k (l.getD i 0)) := by
  simp [rd, nums, h]
inductive Row where
  | nil
  | of (l : List UInt8)
def Row.l : Row → List UInt8
  | .nil => []
  | .of l => l
def Row.cut : Row → Nat → Nat → Row
  | .nil, _, _ => .nil
  | .of l, a, b => .of ((l.drop a).take (b - a))
def rowV : Row → V
  | .nil => vnil
  | .of l => .sl l.length (bs l)
theorem cut_l (r : Row) (a b : Nat) : (r.cut a b).l = (r.l.drop a).take (b - a) := by cases r <;> simp [Row.cut, Row.l]
theorem row_closed (r : Row) : Closed (rowV r) := by cases r <;> simp [rowV, Closed, bs_closed]
theorem rowV_of (l : List UInt8) : V.sl l.length (bs l) = rowV (.of l) := rfl
theorem cells_row (r : Row) : cellsV (rowV r) = some [rowV r] := by cases r <;> rfl
theorem len_row (H : Heap) (r : Row) : evLen H (rowV r) = some (vi .i64 r.l.length, H) := by cases r <;> rfl
theorem len_sref (H : Heap) (i o n s : Nat) : evLen H (.sref i o n s) = some (vi .i64 n, H) := rfl
theorem len_nil (H : Heap) : evLen H (.sc (.slice none 0 0)) = some (vi .i64 0, H) := rfl
theorem len_sl (H : Heap) (n : Nat) (cs : List V) : evLen H (.sl n cs) = some (vi .i64 n, H) := rfl
theorem sl_row (H : Heap) (r : Row) : slCells H 1 (rowV r) = some (r.l.length, bs r.l) := by
  cases r with
  | nil => rfl
  | of l => simp [rowV, slCells, Row.l, bs_len]
theorem src_row (H : Heap) (r : Row) : srcCells H 1 (rowV r) = some (r.l.length, bs r.l) := by
  cases r with
  | nil => rfl
  | of l => simp [rowV, srcCells, slCells, Row.l, bs_len]
theorem slice_row (S : List V) (H : Heap) (lo hi : Option Od) (r : Row) : evSlice S H 1 lo hi (rowV r) = (match bnd S hi r.l.length r.l.length with
    | some h => match bnd S lo 0 h with
      | some l => some (rowV (r.cut l h), H)
      | none => none
    | none => none) := by
  cases r with
  | nil =>
    simp only [rowV, evSlice, Row.l, List.length_nil]
    cases bnd S hi 0 0 with
    | none => rfl
    | some h => cases hl : bnd S lo 0 h <;> simp only [hl] <;> rfl
  | of l =>
    simp only [rowV, evSlice, Row.l, bs_len, Nat.mul_one, if_true]
    cases hh : bnd S hi l.length l.length with
    | none => rfl
    | some h =>
      cases hl : bnd S lo 0 h with
      | none => simp [hl]
      | some x =>
        have hb : h ≤ l.length := by
          unfold bnd at hh
          split at hh
          · cases hh; exact Nat.le_refl _
          · split at hh
            · split at hh
              · rename_i h1
                cases hh; omega
              · cases hh
            · cases hh
        simp only [hl, Row.cut, rowV, bs_drop, bs_take, Option.some.injEq, Prod.mk.injEq, and_true, V.sl.injEq]
        simp; omega
theorem idx_row (H : Heap) (r : Row) (i : Int) : evIdx H 1 (some i) (rowV r) = if 0 ≤ i ∧ i < r.l.length then some (.box (bs (r.l.drop i.toNat)), H) else none := by
  cases r with
  | nil =>
    have h : ¬ (0 ≤ i ∧ i < (Row.nil.l.length : Nat)) := by simp only [Row.l, List.length_nil]; omega
    rw [if_neg h]; rfl
  | of l =>
    simp only [rowV, evIdx, Row.l, bs_drop, Nat.mul_one]
    rfl
theorem idx_sref (H : Heap) (sz : Nat) (i : Int) (id off n s : Nat) : evIdx H sz (some i) (.sref id off n s) = if 0 ≤ i ∧ i < n ∧ s = sz then some (.ref id (off + i.toNat * sz), H) else none := rfl
theorem idx_sl (H : Heap) (sz : Nat) (i : Int) (n : Nat) (cs : List V) : evIdx H sz (some i) (.sl n cs) = if 0 ≤ i ∧ i < n then some (.box (cs.drop (i.toNat * sz)), H) else none := rfl
theorem load_ref (H : Heap) (k : Option Nat) (id off : Nat) : evLoad H k (.ref id off) = (match blkAt H id with | some cells => (rd k cells off).map fun v => (v, H) | none => none) := rfl
theorem load_box (H : Heap) (k : Option Nat) (cs : List V) : evLoad H k (.box cs) = (rd k cs 0).map fun v => (v, H) := rfl
theorem slice_sref (S : List V) (H : Heap) (sz : Nat) (lo hi : Option Od) (id off n s : Nat) : evSlice S H sz lo hi (.sref id off n s) = (match bnd S hi n n with
    | some h => match bnd S lo 0 h with
      | some l => if s = sz then some (.sref id (off + l * sz) (h - l) sz, H) else none
      | none => none
    | none => none) := rfl
def st (l : List UInt8) : V := .sc (.string ⟨l.toArray⟩)
theorem st_closed (l : List UInt8) : Closed (st l) := trivial
theorem st_of (l : List UInt8) : V.sc (.string ⟨l.toArray⟩) = st l := rfl
theorem st_eq (a b : List UInt8) : evBin .eql (st a) (st b) = some (vb (decide (a = b))) := by
  simp only [st, evBin, binOp, Op.stringOp, pureV, pure, ByteArray.toList_eq]
  by_cases h : a = b
  · simp [h]
  · simp [h]
theorem st_ne (a b : List UInt8) : evBin .neq (st a) (st b) = some (vb (!decide (a = b))) := by
  simp only [st, evBin, binOp, Op.stringOp, pureV, pure, ByteArray.toList_eq]
  by_cases h : a = b
  · simp [h]
  · simp [h]
inductive Ints where
  | nil
  | of (l : List Int)
def Ints.l : Ints → List Int
  | .nil => []
  | .of l => l
def intsV (k : IntKind) : Ints → V
  | .nil => vnil
  | .of l => .sl l.length (l.map (vi k))
theorem len_ints (H : Heap) (k : IntKind) (r : Ints) : evLen H (intsV k r) = some (vi .i64 r.l.length, H) := by cases r <;> rfl
theorem idx_ints (H : Heap) (k : IntKind) (r : Ints) (i : Int) : evIdx H 1 (some i) (intsV k r) = if 0 ≤ i ∧ i < r.l.length then some (.box ((r.l.drop i.toNat).map (vi k)), H) else none := by
  cases r with
  | nil =>
    have h : ¬ (0 ≤ i ∧ i < (Ints.nil.l.length : Nat)) := by simp only [Ints.l, List.length_nil]; omega
    rw [if_neg h]; rfl
  | of l =>
    simp only [intsV, evIdx, Ints.l, Nat.mul_one, List.map_drop]
theorem ints_closed (k : IntKind) (r : Ints) : Closed (intsV k r) := by
  cases r with
  | nil => trivial
  | of l =>
    simp only [intsV, Closed]
    exact ClosedL.mk fun v hv => by
      obtain ⟨x, _, rfl⟩ := List.mem_map.1 hv
      trivial
theorem cells_ints (k : IntKind) (r : Ints) : cellsV (intsV k r) = some [intsV k r] := by cases r <;> rfl
end Go.Proofs.YtfpoebmihjbknaaGreat.VA

/- Loops that are unrolled; calls that read or change owned memory. -/
set_option linter.unusedVariables false
set_option linter.unusedSimpArgs false
namespace Go.Proofs.YtfpoebmihjbknaaGreat.VA
open Go
noncomputable section
theorem StepS.mono {P : Program} {S : List V} {H : Heap} {ao : AOp} {k k' : V → Heap → Prop} (h : StepS P S H ao k) (hk : ∀ v H', k v H' → k' v H') : StepS P S H ao k' := by
  unfold StepS at h ⊢
  split at h
  · obtain ⟨v, H', F, W, h1, h2⟩ := h; exact ⟨v, H', F, W, h1, hk _ _ h2⟩
  · obtain ⟨v, H', F, W, h1, h2⟩ := h; exact ⟨v, H', F, W, h1, hk _ _ h2⟩
  · obtain ⟨v, h1, h2⟩ := h; exact ⟨v, h1, hk _ _ h2⟩
  · split at h
    · exact hk _ _ h
    · exact h.elim
theorem StepF.mono {P : Program} {S : List V} {H : Heap} {ao : AOp} {k k' : V → Heap → List Nat → List Nat → Prop} (h : StepF P S H ao k) (hk : ∀ v H' F W, k v H' F W → k' v H' F W) : StepF P S H ao k' := by
  unfold StepF at h ⊢
  split at h
  · obtain ⟨v, H', F, W, h1, h2⟩ := h; exact ⟨v, H', F, W, h1, hk _ _ _ _ h2⟩
  · obtain ⟨v, H', F, W, h1, h2⟩ := h; exact ⟨v, H', F, W, h1, hk _ _ _ _ h2⟩
  · obtain ⟨v, h1, h2⟩ := h; exact ⟨v, h1, hk _ _ _ _ h2⟩
  · split at h
    · exact hk _ _ _ _ h
    · exact h.elim
theorem RunS.mono {P : Program} {Q Q' : List V → Heap → Prop} (hQ : ∀ S H, Q S H → Q' S H) : ∀ {os : List AOper} {S : List V} {H : Heap}, RunS P Q os S H → RunS P Q' os S H
  | [], S, H, h => hQ S H h
  | o :: os, S, H, h => by
    simp only [RunS] at h ⊢
    cases hg : o.guard with
    | none => rw [hg] at h; exact StepS.mono h fun v H' h => RunS.mono hQ h
    | some p =>
      obtain ⟨t, want⟩ := p
      rw [hg] at h
      simp only [] at h ⊢
      split at h
      · rename_i b hb
        by_cases hw : b = want
        · rw [if_pos hw] at h ⊢; exact StepS.mono h fun v H' h => RunS.mono hQ h
        · rw [if_neg hw] at h ⊢; exact RunS.mono hQ h
      · exact RunS.mono hQ h
      · exact h
theorem RunF.mono {P : Program} {Q Q' : List V → Heap → List (List Nat × List Nat) → Prop} (hQ : ∀ S H FW, Q S H FW → Q' S H FW) : ∀ {os : List AOper} {S : List V} {H : Heap} {FW : List (List Nat × List Nat)}, RunF P Q os S H FW → RunF P Q' os S H FW
  | [], S, H, FW, h => hQ S H FW h
  | o :: os, S, H, FW, h => by
    simp only [RunF] at h ⊢
    cases hg : o.guard with
    | none => rw [hg] at h; exact StepF.mono h fun v H' F W h => RunF.mono hQ h
    | some p =>
      obtain ⟨t, want⟩ := p
      rw [hg] at h
      simp only [] at h ⊢
      split at h
      · rename_i b hb
        by_cases hw : b = want
        · rw [if_pos hw] at h ⊢; exact StepF.mono h fun v H' F W h => RunF.mono hQ h
        · rw [if_neg hw] at h ⊢; exact RunF.mono hQ h
      · exact RunF.mono hQ h
      · exact h
theorem wpS_mono {P : Program} {m0 : Nat} : ∀ (c : ACode) {Q Q' : AExit → List V → Heap → Prop} {S : List V} {H : Heap}, wpS P m0 c Q S H → (∀ e S H, Q e S H → Q' e S H) → wpS P m0 c Q' S H
  | .skip, Q, Q', S, H, h, hq => hq _ _ _ h
  | .region [] ops, Q, Q', S, H, h, hq => RunS.mono (fun S H h => hq _ _ _ h) h
  | .region (p :: pairs) ops, Q, Q', S, H, h, hq => RunF.mono (fun S H FW h => ⟨h.1, hq _ _ _ h.2⟩) h
  | .seq a b, Q, Q', S, H, h, hq => by
    refine wpS_mono a h fun e S H h => ?_
    cases e with
    | normal => exact wpS_mono b h hq
    | exit i => exact hq _ _ _ h
    | ret => exact hq _ _ _ h
  | .cond c a b, Q, Q', S, H, h, hq => by
    simp only [wpS] at h ⊢
    split at h
    · rename_i t ht
      by_cases h1 : t = true
      · rw [if_pos h1] at h ⊢; exact wpS_mono a h hq
      · rw [if_neg h1] at h ⊢; exact wpS_mono b h hq
    · exact h
  | .block id c, Q, Q', S, H, h, hq => by
    refine wpS_mono c h fun e S H h => ?_
    cases e with
    | normal => exact hq _ _ _ h
    | ret => exact hq _ _ _ h
    | exit i =>
      by_cases hi : i = id
      · simp only [hi, if_true] at h ⊢; exact hq _ _ _ h
      · simp only [hi, if_false] at h ⊢; exact hq _ _ _ h
  | .loop c, Q, Q', S, H, h, hq => by
    obtain ⟨I, m, S', H', hw, h0, hr⟩ := h
    refine ⟨I, m, S', H', hw, h0, fun n S H hI => wpS_mono c (hr n S H hI) fun e S H h => ?_⟩
    cases e with
    | normal => exact h
    | exit i => exact hq _ _ _ h
    | ret => exact hq _ _ _ h
  | .exit id, Q, Q', S, H, h, hq => hq _ _ _ h
  | .ret, Q, Q', S, H, h, hq => hq _ _ _ h
def LK (P : Program) (m0 : Nat) (Q : AExit → List V → Heap → Prop) (c : ACode) (k : Kt) : Nat → List V → Heap → Prop
  | 0 => fun _ _ => False
  | n + 1 => fun S H => WK P m0 Q c (.lp (LK P m0 Q c k n) k) S H
section
variable {P : Program} {m0 : Nat} {Q : AExit → List V → Heap → Prop} {S : List V} {H : Heap} {k : Kt} {c : ACode}
theorem lk_succ (n : Nat) : LK P m0 Q c k (n + 1) S H = WK P m0 Q c (.lp (LK P m0 Q c k n) k) S H := propext Iff.rfl
theorem wk_unroll (n : Nat) (h : LK P m0 Q c k n S H) : WK P m0 Q (.loop c) k S H := by
  refine ⟨fun n S H => LK P m0 Q c k n S H, n, S, H, .refl _, h, fun n S H hn => ?_⟩
  cases n with
  | zero => exact hn.elim
  | succ n =>
    refine wpS_mono c hn fun e S H h => ?_
    cases e with
    | normal => exact ⟨n, S, H, Nat.lt_succ_self n, .refl _, h⟩
    | exit i => exact h
    | ret => exact h
end
def CK (P : Program) (m0 : Nat) (Q : AExit → List V → Heap → Prop) (d : Option Nat) (f : Nat) (vs : List V) (os : List AOper) (k : Kt) (S : List V) (H : Heap) : Prop :=
  ∃ v H' F W, CallRel P f H vs v H' F W ∧ RK P m0 Q os k (putS S d v) H'
def XCK (P : Program) (m0 : Nat) (Q : AExit → List V → Heap → Prop) (d : Option Nat) (f : Nat) (vs : List V) (os : List AOper) (k : Kt) (S : List V) (H : Heap) : Prop :=
  ∃ v, ExtRel P f vs v ∧ RK P m0 Q os k (putS S d v) H
def XFK (P : Program) (m0 : Nat) (Q : AExit → List V → Heap → Prop) (pairs : List (Nat × Nat)) (FW : List (List Nat × List Nat)) (d : Option Nat) (f : Nat) (vs : List V) (os : List AOper) (k : Kt) (S : List V) (H : Heap) : Prop :=
  ∃ v, ExtRel P f vs v ∧ FK P m0 Q pairs os k (putS S d v) H (FW ++ [([], [])])
def CFK (P : Program) (m0 : Nat) (Q : AExit → List V → Heap → Prop) (pairs : List (Nat × Nat)) (FW : List (List Nat × List Nat)) (d : Option Nat) (f : Nat) (vs : List V) (os : List AOper) (k : Kt) (S : List V) (H : Heap) : Prop :=
  ∃ v H' F W, CallRel P f H vs v H' F W ∧ FK P m0 Q pairs os k (putS S d v) H' (FW ++ [(F, W)])
section
variable {P : Program} {m0 : Nat} {Q : AExit → List V → Heap → Prop} {S : List V} {H : Heap} {k : Kt} {d : Option Nat} {f : Nat} {os : List AOper} {pairs : List (Nat × Nat)} {FW : List (List Nat × List Nat)}
theorem rk_callK (args : List Od) : RK P m0 Q (⟨d, .call f args, none⟩ :: os) k S H = CK P m0 Q d f (args.map (·.ev S)) os k S H := propext Iff.rfl
theorem fk_callK (args : List Od) : FK P m0 Q pairs (⟨d, .call f args, none⟩ :: os) k S H FW = CFK P m0 Q pairs FW d f (args.map (·.ev S)) os k S H := propext Iff.rfl
theorem rk_ext (args : List Od) : RK P m0 Q (⟨d, .ext f args, none⟩ :: os) k S H = XCK P m0 Q d f (args.map (·.ev S)) os k S H := propext Iff.rfl
theorem fk_ext (args : List Od) : FK P m0 Q pairs (⟨d, .ext f args, none⟩ :: os) k S H FW = XFK P m0 Q pairs FW d f (args.map (·.ev S)) os k S H := propext Iff.rfl
theorem xck_ext {vs : List V} (v : V) (h : ExtRel P f vs v) (hk : RK P m0 Q os k (putS S d v) H) : XCK P m0 Q d f vs os k S H := ⟨v, h, hk⟩
theorem xfk_ext {vs : List V} (v : V) (h : ExtRel P f vs v) (hk : FK P m0 Q pairs os k (putS S d v) H (FW ++ [([], [])])) : XFK P m0 Q pairs FW d f vs os k S H := ⟨v, h, hk⟩
theorem ck_call {vs : List V} (v : V) (H' : Heap) {F W : List Nat} (h : CallRel P f H vs v H' F W) (hk : RK P m0 Q os k (putS S d v) H') : CK P m0 Q d f vs os k S H := ⟨v, H', F, W, h, hk⟩
theorem cfk_call {vs : List V} (v : V) (H' : Heap) {F W : List Nat} (h : CallRel P f H vs v H' F W) (hk : FK P m0 Q pairs os k (putS S d v) H' (FW ++ [(F, W)])) : CFK P m0 Q pairs FW d f vs os k S H := ⟨v, H', F, W, h, hk⟩
end
theorem no_ro_bs (l : List UInt8) : NoROL (bs l) := by
  induction l with
  | nil => trivial
  | cons x l ih => exact ⟨trivial, ih⟩
theorem no_ro_nums (k : IntKind) (l : List Int) : NoROL (nums k l) := by
  induction l with
  | nil => trivial
  | cons x l ih => exact ⟨trivial, ih⟩
theorem call_ro {P : Program} {f : Nat} {args' : List V} {r : V} (hC : C P f args' [] r []) {H : Heap} {args : List V} (bs : List Nat) (hbs : ∀ id ∈ bs, id ∈ idsInL args ∧ ∃ cells, blkAt H id = some cells)
    (hrel : ArgRelL H [] bs args args') (hr : Closed r) (hro : NoRO r) : CallRel P f H args r H bs [] := by
  have := call_in hC (H := H) bs hbs hrel (fun _ => ⟨hro, fun i cells h => by simp at h⟩)
  rw [renV_closed _ r hr] at this
  simpa using this
theorem call_ro_new {P : Program} {f : Nat} {args' : List V} {n sz : Nat} {cells : List V} (hC : C P f args' [] (.sref 0 0 n sz) [some cells]) {H : Heap} {args : List V} (bs : List Nat) (hbs : ∀ id ∈ bs, id ∈ idsInL args ∧ ∃ cells, blkAt H id = some cells)
    (hrel : ArgRelL H [] bs args args') (hc : ClosedL cells) (hro : NoROL cells) : CallRel P f H args (.sref H.length 0 n sz) (H ++ [some cells]) bs [] := by
  have := call_in hC (H := H) bs hbs hrel (fun _ => ⟨trivial, fun i cs h => by
    cases i with
    | zero => simp at h; subst h; exact hro
    | succ i => simp at h⟩)
  simpa [renV, renL_closed _ cells hc] using this
theorem call_upd {P : Program} {f : Nat} {id off : Nat} {args : List V} {r : V} {cells cells' : List V} (hC : C P f (.ref 0 off :: args) [cells] r [some cells']) {H : Heap} (hb : blkAt H id = some cells) (ha : ClosedL args) (hc : ClosedL cells) (hc' : ClosedL cells') (hr : Closed r) :
    CallRel P f H (.ref id off :: args) r (H.set id (some cells')) [id] [id] := by
  refine ⟨[id], [], .ref 0 off :: args, [cells], r, [some cells'], hC, by simp, rfl, by simp, fun k i hk => ?_, fun k i hk => ?_, by simp, ?_, by simp, by rw [renV_closed _ r hr], ?_, by simp, rfl⟩
  · cases k with
    | zero => simp at hk; subst hk; exact ⟨cells, cells, rfl, hb, argL_closed cells hc⟩
    | succ k => simp at hk
  · cases k with
    | zero => simp at hk; subst hk; exact .inl (by simp [idsInL, idsIn])
    | succ k => simp at hk
  · simp only [ArgRelL]
    exact ⟨_, _, rfl, by simp only [ArgRel]; exact ⟨0, rfl, rfl⟩, argL_closed args ha⟩
  · simp [putBack, renL_closed _ cells' hc']
theorem call_updS {P : Program} {f : Nat} {id off n sz : Nat} {args : List V} {r : V} {cells cells' : List V} (hC : C P f (.sref 0 off n sz :: args) [cells] r [some cells']) {H : Heap} (hb : blkAt H id = some cells) (ha : ClosedL args) (hc : ClosedL cells) (hc' : ClosedL cells') (hr : Closed r) :
    CallRel P f H (.sref id off n sz :: args) r (H.set id (some cells')) [id] [id] := by
  refine ⟨[id], [], .sref 0 off n sz :: args, [cells], r, [some cells'], hC, by simp, rfl, by simp, fun k i hk => ?_, fun k i hk => ?_, by simp, ?_, by simp, by rw [renV_closed _ r hr], ?_, by simp, rfl⟩
  · cases k with
    | zero => simp at hk; subst hk; exact ⟨cells, cells, rfl, hb, argL_closed cells hc⟩
    | succ k => simp at hk
  · cases k with
    | zero => simp at hk; subst hk; exact .inl (by simp [idsInL, idsIn])
    | succ k => simp at hk
  · simp only [ArgRelL]
    exact ⟨_, _, rfl, by simp only [ArgRel]; exact .inl ⟨0, rfl, rfl⟩, argL_closed args ha⟩
  · simp [putBack, renL_closed _ cells' hc']
theorem out_upd {H : Heap} {v : V} {cells : List V} (hb : blkAt H 0 = some cells) (hc : ClosedL cells) (hv : Closed v) : OutOK 1 H v v [some cells] := by
  have h0 : ∀ k, k < 1 → ([0] : List Nat)[k]? = some k := by
    intro k h
    have : k = 0 := by omega
    subst this; rfl
  refine ⟨[0], [], by simp, rfl, Nat.le_refl _, h0, (fun _ h => by cases h), ?_, fun k c h => ?_⟩
  · exact arg_closed v hv
  · cases k with
    | zero => simp at h; subst h; exact ⟨0, cells, rfl, hb, argL_closed cells hc⟩
    | succ k => simp at h
theorem out_bs {H : Heap} {id n : Nat} {l : List UInt8} {cells : List V} (hb : blkAt H id = some cells) (hc : cells = bs l) (hn : n = l.length) : OutOK 0 H (.sref id 0 n 1) (.sref 0 0 l.length 1) [some (bs l)] := by
  subst hc; subst hn
  exact out_row hb (bs_closed l)
end
end Go.Proofs.YtfpoebmihjbknaaGreat.VA

/- Rows of bytes that a function makes: their blocks are 'bs l'. -/
set_option linter.unusedVariables false
set_option linter.unusedSimpArgs false
namespace Go.Proofs.YtfpoebmihjbknaaGreat.VA
open Go
def z1 : List Value := [.int .u8 0]
def by8 (x : Int) : UInt8 := UInt8.ofNat x.toNat
theorem by8_V (x : Int) (h0 : 0 ≤ x) (h1 : x ≤ 255) : V.sc (.int .u8 x) = u8V (by8 x) := by
  have : (by8 x).toNat = x.toNat := by rw [by8, UInt8.toNat_ofNat']; omega
  rw [u8V, this]; congr 2; omega
theorem by8_nat (b : UInt8) : by8 (b.toNat : Int) = b := by
  apply UInt8.toNat_inj.1
  rw [by8, UInt8.toNat_ofNat']
  have := b.toNat_lt
  simp
theorem wrap8_lo (x : Int) : (0 ≤ IntKind.u8.wrap x) = True := by
  have : IntKind.u8.wrap x = x % 256 := rfl
  rw [this]; exact eq_true (by omega)
theorem wrap8_hi (x : Int) : (IntKind.u8.wrap x ≤ 255) = True := by
  have : IntKind.u8.wrap x = x % 256 := rfl
  rw [this]; exact eq_true (by omega)
theorem u8_lo (b : UInt8) : (0 ≤ (b.toNat : Int)) = True := eq_true (by omega)
theorem u8_hi (b : UInt8) : ((b.toNat : Int) ≤ 255) = True := eq_true (by have := b.toNat_lt; omega)
def blkOf (zs : List Value) (cs : List V) : List V := cs
def asB (cs : List V) : List V := cs
def consB (x : Int) (l : List V) : List V := .sc (.int .u8 x) :: l
theorem blk_z1 (cs : List V) : blkOf z1 cs = asB cs := rfl
theorem blk_cons (v : Value) (zs : List Value) (cs : List V) : blkOf (v :: zs) cs = cs := rfl
theorem asB_nil : asB [] = bs [] := rfl
theorem asB_cons (x : Int) (l : List V) : asB (.sc (.int .u8 x) :: l) = consB x (asB l) := rfl
theorem asB_consV (x : UInt8) (l : List V) : asB (u8V x :: l) = consB x.toNat (asB l) := rfl
theorem consB_bs (x : Int) (l : List UInt8) (h0 : 0 ≤ x) (h1 : x ≤ 255) : consB x (bs l) = bs (by8 x :: l) := by
  rw [consB, by8_V x h0 h1]; rfl
theorem z1_sc : z1.map V.sc = [vi .u8 0] := rfl
theorem op_buildSlB (S : List V) (H : Heap) (sz n : Nat) (zs : List Value) (parts : List (Nat × Nat × Od)) : evOp S H (.buildSl sz n zs parts) = (match fillV (zeroLit zs n) (evParts S parts) with | some cs => some (.sref H.length 0 n sz, H ++ [some (blkOf zs cs)]) | none => none) := op_buildSl S H sz n zs parts
theorem zc_z1 (n : Nat) : zeroCells z1 n = bs (List.replicate n 0) := by
  have : (z1.map V.sc) = [vi .u8 0] := rfl
  simp only [zeroCells, this, bs, List.map_replicate]
  induction n with
  | zero => rfl
  | succ n ih => rw [List.replicate_succ, List.flatten_cons, ih, List.replicate_succ]; rfl
def appB (H : Heap) (sz bytes m : Nat) (ys : List V) (id off n s : Nat) (cells : List V) : Option (V × Heap) :=
  if off = 0 ∧ s = sz ∧ n * sz ≤ cells.length ∧ (n + m) * bytes ≤ 2 ^ 47 ∧ n + m ≤ 2 ^ 47 then
    some (.sref H.length 0 (n + m) sz, H.set id none ++ [some (cells.take (n * sz) ++ ys)])
  else none
theorem app_sref (H : Heap) (sz bytes m : Nat) (ys : List V) (id off n s : Nat) : evAppend H sz bytes (some (m, ys)) (.sref id off n s) = (match blkAt H id with | some cells => appB H sz bytes m ys id off n s cells | none => none) := rfl
theorem app_nil (H : Heap) (sz bytes m : Nat) (ys : List V) : evAppend H sz bytes (some (m, ys)) (.sc (.slice none 0 0)) = if m = 0 then some (.sc (.slice none 0 0), H) else if m * bytes ≤ 2 ^ 47 ∧ m ≤ 2 ^ 47 then some (.sref H.length 0 m sz, H ++ [some ys]) else none := rfl
def Sm (l : List UInt8) (k : Nat) : Prop := l.length + k ≤ 140737488355328
theorem sm_app1 (l : List UInt8) (x : UInt8) (k : Nat) : Sm (l ++ [x]) k = Sm l (k + 1) := by simp only [Sm, List.length_append, List.length_singleton, eq_iff_iff]; omega
theorem sm_nil (k : Nat) : Sm [] k = (k ≤ 140737488355328) := by simp [Sm]
theorem sm_one (x : UInt8) (k : Nat) : Sm [x] k = (k + 1 ≤ 140737488355328) := by simp only [Sm, List.length_singleton, eq_iff_iff]; omega
theorem app_bs (H : Heap) (l ys : List UInt8) (id n m : Nat) (hn : n = l.length) (hm : m = ys.length) (hle : Sm l ys.length) :
    appB H 1 1 m (bs ys) id 0 n 1 (bs l) = some (.sref H.length 0 (l ++ ys).length 1, H.set id none ++ [some (bs (l ++ ys))]) := by
  subst hn; subst hm
  have hle' : l.length + ys.length ≤ 140737488355328 := hle
  unfold appB
  rw [if_pos ⟨rfl, rfl, by rw [bs_len]; omega, by omega, by omega⟩, Nat.mul_one, List.take_of_length_le (by rw [bs_len]; exact Nat.le_refl _), bs_app, List.length_append]
def slB (sz id off n s : Nat) (cells : List V) : Option (Nat × List V) := if s = sz ∧ off + n * sz ≤ cells.length then some (n, (cells.drop off).take (n * sz)) else none
theorem sl_sref (H : Heap) (sz id off n s : Nat) : slCells H sz (.sref id off n s) = (match blkAt H id with | some cells => slB sz id off n s cells | none => none) := rfl
theorem src_sref (H : Heap) (sz id off n s : Nat) : srcCells H sz (.sref id off n s) = (match blkAt H id with | some cells => slB sz id off n s cells | none => none) := rfl
theorem src_nil (H : Heap) (sz : Nat) : srcCells H sz (.sc (.slice none 0 0)) = some (0, []) := rfl
theorem sl_nil (H : Heap) (sz : Nat) : slCells H sz (.sc (.slice none 0 0)) = some (0, []) := rfl
theorem slB_bs (l : List UInt8) (id off n : Nat) (h : off + n ≤ l.length) : slB 1 id off n 1 (bs l) = some (((l.drop off).take n).length, bs ((l.drop off).take n)) := by
  unfold slB
  rw [if_pos ⟨rfl, by rw [bs_len]; omega⟩, bs_drop, Nat.mul_one, bs_take]
  congr 2
  simp; omega
theorem slB_all (l : List UInt8) (id n : Nat) (h : n = l.length) : slB 1 id 0 n 1 (bs l) = some (l.length, bs l) := by
  subst h
  rw [slB_bs l id 0 _ (by omega), List.drop_zero, List.take_length]
theorem slB_dg {k : Nat} (d : Bn k) (id n : Nat) (h : n = k) : slB 1 id 0 n 1 (dg d) = some (k, bs d.1) := by
  rw [dg, slB_all d.1 id n (by rw [d.2]; exact h), d.2]
theorem toBytes_st (H : Heap) (l : List UInt8) (h : l.length ≤ 70368744177664) : evToBytes H (st l) = some (.sref H.length 0 l.length 1, H ++ [some (bs l)]) := by
  have e : (⟨l.toArray⟩ : ByteArray).size = l.length := by simp [ByteArray.size]
  simp only [st, evToBytes, e]
  rw [if_pos (by omega)]; rfl
theorem strOf_bs' (H : Heap) (l : List UInt8) : (strOf (bs l)).map (fun l => ((V.sc (.string ⟨l.toArray⟩), H) : V × Heap)) = some (st l, H) := by rw [strOf_bs]; rfl
theorem copy_bs (l ys : List UInt8) (n : Nat) (h : ys.length ≤ l.length) (hn : n = ys.length) : splice (bs l) 0 ((bs ys).take n) = bs (ys ++ l.drop ys.length) := by
  subst hn
  rw [bs_take, List.take_length]
  simp only [splice, List.take_zero, List.nil_append, Nat.zero_add, bs_len, bs_drop, bs_app]
theorem rd_bs (l : List UInt8) (i : Nat) (h : i < l.length) : rd none (bs l) i = some (vi .u8 (l.getD i 0).toNat) := by
  simp [rd, bs, u8V, h]
theorem rd_dg {k : Nat} (d : Bn k) (i : Nat) (h : i < k) : rd none (dg d) i = some (vi .u8 (d.1.getD i 0).toNat) := rd_bs _ _ (by rw [d.2]; exact h)
theorem rd_drop1 (cs : List V) (n : Nat) : rd none (cs.drop n) 0 = rd none cs n := by simp [rd]
theorem rd_dropk (cs : List V) (n m : Nat) (hm : 0 < m) : rd (some m) (cs.drop n) 0 = rd (some m) cs n := by
  simp only [rd, List.length_drop, List.drop_zero, Nat.zero_add]
  by_cases h : n + m ≤ cs.length
  · rw [if_pos h, if_pos (by omega)]
  · rw [if_neg h, if_neg (by omega)]
theorem sp_dg8 {n : Nat} (d : Bn n) (i : Nat) (x : Int) (h : i < n) (h0 : 0 ≤ x) (h1 : x ≤ 255) : splice (dg d) i [.sc (.int .u8 x)] = dg (d.set i (by8 x)) := sp_dg d i x h h0 h1
theorem bnd_none (S : List V) (d m : Nat) : bnd S none d m = some d := rfl
theorem bnd_some (S : List V) (x : Od) (d m : Nat) : bnd S (some x) d m = (match intOf? (x.ev S) with | some i => if 0 ≤ i ∧ i ≤ m then some i.toNat else none | none => none) := rfl
theorem arg_row {H : Heap} {bs' : List Nat} {id off n : Nat} {L : List UInt8} (hb : blkAt H id = some (bs L)) (hi : id ∈ bs') (h : off + n ≤ L.length) : ArgRel H [] bs' (.sref id off n 1) (rowV (.of ((L.drop off).take n))) := by
  simp only [ArgRel]
  refine .inr ⟨by simp, hi, bs L, bs ((L.drop off).take n), hb, by rw [bs_len]; omega, ?_, ?_⟩
  · rw [bs_drop, Nat.mul_one, bs_take]; exact seen_closed _ (bs_closed _)
  · rw [rowV]
    congr 1
    simp; omega
theorem arg_rowA {H : Heap} {bs' : List Nat} {id n : Nat} {L : List UInt8} (hb : blkAt H id = some (bs L)) (hi : id ∈ bs') (h : n = L.length) : ArgRel H [] bs' (.sref id 0 n 1) (rowV (.of L)) := by
  have := arg_row (off := 0) (n := n) hb hi (by omega)
  rwa [List.drop_zero, h, List.take_length, ← h] at this
theorem arg_dg {H : Heap} {bs' : List Nat} {id n k : Nat} {d : Bn k} (hb : blkAt H id = some (dg d)) (hi : id ∈ bs') (h : n = k) : ArgRel H [] bs' (.sref id 0 n 1) (rowV (.of d.1)) :=
  arg_rowA hb hi (by rw [d.2]; exact h)
theorem args1 {H : Heap} {ids bs : List Nat} {v a : V} (h : ArgRel H ids bs v a) : ArgRelL H ids bs [v] [a] := by simp only [ArgRelL]; exact ⟨a, [], rfl, h, rfl⟩
theorem args_c {H : Heap} {ids bs : List Nat} {v a : V} {vs us : List V} (h : ArgRel H ids bs v a) (k : ArgRelL H ids bs vs us) : ArgRelL H ids bs (v :: vs) (a :: us) := by simp only [ArgRelL]; exact ⟨a, us, rfl, h, k⟩
theorem args_n {H : Heap} {ids bs : List Nat} : ArgRelL H ids bs [] [] := rfl
theorem sp_bs (l : List UInt8) (i : Nat) (x : Int) (h : i < l.length) (h0 : 0 ≤ x) (h1 : x ≤ 255) : splice (bs l) i [.sc (.int .u8 x)] = bs (l.set i (by8 x)) := by
  rw [splice_one _ _ _ (by rw [bs_len]; exact h), by8_V x h0 h1, bs_set]
theorem sp_bsV (l : List UInt8) (i : Nat) (x : UInt8) (h : i < l.length) : splice (bs l) i [u8V x] = bs (l.set i x) := by
  rw [splice_one _ _ _ (by rw [bs_len]; exact h), bs_set]
theorem bn_len {n : Nat} (d : Bn n) : d.1.length = n := d.2
theorem slice_nil (S : List V) (H : Heap) (sz : Nat) (lo hi : Option Od) : evSlice S H sz lo hi (.sc (.slice none 0 0)) = (match bnd S hi 0 0 with
    | some h => match bnd S lo 0 h with
      | some _ => some (.sc (.slice none 0 0), H)
      | none => none
    | none => none) := rfl
theorem no_ro_dg {n : Nat} (d : Bn n) : NoROL (dg d) := no_ro_bs _
theorem rep_dead (n : Nat) : List.replicate (n + 1) V.dead = V.dead :: List.replicate n V.dead := rfl
theorem ids_bs (l : List UInt8) : idsInL (bs l) = [] := by
  induction l with
  | nil => rfl
  | cons x l ih => show [] ++ idsInL (bs l) = []; rw [ih]; rfl
theorem ids_dg {n : Nat} (d : Bn n) : idsInL (dg d) = [] := ids_bs _
theorem ids_row (r : Row) : idsIn (rowV r) = [] := by cases r <;> rfl
theorem ids_ints (k : IntKind) (r : Ints) : idsIn (intsV k r) = [] := by cases r <;> rfl
theorem ids_nil : idsInL [] = [] := rfl
theorem ids_cons (v : V) (vs : List V) : idsInL (v :: vs) = idsIn v ++ idsInL vs := rfl
theorem ids_sc (v : Value) : idsIn (.sc v) = [] := rfl
theorem ids_agg (cs : List V) : idsIn (.agg cs) = idsInL cs := rfl
theorem ids_ref (i o : Nat) : idsIn (.ref i o) = [i] := rfl
theorem ids_sref (i o n s : Nat) : idsIn (.sref i o n s) = [i] := rfl
theorem ids_sl (n : Nat) (cs : List V) : idsIn (.sl n cs) = [] := rfl
theorem call_roA {P : Program} {f : Nat} {args' : List V} {r : V} (hC : C P f args' [] r []) {H : Heap} {args : List V} (hbs : ∀ id ∈ idsInL args, ∃ cells, blkAt H id = some cells)
    (hrel : ArgRelL H [] (idsInL args) args args') (hr : Closed r) (hro : NoRO r) : CallRel P f H args r H (idsInL args) [] := call_ro hC _ (fun id h => ⟨h, hbs id h⟩) hrel hr hro
theorem call_roA_new {P : Program} {f : Nat} {args' : List V} {n sz : Nat} {cells : List V} (hC : C P f args' [] (.sref 0 0 n sz) [some cells]) {H : Heap} {args : List V} (hbs : ∀ id ∈ idsInL args, ∃ cells, blkAt H id = some cells)
    (hrel : ArgRelL H [] (idsInL args) args args') (hc : ClosedL cells) (hro : NoROL cells) : CallRel P f H args (.sref H.length 0 n sz) (H ++ [some cells]) (idsInL args) [] := call_ro_new hC _ (fun id h => ⟨h, hbs id h⟩) hrel hc hro
theorem strOf_nil : strOf [] = some [] := rfl
def evCap (H : Heap) : V → Option (V × Heap)
  | .sc (.slice none 0 0) => some (.sc (.int .i64 0), H)
  | _ => none
theorem op_capSl (S : List V) (H : Heap) (x : Od) : evOp S H (.capSl x) = evCap H (x.ev S) := by simp only [evOp]; unfold evCap; rfl
theorem cap_nil (H : Heap) : evCap H (.sc (.slice none 0 0)) = some (vi .i64 0, H) := rfl
theorem op_runeStr (S : List V) (H : Heap) (x : Od) : evOp S H (.runeStr x) = (match x.ev S with | .sc (.int _ n) => some (.sc (.string (Utf8.encode n)), H) | _ => none) := rfl
def evGrow (H : Heap) (sz bytes : Nat) (zs : List Value) (n : Option Int) (x : V) : Option (V × Heap) :=
  match x, n with
    | .sc (.slice none 0 0), some n => if 1 ≤ n ∧ n * bytes ≤ 2 ^ 47 ∧ n ≤ 2 ^ 47 then some (.sref H.length 0 n.toNat sz, H ++ [some (zeroCells zs n.toNat)]) else none
    | _, _ => none
theorem op_growN (S : List V) (H : Heap) (sz b : Nat) (zs : List Value) (x n : Od) : evOp S H (.growN sz b zs x n) = evGrow H sz b zs (intOf? (n.ev S)) (x.ev S) := by simp only [evOp]; unfold evGrow; rfl
theorem grow_nil (H : Heap) (sz b : Nat) (zs : List Value) (n : Int) : evGrow H sz b zs (some n) (.sc (.slice none 0 0)) = if 1 ≤ n ∧ n * b ≤ 2 ^ 47 ∧ n ≤ 2 ^ 47 then some (.sref H.length 0 n.toNat sz, H ++ [some (zeroCells zs n.toNat)]) else none := rfl
def evToArr (H : Heap) (n sz : Nat) : V → Option (V × Heap)
  | .sl m cs => if n ≤ m then some (.box cs, H) else none
  | .sref id off m sz' => if 0 < n ∧ n ≤ m ∧ sz' = sz then some (.ref id off, H) else none
  | _ => none
theorem op_toArr (S : List V) (H : Heap) (n sz : Nat) (x : Od) : evOp S H (.toArr n sz x) = evToArr H n sz (x.ev S) := by simp only [evOp]; unfold evToArr; rfl
theorem toArr_sref (H : Heap) (n sz id off m s : Nat) : evToArr H n sz (.sref id off m s) = if 0 < n ∧ n ≤ m ∧ s = sz then some (.ref id off, H) else none := rfl
theorem toArr_row (H : Heap) (n sz : Nat) (l : List UInt8) : evToArr H n sz (rowV (.of l)) = if n ≤ l.length then some (.box (bs l), H) else none := rfl
theorem idV_row (r : Row) : idV (rowV r) = [] := by cases r <;> rfl
theorem idV_ints (k : IntKind) (r : Ints) : idV (intsV k r) = [] := by cases r <;> rfl
theorem idV_ref (i o : Nat) : idV (.ref i o) = [i] := rfl
theorem idV_sref (i o n s : Nat) : idV (.sref i o n s) = [i] := rfl
theorem idV_sc (v : Value) : idV (.sc v) = [] := rfl
theorem idV_agg (cs : List V) : idV (.agg cs) = [] := rfl
theorem idV_sl (n : Nat) (cs : List V) : idV (.sl n cs) = [] := rfl
theorem idV_box (cs : List V) : idV (.box cs) = [] := rfl
theorem w32_add (a b : Nat) : IntKind.u32.wrap ((a : Int) + b) = ((a + b) % 4294967296 : Nat) := by
  have : IntKind.u32.wrap ((a : Int) + b) = ((a : Int) + b) % 4294967296 := rfl
  rw [this]; omega
def xorW (a b : Nat) : Nat := (a % 4294967296) ^^^ (b % 4294967296)
def orW (a b : Nat) : Nat := (a % 4294967296) ||| (b % 4294967296)
theorem ofInt_nat (n a : Nat) : (BitVec.ofInt n (a : Int)).toNat = a % 2 ^ n := by simp
theorem xorW_lt (a b : Nat) : xorW a b < 4294967296 := Nat.xor_lt_two_pow (n := 32) (Nat.mod_lt _ (by decide)) (Nat.mod_lt _ (by decide))
theorem orW_lt (a b : Nat) : orW a b < 4294967296 := Nat.or_lt_two_pow (n := 32) (Nat.mod_lt _ (by decide)) (Nat.mod_lt _ (by decide))
theorem w32_nat (a : Nat) (h : a < 4294967296) : IntKind.u32.wrap (a : Int) = a := by
  have : IntKind.u32.wrap (a : Int) = (a : Int) % 4294967296 := rfl
  rw [this]; omega
theorem w32_xor (a b : Nat) : IntKind.u32.wrap (((BitVec.ofInt IntKind.u32.bits (a : Int) ^^^ BitVec.ofInt IntKind.u32.bits (b : Int)).toNat : Nat) : Int) = (xorW a b : Nat) := by
  have e : (BitVec.ofInt IntKind.u32.bits (a : Int) ^^^ BitVec.ofInt IntKind.u32.bits (b : Int)).toNat = xorW a b := by
    rw [BitVec.toNat_xor, ofInt_nat, ofInt_nat]; rfl
  rw [e, w32_nat _ (xorW_lt a b)]
theorem w32_or (a b : Nat) : IntKind.u32.wrap (((BitVec.ofInt IntKind.u32.bits (a : Int) ||| BitVec.ofInt IntKind.u32.bits (b : Int)).toNat : Nat) : Int) = (orW a b : Nat) := by
  have e : (BitVec.ofInt IntKind.u32.bits (a : Int) ||| BitVec.ofInt IntKind.u32.bits (b : Int)).toNat = orW a b := by
    rw [BitVec.toNat_or, ofInt_nat, ofInt_nat]; rfl
  rw [e, w32_nat _ (orW_lt a b)]
theorem i64_id (n : Int) (h1 : -9223372036854775808 ≤ n) (h2 : n ≤ 9223372036854775807) : IntKind.i64.wrap n = n := wrap_id n h1 h2
theorem u64_id (n : Int) (h1 : 0 ≤ n) (h2 : n ≤ 18446744073709551615) : IntKind.u64.wrap n = n := IntWalk.u64_in n ⟨h1, h2⟩
theorem u8_id (n : Int) (h1 : 0 ≤ n) (h2 : n ≤ 255) : IntKind.u8.wrap n = n := IntWalk.u8_in n ⟨h1, h2⟩
theorem u32_id (n : Int) (h1 : 0 ≤ n) (h2 : n ≤ 4294967295) : IntKind.u32.wrap n = n := IntWalk.u32_in n ⟨h1, h2⟩
theorem bits_u8 : IntKind.u8.bits = 8 := rfl
theorem bits_u32 : IntKind.u32.bits = 32 := rfl
theorem bits_u64 : IntKind.u64.bits = 64 := rfl
theorem bits_i64 : IntKind.i64.bits = 64 := rfl
theorem shr_nat (k yk : IntKind) (a : Nat) (s : Int) (h0 : 0 ≤ s) (h1 : s.toNat ≤ k.bits) : evBin .shr (.sc (.int k (a : Int))) (.sc (.int yk s)) = some (.sc (.int k ((a / 2 ^ s.toNat : Nat) : Int))) := by
  rw [bin_shr k yk _ _ h0, Nat.min_eq_left h1]
  have hp : (2 : Int) ^ s.toNat = ((2 ^ s.toNat : Nat) : Int) := by rw [Int.natCast_pow]; rfl
  rw [hp, Int.fdiv_eq_ediv_of_nonneg _ (Int.natCast_nonneg _), Int.natCast_ediv]
theorem shr_u64 (yk : IntKind) (a : Nat) (s : Int) (h0 : 0 ≤ s) (h1 : s.toNat ≤ 64) : evBin .shr (.sc (.int .u64 (a : Int))) (.sc (.int yk s)) = some (.sc (.int .u64 ((a / 2 ^ s.toNat : Nat) : Int))) := shr_nat _ _ _ _ h0 h1
theorem shr_u32 (yk : IntKind) (a : Nat) (s : Int) (h0 : 0 ≤ s) (h1 : s.toNat ≤ 32) : evBin .shr (.sc (.int .u32 (a : Int))) (.sc (.int yk s)) = some (.sc (.int .u32 ((a / 2 ^ s.toNat : Nat) : Int))) := shr_nat _ _ _ _ h0 h1
theorem quo_u64 (a : Nat) (b : Int) (hb : 0 < b) : evBin .quo (.sc (.int .u64 (a : Int))) (.sc (.int .u64 b)) = some (.sc (.int .u64 ((a / b.toNat % 18446744073709551616 : Nat) : Int))) := by
  rw [bin_quo .u64 _ _ (by omega), Int.tdiv_eq_ediv_of_nonneg (Int.natCast_nonneg _)]
  obtain ⟨c, rfl⟩ : ∃ c : Nat, b = c := ⟨b.toNat, by omega⟩
  rw [Int.toNat_natCast, ← Int.natCast_ediv]
  have e : ∀ x : Nat, IntKind.u64.wrap (x : Int) = ((x % 18446744073709551616 : Nat) : Int) := fun x => by
    have : IntKind.u64.wrap (x : Int) = (x : Int) % 18446744073709551616 := rfl
    rw [this]; omega
  rw [e]
theorem quo_u32 (a : Nat) (b : Int) (hb : 0 < b) : evBin .quo (.sc (.int .u32 (a : Int))) (.sc (.int .u32 b)) = some (.sc (.int .u32 ((a / b.toNat % 4294967296 : Nat) : Int))) := by
  rw [bin_quo .u32 _ _ (by omega), Int.tdiv_eq_ediv_of_nonneg (Int.natCast_nonneg _)]
  obtain ⟨c, rfl⟩ : ∃ c : Nat, b = c := ⟨b.toNat, by omega⟩
  rw [Int.toNat_natCast, ← Int.natCast_ediv]
  have e : ∀ x : Nat, IntKind.u32.wrap (x : Int) = ((x % 4294967296 : Nat) : Int) := fun x => by
    have : IntKind.u32.wrap (x : Int) = (x : Int) % 4294967296 := rfl
    rw [this]; omega
  rw [e]
theorem quo_i64 (a b : Int) (h : b ≠ 0) : evBin .quo (.sc (.int .i64 a)) (.sc (.int .i64 b)) = some (.sc (.int .i64 (IntKind.i64.wrap (a.tdiv b)))) := bin_quo .i64 a b h
theorem shl_u32 (yk : IntKind) (a : Nat) (s : Int) (h0 : 0 ≤ s) (h1 : s.toNat ≤ 32) : evBin .shl (.sc (.int .u32 (a : Int))) (.sc (.int yk s)) = some (.sc (.int .u32 ((a * 2 ^ s.toNat % 4294967296 : Nat) : Int))) := by
  rw [bin_shl .u32 yk _ _ h0, Nat.min_eq_left (show s.toNat ≤ IntKind.u32.bits from h1)]
  have e : IntKind.u32.wrap ((a : Int) * 2 ^ s.toNat) = ((a : Int) * 2 ^ s.toNat) % 4294967296 := rfl
  rw [e, Int.natCast_emod, Int.natCast_mul, Int.natCast_pow]; rfl
theorem shl_u32z (yk : IntKind) (s : Int) (h0 : 0 ≤ s) : evBin .shl (.sc (.int .u32 0)) (.sc (.int yk s)) = some (.sc (.int .u32 0)) := by
  rw [bin_shl .u32 yk _ _ h0, Int.zero_mul]; rfl
theorem or_u32 (a b : Nat) : evBin .or (.sc (.int .u32 (a : Int))) (.sc (.int .u32 (b : Int))) = some (.sc (.int .u32 ((orW a b : Nat) : Int))) := by rw [bin_or, w32_or]
theorem xor_u32 (a b : Nat) : evBin .xor (.sc (.int .u32 (a : Int))) (.sc (.int .u32 (b : Int))) = some (.sc (.int .u32 ((xorW a b : Nat) : Int))) := by rw [bin_xor, w32_xor]
theorem xor_u8 (a b : UInt8) : evBin .xor (.sc (.int .u8 (a.toNat : Int))) (.sc (.int .u8 (b.toNat : Int))) = some (.sc (.int .u8 ((a ^^^ b).toNat : Int))) := by
  rw [bin_xor]
  have ha := a.toNat_lt
  have hb := b.toNat_lt
  have e : (BitVec.ofInt IntKind.u8.bits (a.toNat : Int) ^^^ BitVec.ofInt IntKind.u8.bits (b.toNat : Int)).toNat = (a ^^^ b).toNat := by
    rw [BitVec.toNat_xor, ofInt_nat, ofInt_nat, UInt8.toNat_xor]
    have : (2 : Nat) ^ IntKind.u8.bits = 256 := by decide
    rw [this, Nat.mod_eq_of_lt ha, Nat.mod_eq_of_lt hb]
  rw [e, u8_id _ (by omega) (by have := (a ^^^ b).toNat_lt; omega)]
theorem or_u32z (b : Nat) : evBin .or (.sc (.int .u32 0)) (.sc (.int .u32 (b : Int))) = some (.sc (.int .u32 ((orW 0 b : Nat) : Int))) := by
  rw [bin_or]
  have := w32_or 0 b
  rw [show ((0 : Nat) : Int) = 0 from rfl] at this
  rw [this]
theorem rd_bs0 (l : List UInt8) (h : 0 < l.length) : rd none (bs l) 0 = some (vi .u8 (l.getD 0 0).toNat) := rd_bs l 0 h
theorem shl_u64 (yk : IntKind) (a : Nat) (s : Int) (h0 : 0 ≤ s) (h1 : s.toNat ≤ 64) : evBin .shl (.sc (.int .u64 (a : Int))) (.sc (.int yk s)) = some (.sc (.int .u64 ((a * 2 ^ s.toNat % 18446744073709551616 : Nat) : Int))) := by
  rw [bin_shl .u64 yk _ _ h0, Nat.min_eq_left (show s.toNat ≤ IntKind.u64.bits from h1)]
  have e : IntKind.u64.wrap ((a : Int) * 2 ^ s.toNat) = ((a : Int) * 2 ^ s.toNat) % 18446744073709551616 := rfl
  rw [e, Int.natCast_emod, Int.natCast_mul, Int.natCast_pow]; rfl
theorem by8_wrap (m : Nat) : by8 (IntKind.u8.wrap (m : Int)) = UInt8.ofNat m := by
  have e : IntKind.u8.wrap (m : Int) = ((m % 256 : Nat) : Int) := by
    have : IntKind.u8.wrap (m : Int) = (m : Int) % 256 := rfl
    rw [this]; omega
  rw [e, by8]
  apply UInt8.toNat_inj.1
  rw [UInt8.toNat_ofNat', UInt8.toNat_ofNat', Int.toNat_natCast]
  omega
theorem w32_u8 (b : UInt8) : IntKind.u32.wrap (b.toNat : Int) = b.toNat := w32_nat _ (by have := b.toNat_lt; omega)
theorem row_l_of (l : List UInt8) : (Row.of l).l = l := rfl
theorem row_l_nil : Row.nil.l = [] := rfl
theorem rd_bs_drop (l : List UInt8) (i : Nat) (h : i < l.length) : rd none (bs (l.drop i)) 0 = some (vi .u8 (l.getD i 0).toNat) := by
  rw [rd_bs _ _ (by rw [List.length_drop]; omega)]
  simp
theorem eqnil_nil (n c n' c' : Nat) : evEqNil (.sc (.slice none n c)) (.sc (.slice none n' c')) = some true := rfl
theorem eqnil_sl (n n' c' : Nat) (cs : List V) : evEqNil (.sl n cs) (.sc (.slice none n' c')) = some false := rfl
theorem eqnil_sref (i o n s n' c' : Nat) : evEqNil (.sref i o n s) (.sc (.slice none n' c')) = some false := rfl
theorem eqnil_of (l : List UInt8) (n' c' : Nat) : evEqNil (rowV (.of l)) (.sc (.slice none n' c')) = some false := rfl
theorem eqnil_rnil (n' c' : Nat) : evEqNil (rowV .nil) (.sc (.slice none n' c')) = some true := rfl
theorem via {A B : Prop} (h : A → B) (a : A) : B := h a
end Go.Proofs.YtfpoebmihjbknaaGreat.VA

/- From a walk in the model itself to a contract of the abstract machine: functions of texts and numbers. -/
set_option linter.unusedVariables false
set_option linter.unusedSimpArgs false
namespace Go.Proofs.YtfpoebmihjbknaaGreat.VA
open Go Go.ChangeShapes Go.WideShapes Go.RowKit
theorem C_of_below {P : Program} {f : Nat} {args : List V} {r : V} {c : Value} (vs0 : List Value) (hargs : ∀ K vs, RepL K args vs → vs = vs0) (hr : ∀ K, Rep K r c)
    (h : ∀ w : World, Calls P f vs0.toArray w fun e w' => e = .returned c ∧ Below w.heap.size w w') : C P f args [] r [] := by
  intro K vs hB hK hdom hv
  rw [hargs K vs hv]
  refine (h K.w).mono fun e w' ⟨he, hb⟩ => ?_
  obtain ⟨h1, h2, h3, h4, h5⟩ := hb
  refine ⟨c, { K with w := w' }, he, rfl, ⟨fun i j b hi => ?_, fun i hi => ?_, fun i b hi => ?_, ?_⟩, fun i b hb => by simpa using hdom i b hb, ?_, hr _⟩
  · obtain ⟨_, hc⟩ := hi; simp at hc
  · obtain ⟨_, hc⟩ := hi; simp at hc
  · obtain ⟨_, hc⟩ := hi; simp at hc
  · exact Nat.le_trans hK.low h4
  · exact {
      B := rfl, R := rfl, os := h1, tape := h2, output := h3, size := h4, len := Nat.le_refl _, ext := fun i b h => h
      new := fun i b h => .inl h, nn := fun b h => .inl h, nk := fun b h _ _ => h, dd := fun i h => .inl h
      frame := fun b hb _ => h5 b hb
      shape := fun b C e fz hC => ⟨C, fz, by
        have hlt : b < K.w.heap.size := (Array.getElem?_eq_some_iff.1 hC).1
        exact (h5 b hlt).trans hC, rfl⟩ }
end Go.Proofs.YtfpoebmihjbknaaGreat.VA

/- Rows of rows that are handed in. -/
set_option linter.unusedVariables false
set_option linter.unusedSimpArgs false
namespace Go.Proofs.YtfpoebmihjbknaaGreat.VA
open Go
def rowsV (rs : List Row) : V := .sl rs.length (rs.map rowV)
theorem rows_closed (rs : List Row) : Closed (rowsV rs) := by
  simp only [rowsV, Closed]
  exact ClosedL.mk fun v hv => by
    obtain ⟨x, _, rfl⟩ := List.mem_map.1 hv
    exact row_closed x
theorem len_rows (H : Heap) (rs : List Row) : evLen H (rowsV rs) = some (vi .i64 rs.length, H) := rfl
theorem idx_rows (H : Heap) (rs : List Row) (i : Int) : evIdx H 1 (some i) (rowsV rs) = if 0 ≤ i ∧ i < rs.length then some (.box ((rs.drop i.toNat).map rowV), H) else none := by
  simp only [rowsV, evIdx, Nat.mul_one, List.map_drop]
theorem rd_rows (rs : List Row) (i : Nat) (h : i < rs.length) : rd none ((rs.drop i).map rowV) 0 = some (rowV (rs.getD i .nil)) := by
  simp [rd, h]
theorem seen_rowV {H : Heap} {ids bs' : List Nat} (r : Row) : Seen1 H ids bs' (rowV r) (rowV r) := .inl ⟨row_closed r, rfl⟩
theorem seen_row {H : Heap} {bs' : List Nat} {id off n : Nat} {L : List UInt8} (hb : blkAt H id = some (bs L)) (hi : id ∈ bs') (h : off + n ≤ L.length) : Seen1 H [] bs' (.sref id off n 1) (rowV (.of ((L.drop off).take n))) := by
  refine .inr ⟨id, off, n, 1, bs L, rfl, by simp, hi, hb, by rw [bs_len]; omega, ?_, ?_⟩
  · rw [bs_drop, Nat.mul_one, bs_take]; exact bs_closed _
  · rw [bs_drop, Nat.mul_one, bs_take, rowV]
    congr 1
    simp; omega
theorem arg_rows {H : Heap} {bs' : List Nat} {id n : Nat} {cells : List V} {rs : List Row} (hb : blkAt H id = some cells) (hi : id ∈ bs') (hn : n = rs.length) (hl : cells.length = n) (hs : SeenL H [] bs' cells (rs.map rowV)) : ArgRel H [] bs' (.sref id 0 n 1) (rowsV rs) := by
  simp only [ArgRel]
  refine .inr ⟨by simp, hi, cells, rs.map rowV, hb, by omega, ?_, by rw [rowsV, hn]⟩
  rw [List.drop_zero, Nat.mul_one, List.take_of_length_le (by omega)]
  exact hs
theorem app_bs0 (H : Heap) (l ys : List UInt8) (id m : Nat) (hm : m = ys.length) (hle : ys.length ≤ 140737488355328) :
    appB H 1 1 m (bs ys) id 0 0 1 (bs l) = some (.sref H.length 0 ys.length 1, H.set id none ++ [some (bs ys)]) := by
  subst hm
  unfold appB
  rw [if_pos ⟨rfl, rfl, by omega, by omega, by omega⟩]
  simp
def joinF : List Row → List UInt8
  | [] => []
  | r :: rs => r.l ++ joinF rs
theorem join_take (rs : List Row) : ∀ i, i < rs.length → joinF (rs.take (i + 1)) = joinF (rs.take i) ++ (rs.getD i .nil).l := by
  induction rs with
  | nil => intro i h; simp at h
  | cons r rs ih =>
    intro i h
    cases i with
    | zero => simp [joinF]
    | succ i =>
      have := ih i (by simpa using h)
      simp only [List.take_succ_cons, joinF, this, List.append_assoc, List.getD_cons_succ]
theorem join_le (rs : List Row) : ∀ i, (joinF (rs.take i)).length ≤ (joinF rs).length := by
  induction rs with
  | nil => intro i; simp
  | cons r rs ih =>
    intro i
    cases i with
    | zero => simp [joinF]
    | succ i => have := ih i; simp only [List.take_succ_cons, joinF, List.length_append]; omega
end Go.Proofs.YtfpoebmihjbknaaGreat.VA

/- More ways to hand over: rows of owned rows; a row with a value beside it comes back. -/
set_option linter.unusedVariables false
set_option linter.unusedSimpArgs false
namespace Go.Proofs.YtfpoebmihjbknaaGreat.VA
open Go
theorem seen_c {H : Heap} {ids bs' : List Nat} {v u : V} {vs us : List V} (h : Seen1 H ids bs' v u) (k : SeenL H ids bs' vs us) : SeenL H ids bs' (v :: vs) (u :: us) := ⟨u, us, rfl, h, k⟩
theorem seen_n {H : Heap} {ids bs' : List Nat} : SeenL H ids bs' [] [] := rfl
theorem seen_rowA {H : Heap} {bs' : List Nat} {id n : Nat} {L : List UInt8} (hb : blkAt H id = some (bs L)) (hi : id ∈ bs') (h : n = L.length) : Seen1 H [] bs' (.sref id 0 n 1) (rowV (.of L)) := by
  have := seen_row (off := 0) (n := n) hb hi (by omega)
  rwa [List.drop_zero, h, List.take_length, ← h] at this
theorem seen_dg {H : Heap} {bs' : List Nat} {id n k : Nat} {d : Bn k} (hb : blkAt H id = some (dg d)) (hi : id ∈ bs') (h : n = k) : Seen1 H [] bs' (.sref id 0 n 1) (rowV (.of d.1)) :=
  seen_rowA hb hi (by rw [d.2]; exact h)
theorem call_rows_new {P : Program} {f : Nat} {rs : List Row} {n sz : Nat} {out : List V} (hC : C P f [rowsV rs] [] (.sref 0 0 n sz) [some out]) {H : Heap} {id m : Nat} {cells : List V} (hb : blkAt H id = some cells) (hm : m = rs.length) (hl : cells.length = m)
    (hblk : ∀ i ∈ idsInL cells, ∃ c, blkAt H i = some c) (hs : SeenL H [] (id :: idsInL cells) cells (rs.map rowV)) (hc : ClosedL out) (hro : NoROL out) : CallRel P f H [.sref id 0 m 1] (.sref H.length 0 n sz) (H ++ [some out]) (id :: idsInL cells) [] := by
  have := call_in2 hC (H := H) (args := [.sref id 0 m 1]) (id :: idsInL cells) (fun i h => by
    rcases List.mem_cons.1 h with rfl | h
    · exact ⟨.inl (by simp [idsInL, idsIn]), cells, hb⟩
    · exact ⟨.inr ⟨id, by simp, by simp [idsInL, idsIn], cells, hb, h⟩, hblk i h⟩) (args1 (arg_rows hb (by simp) hm hl hs)) (fun _ => ⟨trivial, fun i cs h => by
    cases i with
    | zero => simp at h; subst h; exact hro
    | succ i => simp at h⟩)
  simpa [renV, renL_closed _ out hc] using this
theorem call_inT {P : Program} {f : Nat} {args' : List V} {n sz : Nat} {x : V} {out : List V} (hC : C P f args' [] (.tup [.sref 0 0 n sz, x]) [some out]) {H : Heap} {args : List V} (hbs : ∀ id ∈ idsInL args, ∃ cells, blkAt H id = some cells)
    (hrel : ArgRelL H [] (idsInL args) args args') (hx : Closed x) (hrx : NoRO x) (hc : ClosedL out) (hro : NoROL out) : CallRel P f H args (.tup [.sref H.length 0 n sz, x]) (H ++ [some out]) (idsInL args) [] := by
  have := call_in hC (H := H) _ (fun id h => ⟨h, hbs id h⟩) hrel (fun _ => ⟨⟨trivial, hrx, trivial⟩, fun i cs h => by
    cases i with
    | zero => simp at h; subst h; exact hro
    | succ i => simp at h⟩)
  simpa [renV, renL, renL_closed _ out hc, renV_closed _ x hx] using this
theorem out_rowT {H : Heap} {id n sz : Nat} {x : V} {cells : List V} (hb : blkAt H id = some cells) (hx : Closed x) (hc : ClosedL cells) : OutOK 0 H (.tup [.sref id 0 n sz, x]) (.tup [.sref 0 0 n sz, x]) [some cells] := by
  refine ⟨[id], [], by simp, rfl, Nat.zero_le _, fun k h => by omega, (fun _ h => by cases h), ?_, fun k c h => ?_⟩
  · simp only [ArgRel]
    refine ⟨_, rfl, ?_⟩
    simp only [ArgRelL]
    refine ⟨_, _, rfl, ?_, _, _, rfl, arg_closed x hx, rfl⟩
    simp only [ArgRel]
    exact .inl ⟨0, rfl, rfl⟩
  · cases k with
    | zero => simp at h; subst h; exact ⟨id, cells, rfl, hb, argL_closed cells hc⟩
    | succ k => simp at h
def xorF : List UInt8 → List UInt8 → List UInt8
  | x :: xs, y :: ys => (x ^^^ y) :: xorF xs ys
  | _, _ => []
def mixF (i : Nat) (a b : List UInt8) : List UInt8 := xorF (a.take i) (b.take i) ++ a.drop i
theorem xor_len : ∀ (a b : List UInt8), a.length = b.length → (xorF a b).length = a.length
  | [], [], _ => rfl
  | x :: xs, y :: ys, h => by simp only [xorF, List.length_cons, xor_len xs ys (by simpa using h)]
theorem xor_get : ∀ (a b : List UInt8) (i : Nat), i < a.length → i < b.length → (xorF a b).getD i 0 = a.getD i 0 ^^^ b.getD i 0
  | [], _, _, h, _ => by simp at h
  | _ :: _, [], _, _, h => by simp at h
  | x :: xs, y :: ys, 0, _, _ => rfl
  | x :: xs, y :: ys, i + 1, h, k => by
    have := xor_get xs ys i (by simpa using h) (by simpa using k)
    simpa only [xorF, List.getD_cons_succ] using this
theorem mix_len (a b : List UInt8) (i : Nat) (h : a.length = b.length) : (mixF i a b).length = a.length := by
  rw [mixF, List.length_append, xor_len _ _ (by rw [List.length_take, List.length_take, h]), List.length_take, List.length_drop]; omega
theorem mix_zero (a b : List UInt8) : mixF 0 a b = a := by simp [mixF, xorF]
theorem mix_all (a b : List UInt8) (h : a.length = b.length) : mixF a.length a b = xorF a b := by
  rw [mixF, List.take_length, List.drop_length, h, List.take_length, List.append_nil]
theorem mix_get (a b : List UInt8) (i : Nat) (h : a.length = b.length) (hi : i < a.length) : (mixF i a b).getD i 0 = a.getD i 0 := by
  have hl : (xorF (a.take i) (b.take i)).length = i := by rw [xor_len _ _ (by rw [List.length_take, List.length_take, h]), List.length_take]; omega
  rw [mixF, List.getD_eq_getElem?_getD, List.getElem?_append_right (by omega), hl, Nat.sub_self, List.getElem?_drop, Nat.add_zero, ← List.getD_eq_getElem?_getD]
theorem xor_snoc : ∀ (a b : List UInt8) (x y : UInt8), a.length = b.length → xorF (a ++ [x]) (b ++ [y]) = xorF a b ++ [x ^^^ y]
  | [], [], _, _, _ => rfl
  | p :: ps, q :: qs, x, y, h => by
    have := xor_snoc ps qs x y (by simpa using h)
    simp only [List.cons_append, xorF, this]
theorem mix_set (a b : List UInt8) (i : Nat) (h : a.length = b.length) (hi : i < a.length) : (mixF i a b).set i (a.getD i 0 ^^^ b.getD i 0) = mixF (i + 1) a b := by
  have hl : (xorF (a.take i) (b.take i)).length = i := by rw [xor_len _ _ (by rw [List.length_take, List.length_take, h]), List.length_take]; omega
  have ha : a.take (i + 1) = a.take i ++ [a.getD i 0] := by rw [List.take_add_one]; simp [List.getElem?_eq_getElem hi]
  have hb : b.take (i + 1) = b.take i ++ [b.getD i 0] := by rw [List.take_add_one]; simp [List.getElem?_eq_getElem (show i < b.length by omega)]
  have hd : a.drop i = a.getD i 0 :: a.drop (i + 1) := by rw [List.drop_eq_getElem_cons hi]; simp [List.getElem?_eq_getElem hi]
  rw [mixF, List.set_append_right _ _ (by omega), hl, Nat.sub_self, mixF, ha, hb, xor_snoc _ _ _ _ (by rw [List.length_take, List.length_take, h]), hd, List.set_cons_zero, List.append_assoc]
  rfl
theorem xor_twice : ∀ (a b : List UInt8), a.length = b.length → xorF a (xorF a b) = b
  | [], [], _ => rfl
  | x :: xs, y :: ys, h => by
    simp only [xorF, xor_twice xs ys (by simpa using h), List.cons.injEq, and_true]
    rw [← UInt8.xor_assoc, UInt8.xor_self, UInt8.zero_xor]
theorem xor_comm : ∀ (a b : List UInt8), xorF a b = xorF b a
  | [], [] => rfl
  | [], _ :: _ => rfl
  | _ :: _, [] => rfl
  | x :: xs, y :: ys => by simp only [xorF, xor_comm xs ys, UInt8.xor_comm]
theorem xor_take : ∀ (a b : List UInt8) (n : Nat), xorF (a.take n) (b.take n) = (xorF a b).take n
  | [], b, n => by cases b.take n <;> simp [xorF]
  | x :: xs, [], n => by cases n <;> simp [xorF]
  | x :: xs, y :: ys, 0 => rfl
  | x :: xs, y :: ys, n + 1 => by simp only [List.take_succ_cons, xorF, xor_take xs ys n]
end Go.Proofs.YtfpoebmihjbknaaGreat.VA

/- Memory that nobody writes from then on: a contract's new blocks are shown as values; rows that are handed over for good. -/
set_option linter.unusedVariables false
set_option linter.unusedSimpArgs false
namespace Go.Proofs.YtfpoebmihjbknaaGreat.VA
open Go
theorem C_out {P : Program} {f : Nat} {args : List V} {Hin : List (List V)} {v r : V} {H Hout : Heap} (hC : C P f args Hin v H) (ho : OutOK Hin.length H v r Hout) : C P f args Hin r Hout := by
  intro K vs hB hK hdom hargs
  obtain ⟨sel, bs, hnd, hsl1, hn, hold, hbs, harg, hcells⟩ := ho
  refine (hC K vs hB hK hdom hargs).mono ?_
  rintro e w' ⟨c, K', rfl, rfl, hK', hdomk, hst, hrep⟩
  let frz : Nat → Prop := fun b => ∃ x, x ∈ bs ∧ x ∉ sel ∧ K'.β x = some b
  let K2 : Cx := { K' with β := fun k => (sel[k]?).bind K'.β, N := fun b => K'.N b ∧ ¬ frz b }
  have hbsD : ∀ x, x ∈ bs → kap H x := fun x hx => by
    obtain ⟨cells, hc⟩ := hbs x hx
    exact ⟨cells, blkAt_iff.1 hc⟩
  have hβ : ∀ k id, sel[k]? = some id → K2.β k = K'.β id := fun k id hk => by show (sel[k]?).bind K'.β = _; rw [hk]; rfl
  have hβ' : ∀ k b, K2.β k = some b → ∃ id, sel[k]? = some id ∧ K'.β id = some b := fun k b hb => by
    have hb' : (sel[k]?).bind K'.β = some b := hb
    simpa [Option.bind_eq_some_iff] using hb'
  have hcx : CallCx K' K2 H (kap H) sel bs := ⟨rfl, hβ, fun b h => ⟨fun hn => h.1 hn.1, h.2⟩, fun id b hni hid hD hb => ⟨fun hn => hn.2 ⟨id, hid, hni, hb⟩, (hK'.own id b hD hb).2⟩⟩
  have hselinj : ∀ i j x, sel[i]? = some x → sel[j]? = some x → i = j := fun i j x hi hj => by
    obtain ⟨hi1, hi2⟩ := List.getElem?_eq_some_iff.1 hi
    obtain ⟨hj1, hj2⟩ := List.getElem?_eq_some_iff.1 hj
    exact (List.getElem_inj hnd).1 (hi2.trans hj2.symm)
  have hout : ∀ k, kap Hout k → ∃ id cells, sel[k]? = some id ∧ H[id]? = some (some cells) ∧ K2.β k = K'.β id := fun k ⟨cs, hcs⟩ => by
    obtain ⟨id, cells, h1, h2, _⟩ := hcells k cs hcs
    exact ⟨id, cells, h1, blkAt_iff.1 h2, hβ k id h1⟩
  refine ⟨c, K2, rfl, rfl, ⟨?_, ?_, ?_, hK'.low⟩, ?_, ?_, arg_rep hK' hcx hbsD v r c harg hrep⟩
  · intro i j b hi hj hbi hbj
    obtain ⟨x, cx, hx, hHx, hbx⟩ := hout i hi
    obtain ⟨y, cy, hy, hHy, hby⟩ := hout j hj
    rw [hbx] at hbi; rw [hby] at hbj
    have := hK'.inj x y b ⟨cx, hHx⟩ ⟨cy, hHy⟩ hbi hbj
    subst this
    exact hselinj i j x hx hy
  · rintro k ⟨cs, hcs⟩
    obtain ⟨id, cells, h1, h2, h3⟩ := hcells k cs hcs
    rw [blkAt_iff] at h2
    obtain ⟨b, cells2, hb, hH2, C, e, lo, up, hC, hcl, hfz, h1c, hcc⟩ := hK'.blk id ⟨cells, h2⟩
    rw [h2] at hH2; cases hH2
    refine ⟨b, cs, by rw [hβ k id h1]; exact hb, hcs, C, e, lo, up, hC, by rw [argL_len h3]; exact hcl, hfz, h1c, fun i u hu => ?_⟩
    obtain ⟨u0, hu0, hrel0⟩ := argL_get h3 i u hu
    obtain ⟨c, hc1, hr⟩ := hcc i u0 hu0
    exact ⟨c, hc1, arg_rep hK' hcx hbsD u0 u c hrel0 hr⟩
  · intro k b hk hb
    obtain ⟨id, cells, h1, h2, h3⟩ := hout k hk
    rw [h3] at hb
    obtain ⟨o1, o2⟩ := hK'.own id b ⟨cells, h2⟩ hb
    refine ⟨⟨o1, ?_⟩, o2⟩
    rintro ⟨x, hx, hxs, hxb⟩
    have := hK'.inj id x b ⟨cells, h2⟩ (hbsD x hx) hb hxb
    subst this
    exact hxs (List.mem_of_getElem? h1)
  · intro k b hb
    obtain ⟨id, h1, _⟩ := hβ' k b hb
    have := (List.getElem?_eq_some_iff.1 h1).1
    omega
  · refine ⟨hst.B, hst.R, hst.os, hst.tape, hst.output, hst.size, by simpa using hn, fun i b hb => ?_, fun k b hb => ?_, fun b hb => hst.nn b hb.1, fun b hb hlt hno => ⟨hst.nk b hb hlt hno, ?_⟩, fun k hk => ?_, hst.frame, hst.shape⟩
    · rw [hβ i i (hold i (hdom i b hb))]; exact hst.ext i b hb
    · obtain ⟨id, h1, h2⟩ := hβ' k b hb
      have hkl := (List.getElem?_eq_some_iff.1 h1).1
      by_cases hkn : k < Hin.length
      · have := hold k hkn
        rw [h1] at this; cases this
        rcases hst.new k b h2 with h3 | ⟨_, h3, _⟩
        · exact .inl h3
        · simp at h3; omega
      · have hKk : K.β k = none := by
          cases hkb : K.β k with
          | none => rfl
          | some x => exact absurd (hdom k x hkb) hkn
        refine .inr ⟨hKk, by simpa using hkn, by omega, ?_⟩
        rcases hst.new id b h2 with h3 | ⟨_, _, _, h3⟩
        · exfalso
          have := hdom id b h3
          have := hselinj id k id (hold id this) h1
          omega
        · exact h3
    · rintro ⟨x, hx, hxs, hxb⟩
      rcases hst.new x b hxb with h3 | ⟨_, _, _, h3⟩
      · exact hxs (List.mem_of_getElem? (hold x (hdom x b h3)))
      · rcases h3 with h3 | h3
        · omega
        · exact hno h3
    · by_cases hkn : k < Hin.length
      · exact .inl ⟨Hin[k], by simp [List.getElem?_eq_getElem hkn]⟩
      · refine .inr ⟨?_, by simpa using hkn, hk.lt⟩
        cases hkb : K.β k with
        | none => rfl
        | some x => exact absurd (hdom k x hkb) hkn
theorem out_show {H : Heap} {v r : V} (bs : List Nat) (hbs : ∀ id, id ∈ bs → ∃ cells, blkAt H id = some cells) (h : ArgRel H [] bs v r) : OutOK 0 H v r [] :=
  ⟨[], bs, List.nodup_nil, rfl, Nat.le_refl _, fun k h => by omega, hbs, h, fun k c h => by simp at h⟩
theorem argL_app {H : Heap} {ids bs : List Nat} : ∀ {a a' b b' : List V}, ArgRelL H ids bs a a' → ArgRelL H ids bs b b' → ArgRelL H ids bs (a ++ b) (a' ++ b')
  | [], a', b, b', h, k => by simp only [ArgRelL] at h; subst h; simpa using k
  | v :: a, a', b, b', h, k => by
    simp only [ArgRelL] at h; obtain ⟨u, us, rfl, h1, h2⟩ := h
    simp only [List.cons_append, ArgRelL]
    exact ⟨u, us ++ b', rfl, h1, argL_app h2 k⟩
theorem argL_cons {H : Heap} {ids bs : List Nat} {v u : V} {a b : List V} (h : ArgRel H ids bs v u) (k : ArgRelL H ids bs a b) : ArgRelL H ids bs (v :: a) (u :: b) := by
  simp only [ArgRelL]; exact ⟨u, b, rfl, h, k⟩
theorem argL_nil {H : Heap} {ids bs : List Nat} : ArgRelL H ids bs [] [] := by simp only [ArgRelL]
theorem arg_agg {H : Heap} {ids bs : List Nat} {a b : List V} (h : ArgRelL H ids bs a b) : ArgRel H ids bs (.agg a) (.agg b) := by
  simp only [ArgRel]; exact ⟨b, rfl, h⟩
theorem arg_tup {H : Heap} {ids bs : List Nat} {a b : List V} (h : ArgRelL H ids bs a b) : ArgRel H ids bs (.tup a) (.tup b) := by
  simp only [ArgRel]; exact ⟨b, rfl, h⟩
theorem arg_sl {H : Heap} {bs' : List Nat} {id n sz : Nat} {cells : List V} (hb : blkAt H id = some cells) (hi : id ∈ bs') (hn : cells.length = n * sz) (hc : ClosedL cells) : ArgRel H [] bs' (.sref id 0 n sz) (.sl n cells) := by
  simp only [ArgRel]
  refine .inr ⟨by simp, hi, cells, cells, hb, by omega, ?_, rfl⟩
  rw [List.drop_zero, List.take_of_length_le (by omega)]
  clear hb hn
  induction cells with
  | nil => rfl
  | cons v vs ih => exact ⟨v, vs, rfl, .inl ⟨hc.1, rfl⟩, ih hc.2⟩
theorem C_shut {P : Program} {f : Nat} {args : List V} {n : Nat} {l : List UInt8} (hC : C P f args [] (.sref 0 0 n 1) [some (bs l)]) (hn : n = l.length) : C P f args [] (rowV (.of l)) [] := by
  subst hn
  refine C_out hC (out_show [0] (fun id h => by simp at h; subst h; exact ⟨_, rfl⟩) ?_)
  exact arg_sl rfl (by simp) (by simp [bs_len]) (bs_closed _)
theorem C_shutT {P : Program} {f : Nat} {args : List V} {n : Nat} {l : List UInt8} {x : V} (hC : C P f args [] (.tup [.sref 0 0 n 1, x]) [some (bs l)]) (hn : n = l.length) (hx : Closed x) : C P f args [] (.tup [rowV (.of l), x]) [] := by
  subst hn
  refine C_out hC (out_show [0] (fun id h => by simp at h; subst h; exact ⟨_, rfl⟩) ?_)
  exact arg_tup (argL_cons (arg_sl rfl (by simp) (by simp [bs_len]) (bs_closed _)) (argL_cons (arg_closed x hx) argL_nil))
theorem C_give {P : Program} {f : Nat} {args args' : List V} {r : V} (hC : C P f args' [] r []) (hr : Closed r) {Hin : List (List V)} {bs : List Nat} (hbs : ∀ id, id ∈ bs → id < Hin.length)
    (hrel : ArgRelL (Hin.map some) [] bs args args') : C P f args Hin r (List.replicate Hin.length none) := by
  intro K vs hB hK hdom hv
  have hkap : ∀ i, i < Hin.length → kap (Hin.map some) i := fun i hi => ⟨Hin[i], by simp [List.getElem?_eq_getElem hi]⟩
  let K1 : Cx := { K with β := fun _ => none, N := fun b => K.N b ∧ ¬ ∃ i, K.β i = some b }
  have hcx : CallCx K K1 (Hin.map some) (kap (Hin.map some)) [] bs := ⟨rfl, fun k id h => by simp at h, fun b h => ⟨fun hn => h.1 hn.1, h.2⟩, fun id b _ _ hD hb => ⟨fun hn => hn.2 ⟨id, hb⟩, (hK.own id b hD hb).2⟩⟩
  have hv1 : RepL K1 args' vs := argL_rep hK hcx (fun i hi => hkap i (hbs i hi)) args args' vs hrel hv
  have hnil : ∀ i, ¬ kap ([] : Heap) i := fun i ⟨c, h⟩ => by simp at h
  have hK1 : HeapOK K1 (([] : List (List V)).map some) (kap (([] : List (List V)).map some)) := ⟨fun i j b h => absurd h (hnil i), fun i h => absurd h (hnil i), fun i b h => absurd h (hnil i), hK.low⟩
  refine (hC K1 vs hB hK1 (fun i b h => by cases h) hv1).mono ?_
  rintro e w' ⟨c, K2, rfl, rfl, hK2, hdom2, hst, hrep⟩
  have hno : ∀ i, ¬ kap (List.replicate Hin.length (none : Option (List V))) i := fun i ⟨c, h⟩ => by
    rw [List.getElem?_replicate] at h
    split at h <;> simp at h
  let K3 : Cx := { K2 with β := K.β }
  have hone : ∀ b, ¬ OwnD K1 (kap (([] : List (List V)).map some)) b := fun b ⟨i, hi, _⟩ => hnil i hi
  refine ⟨c, K3, rfl, rfl, ⟨fun i j b h => absurd h (hno i), fun i h => absurd h (hno i), fun i b h => absurd h (hno i), hK2.low⟩, fun i b h => by simpa using hdom i b h, ?_, Rep.closed (K := K2) (K' := K3) rfl (fun b h => h) r c hr hrep⟩
  exact {
    B := hst.B, R := hst.R, os := hst.os, tape := hst.tape, output := hst.output, size := hst.size, len := by simp, ext := fun i b h => h, new := fun i b h => .inl h
    nn := fun b h => (hst.nn b h).imp (fun h => h.1) id
    nk := fun b h1 h2 h3 => hst.nk b ⟨h1, fun ⟨i, hi⟩ => h3 ⟨i, hkap i (hdom i b hi), hi⟩⟩ h2 (hone b)
    dd := fun i h => absurd h (hno i)
    frame := fun b h1 _ => hst.frame b h1 (hone b)
    shape := hst.shape }
def GiveL (H : Heap) (id : Nat) (cells : List V) (a b c : List V) : Prop := ArgRelL H [id] [] a b ∧ ArgRelL [some cells] [] [0] b c
theorem give_n {H : Heap} {id : Nat} {cells : List V} : GiveL H id cells [] [] [] := ⟨argL_nil, argL_nil⟩
theorem give_c {H : Heap} {id : Nat} {cells : List V} {v : V} {a b c : List V} (hv : Closed v) (h : GiveL H id cells a b c) : GiveL H id cells (v :: a) (v :: b) (v :: c) :=
  ⟨argL_cons (arg_closed v hv) h.1, argL_cons (arg_closed v hv) h.2⟩
theorem seenL_closed {H : Heap} {ids bs : List Nat} : ∀ {vs : List V}, ClosedL vs → SeenL H ids bs vs vs
  | [], _ => rfl
  | v :: vs, h => ⟨v, vs, rfl, .inl ⟨h.1, rfl⟩, seenL_closed h.2⟩
theorem closedL_take : ∀ {l : List V} (n : Nat), ClosedL l → ClosedL (l.take n)
  | [], n, h => by simpa using h
  | v :: l, 0, h => trivial
  | v :: l, n + 1, h => ⟨h.1, closedL_take n h.2⟩
theorem closedL_drop : ∀ {l : List V} (n : Nat), ClosedL l → ClosedL (l.drop n)
  | [], n, h => by simpa using h
  | v :: l, 0, h => h
  | v :: l, n + 1, h => closedL_drop n h.2
theorem give_s {H : Heap} {id off n sz : Nat} {cells : List V} {a b c : List V} (hle : off + n * sz ≤ cells.length) (hc : ClosedL cells) (h : GiveL H id cells a b c) :
    GiveL H id cells (.sref id off n sz :: a) (.sref 0 off n sz :: b) (.sl n ((cells.drop off).take (n * sz)) :: c) := by
  refine ⟨argL_cons ?_ h.1, argL_cons ?_ h.2⟩
  · simp only [ArgRel]; exact .inl ⟨0, rfl, rfl⟩
  · simp only [ArgRel]
    exact .inr ⟨by simp, by simp, cells, _, rfl, hle, seenL_closed (closedL_take _ (closedL_drop _ hc)), rfl⟩
theorem give_row {H : Heap} {id off n : Nat} {L : List UInt8} {a b c : List V} (hle : off + n ≤ L.length) (h : GiveL H id (bs L) a b c) :
    GiveL H id (bs L) (.sref id off n 1 :: a) (.sref 0 off n 1 :: b) (rowV (.of ((L.drop off).take n)) :: c) := by
  have := give_s (off := off) (n := n) (sz := 1) (cells := bs L) (by rw [bs_len]; omega) (bs_closed L) h
  have e : V.sl n (((bs L).drop off).take (n * 1)) = rowV (.of ((L.drop off).take n)) := by
    rw [bs_drop, Nat.mul_one, bs_take, rowV]
    congr 1
    simp; omega
  rwa [e] at this
theorem give_rowA {H : Heap} {id n : Nat} {L : List UInt8} {a b c : List V} (hn : n = L.length) (h : GiveL H id (bs L) a b c) :
    GiveL H id (bs L) (.sref id 0 n 1 :: a) (.sref 0 0 n 1 :: b) (rowV (.of L) :: c) := by
  have := give_row (off := 0) (n := n) (by omega) h
  rwa [List.drop_zero, hn, List.take_length, ← hn] at this
theorem call_give {P : Program} {f : Nat} {args1 args' : List V} {r : V} (hC : C P f args' [] r []) (hr : Closed r) {H : Heap} {id : Nat} {cells : List V} {args : List V} (hb : blkAt H id = some cells) (hc : ClosedL cells) (hi : id ∈ idsInL args) (hg : GiveL H id cells args args1 args') :
    CallRel P f H args r (H.set id none) [id] [id] := by
  have h1 := C_give (Hin := [cells]) (bs := [0]) hC hr (fun i h => by simp at h; subst h; simp) hg.2
  refine ⟨[id], [], args1, [cells], r, [none], h1, by simp, rfl, by simp, fun k i hk => ?_, fun k i hk => ?_, by simp, hg.1, by simp, by rw [renV_closed _ r hr], ?_, by simp, rfl⟩
  · cases k with
    | zero => simp at hk; subst hk; exact ⟨cells, cells, rfl, hb, argL_closed cells hc⟩
    | succ k => simp at hk
  · cases k with
    | zero => simp at hk; subst hk; exact .inl hi
    | succ k => simp at hk
  · simp [putBack]
end Go.Proofs.YtfpoebmihjbknaaGreat.VA

/- What the arguments of a law are. -/
set_option linter.unusedVariables false
set_option linter.unusedSimpArgs false
namespace Go.Proofs.YtfpoebmihjbknaaGreat.VA
open Go
def structTypes (P : Program) (t : TypeId) : Option (List TypeId) :=
  match P.underlying t with
  | some (.struct fs) => some (fs.toList.map (·.type))
  | _ => none
def ArgTs (P : Program) (n : Nat) : List TypeId → List V → Prop
  | [], vs => vs = []
  | t :: ts, vs => ∃ a b, vs = a ++ b ∧ ArgT P n t a ∧ ArgTs P n ts b
theorem argTs_of {P : Program} {n : Nat} : ∀ {ts : List TypeId} {parts : List (List V)}, parts.length = ts.length → (∀ (i : Nat) t p, ts[i]? = some t → parts[i]? = some p → ArgT P n t p) → ArgTs P n ts parts.flatten
  | [], [], _, _ => rfl
  | t :: ts, p :: ps, hl, h => ⟨p, ps.flatten, by simp, h 0 t p rfl rfl, argTs_of (by simpa using hl) fun i t p ht hp => h (i + 1) t p (by simpa using ht) (by simpa using hp)⟩
  | [], p :: ps, hl, _ => by simp at hl
  | t :: ts, [], hl, _ => by simp at hl
section
variable {P : Program} {n : Nat} {t : TypeId} {vs : List V}
theorem argT_struct {ts : List TypeId} (hu : structTypes P t = some ts) (h : ArgT P n t vs) : ∃ m, ArgTs P m ts vs := by
  unfold structTypes at hu
  split at hu
  · rename_i fs hf
    cases hu
    cases n with
    | zero => exact h.elim
    | succ n =>
      unfold ArgT at h
      rw [hf] at h
      obtain ⟨parts, h1, h2, rfl⟩ := h
      refine ⟨n, argTs_of (by simpa using h1) fun i t p ht hp => ?_⟩
      rw [List.getElem?_map, Option.map_eq_some_iff] at ht
      obtain ⟨f, hf, rfl⟩ := ht
      exact h2 i f p hf hp
  · cases hu
theorem argT_int {k : IntKind} (hu : P.underlying t = some (.int k)) (h : ArgT P n t vs) : ∃ i, (Lit.int k i).wf = true ∧ vs = [vi k i] := by
  cases n with
  | zero => exact h.elim
  | succ n => unfold ArgT at h; rw [hu] at h; exact h
theorem argT_bool (hu : P.underlying t = some .bool) (h : ArgT P n t vs) : ∃ b, vs = [vb b] := by
  cases n with
  | zero => exact h.elim
  | succ n => unfold ArgT at h; rw [hu] at h; exact h
theorem argT_str (hu : P.underlying t = some .string) (h : ArgT P n t vs) : ∃ l : List UInt8, l.length ≤ maxLen ∧ vs = [st l] := by
  cases n with
  | zero => exact h.elim
  | succ n =>
    unfold ArgT at h; rw [hu] at h
    obtain ⟨s, hs, rfl⟩ := h
    exact ⟨s.data.toList, by simpa using hs, rfl⟩
theorem wf_u8 {i : Int} (h : (Lit.int .u8 i).wf = true) : 0 ≤ i ∧ i ≤ 255 := by simpa [Lit.wf, IntKind.min, IntKind.max, IntKind.signed, IntKind.bits] using h
theorem wf_u32 {i : Int} (h : (Lit.int .u32 i).wf = true) : 0 ≤ i ∧ i ≤ 4294967295 := by simpa [Lit.wf, IntKind.min, IntKind.max, IntKind.signed, IntKind.bits] using h
theorem wf_u64 {i : Int} (h : (Lit.int .u64 i).wf = true) : 0 ≤ i ∧ i ≤ 18446744073709551615 := by simpa [Lit.wf, IntKind.min, IntKind.max, IntKind.signed, IntKind.bits] using h
theorem wf_i64 {i : Int} (h : (Lit.int .i64 i).wf = true) : -9223372036854775808 ≤ i ∧ i ≤ 9223372036854775807 := by simpa [Lit.wf, IntKind.min, IntKind.max, IntKind.signed, IntKind.bits] using h
theorem u8_of {i : Int} (h : (Lit.int .u8 i).wf = true) : ∃ b : UInt8, vi .u8 i = u8V b := by
  have := wf_u8 h
  refine ⟨UInt8.ofNat i.toNat, ?_⟩
  have e : (UInt8.ofNat i.toNat).toNat = i.toNat := by rw [UInt8.toNat_ofNat']; omega
  rw [u8V, e]
  congr 2; omega
theorem bytes_of {e : TypeId} (he : P.underlying e = some (.int .u8)) : ∀ {parts : List (List V)}, (∀ p ∈ parts, ArgT P n e p) → ∃ l : List UInt8, l.length = parts.length ∧ parts.flatten = bs l
  | [], _ => ⟨[], rfl, rfl⟩
  | p :: ps, h => by
    obtain ⟨l, h1, h2⟩ := bytes_of he (parts := ps) fun q hq => h q (by simp [hq])
    obtain ⟨i, hw, rfl⟩ := argT_int he (h p (by simp))
    obtain ⟨b, hb⟩ := u8_of hw
    refine ⟨b :: l, by simp [h1], ?_⟩
    rw [List.flatten_cons, h2, hb]; rfl
theorem argT_bn {m : Nat} {e : TypeId} (hu : P.underlying t = some (.array m e)) (he : P.underlying e = some (.int .u8)) (h : ArgT P n t vs) : ∃ d : Bn m, vs = dg d := by
  cases n with
  | zero => exact h.elim
  | succ n =>
    unfold ArgT at h; rw [hu] at h
    obtain ⟨parts, h1, h2, rfl⟩ := h
    obtain ⟨l, h3, h4⟩ := bytes_of he h2
    exact ⟨⟨l, h3.trans h1⟩, h4⟩
theorem argT_bytes {e : TypeId} (hu : P.underlying t = some (.slice e)) (he : P.underlying e = some (.int .u8)) (h : ArgT P n t vs) : ∃ r : Row, r.l.length ≤ maxLen ∧ vs = [rowV r] := by
  cases n with
  | zero => exact h.elim
  | succ n =>
    unfold ArgT at h; rw [hu] at h
    rcases h with rfl | ⟨parts, h1, h2, rfl⟩
    · exact ⟨.nil, Nat.zero_le _, rfl⟩
    · obtain ⟨l, h3, h4⟩ := bytes_of he h2
      refine ⟨.of l, by simp only [Row.l]; omega, ?_⟩
      simp only [rowV, h4, h3]
theorem ints_of {k : IntKind} {e : TypeId} (he : P.underlying e = some (.int k)) : ∀ {parts : List (List V)}, (∀ p ∈ parts, ArgT P n e p) → ∃ l : List Int, l.length = parts.length ∧ (∀ x ∈ l, (Lit.int k x).wf = true) ∧ parts.flatten = l.map (vi k)
  | [], _ => ⟨[], rfl, by simp, rfl⟩
  | p :: ps, h => by
    obtain ⟨l, h1, h2, h3⟩ := ints_of he (parts := ps) fun q hq => h q (by simp [hq])
    obtain ⟨i, hw, rfl⟩ := argT_int he (h p (by simp))
    refine ⟨i :: l, by simp [h1], ?_, by rw [List.flatten_cons, h3]; rfl⟩
    intro x hx
    rcases List.mem_cons.1 hx with rfl | hx
    · exact hw
    · exact h2 x hx
theorem argT_ints {k : IntKind} {e : TypeId} (hu : P.underlying t = some (.slice e)) (he : P.underlying e = some (.int k)) (h : ArgT P n t vs) : ∃ r : Ints, r.l.length ≤ maxLen ∧ (∀ x ∈ r.l, (Lit.int k x).wf = true) ∧ vs = [intsV k r] := by
  cases n with
  | zero => exact h.elim
  | succ n =>
    unfold ArgT at h; rw [hu] at h
    rcases h with rfl | ⟨parts, h1, h2, rfl⟩
    · exact ⟨.nil, Nat.zero_le _, by simp [Ints.l], rfl⟩
    · obtain ⟨l, h3, h4, h5⟩ := ints_of he h2
      exact ⟨.of l, by simp only [Ints.l]; omega, h4, by simp only [intsV, h5, h3]⟩
theorem argV_agg {v : V} (hu : (match P.underlying t with | some (.struct _) | some (.array _ _) => true | _ => false) = true) (h : ArgV P t v) : ∃ n cs, ArgT P n t cs ∧ v = .agg cs := by
  unfold ArgV at h
  split at h
  · exact h
  · exact h
  · rename_i h1 h2
    split at hu
    · rename_i h3; exact (h1 _ h3).elim
    · rename_i h3; exact (h2 _ _ h3).elim
    · cases hu
theorem argV_one {v : V} (hu : (match P.underlying t with | some (.struct _) | some (.array _ _) => true | _ => false) = false) (h : ArgV P t v) : ∃ n, ArgT P n t [v] := by
  unfold ArgV at h
  split at h
  · rename_i h1; rw [h1] at hu; simp at hu
  · rename_i h1; rw [h1] at hu; simp at hu
  · exact h
end
end Go.Proofs.YtfpoebmihjbknaaGreat.VA

/- Rows of structs that are handed in. -/
set_option linter.unusedVariables false
set_option linter.unusedSimpArgs false
namespace Go.Proofs.YtfpoebmihjbknaaGreat.VA
open Go
theorem closedL_appI {a b : List V} : ClosedL (a ++ b) ↔ ClosedL a ∧ ClosedL b := by
  induction a with
  | nil => exact ⟨fun h => ⟨trivial, h⟩, fun h => h.2⟩
  | cons v a ih => exact ⟨fun h => ⟨⟨h.1, (ih.1 h.2).1⟩, (ih.1 h.2).2⟩, fun h => ⟨h.1.1, ih.2 ⟨h.1.2, h.2⟩⟩⟩
inductive Lst (α : Type) where
  | nil
  | of (l : List α)
def Lst.l {α : Type} : Lst α → List α
  | .nil => []
  | .of l => l
def lstV {α : Type} (c : α → List V) : Lst α → V
  | .nil => vnil
  | .of l => .sl l.length (l.flatMap c)
section
variable {α : Type} {c : α → List V}
theorem lst_nil : (Lst.nil : Lst α).l = [] := rfl
theorem lst_of (l : List α) : (Lst.of l).l = l := rfl
theorem lstV_nil : lstV c .nil = vnil := rfl
theorem lstV_of (l : List α) : V.sl l.length (l.flatMap c) = lstV c (.of l) := rfl
theorem flat_closed (h : ∀ x, ClosedL (c x)) : ∀ l : List α, ClosedL (l.flatMap c)
  | [] => trivial
  | x :: l => by rw [List.flatMap_cons]; exact closedL_app (h x) (flat_closed h l)
theorem lst_closed (c : α → List V) (h : ∀ x, ClosedL (c x)) (r : Lst α) : Closed (lstV c r) := by
  cases r with
  | nil => trivial
  | of l => exact flat_closed h l
theorem flat_len {sz : Nat} (h : ∀ x, (c x).length = sz) : ∀ l : List α, (l.flatMap c).length = l.length * sz
  | [] => by simp
  | x :: l => by rw [List.flatMap_cons, List.length_append, h, flat_len h l, List.length_cons, Nat.succ_mul]; omega
theorem flat_drop {sz : Nat} (h : ∀ x, (c x).length = sz) : ∀ (l : List α) (i : Nat), (l.flatMap c).drop (i * sz) = (l.drop i).flatMap c
  | [], i => by simp
  | x :: l, 0 => by simp
  | x :: l, i + 1 => by
    rw [List.flatMap_cons, List.drop_succ_cons, ← flat_drop h l i, Nat.succ_mul, Nat.add_comm, ← List.drop_drop, List.drop_left' (h x)]
theorem len_lst (H : Heap) (r : Lst α) : evLen H (lstV c r) = some (vi .i64 r.l.length, H) := by cases r <;> rfl
theorem idx_lst {sz : Nat} (h : ∀ x, (c x).length = sz) (H : Heap) (r : Lst α) (i : Int) : evIdx H sz (some i) (lstV c r) = if 0 ≤ i ∧ i < r.l.length then some (.box ((r.l.drop i.toNat).flatMap c), H) else none := by
  cases r with
  | nil =>
    have h : ¬ (0 ≤ i ∧ i < ((Lst.nil : Lst α).l.length : Nat)) := by simp only [Lst.l, List.length_nil]; omega
    rw [if_neg h]; rfl
  | of l => simp only [lstV, evIdx, Lst.l, flat_drop h]; rfl
theorem cells_lst (r : Lst α) : cellsV (lstV c r) = some [lstV c r] := by cases r <;> rfl
theorem sl_lst {sz : Nat} (h : ∀ x, (c x).length = sz) (H : Heap) (r : Lst α) : slCells H sz (lstV c r) = some (r.l.length, r.l.flatMap c) := by
  cases r with
  | nil => rfl
  | of l => simp only [lstV, slCells, Lst.l, flat_len h, if_true]
theorem eqnil_lst_of (l : List α) (n' c' : Nat) : evEqNil (lstV c (.of l)) (.sc (.slice none n' c')) = some false := rfl
theorem eqnil_lst_nil (n' c' : Nat) : evEqNil (lstV c (.nil : Lst α)) (.sc (.slice none n' c')) = some true := rfl
theorem rd_flat {sz : Nat} (h : ∀ x, (c x).length = sz) [Inhabited α] (l : List α) (i : Nat) (hi : i < l.length) : rd (some sz) ((l.drop i).flatMap c) 0 = some (.agg (c (l.getD i default))) := by
  have e : l.drop i = l.getD i default :: l.drop (i + 1) := by rw [List.drop_eq_getElem_cons hi]; simp [List.getElem?_eq_getElem hi]
  rw [e, List.flatMap_cons, rd_sA _ _ _ (h _)]
theorem rd_app_n {a b : List V} {off : Nat} (h : off < a.length) : rd none (a ++ b) off = rd none a off := by
  simp only [rd]; rw [List.getElem?_append_left h]
theorem rd_app_s {a b : List V} {off n : Nat} (h : off + n ≤ a.length) : rd (some n) (a ++ b) off = rd (some n) a off := by
  simp only [rd, List.length_append]
  rw [if_pos (by omega), if_pos h, List.drop_append_of_le_length (by omega), List.take_append_of_le_length (by rw [List.length_drop]; omega)]
theorem rd_drop_n (a : List V) (off : Nat) : rd none (a.drop off) 0 = rd none a off := by simp [rd]
theorem rd_drop_s (a : List V) (off n : Nat) (hn : 0 < n) : rd (some n) (a.drop off) 0 = rd (some n) a off := by
  simp only [rd, List.length_drop, List.drop_zero, Nat.zero_add]
  by_cases h : off + n ≤ a.length
  · rw [if_pos h, if_pos (by omega)]
  · rw [if_neg h, if_neg (by omega)]
theorem rd_flat_n {sz : Nat} (h : ∀ x, (c x).length = sz) [Inhabited α] (l : List α) (i off : Nat) (hi : i < l.length) (ho : off < sz) : rd none ((l.drop i).flatMap c) off = rd none (c (l.getD i default)) off := by
  have e : l.drop i = l.getD i default :: l.drop (i + 1) := by rw [List.drop_eq_getElem_cons hi]; simp [List.getElem?_eq_getElem hi]
  rw [e, List.flatMap_cons, rd_app_n (by rw [h]; exact ho)]
theorem rd_flat_s {sz : Nat} (h : ∀ x, (c x).length = sz) [Inhabited α] (l : List α) (i off n : Nat) (hi : i < l.length) (ho : off + n ≤ sz) : rd (some n) ((l.drop i).flatMap c) off = rd (some n) (c (l.getD i default)) off := by
  have e : l.drop i = l.getD i default :: l.drop (i + 1) := by rw [List.drop_eq_getElem_cons hi]; simp [List.getElem?_eq_getElem hi]
  rw [e, List.flatMap_cons, rd_app_s (by rw [h]; exact ho)]
theorem flat_snoc (l : List α) (x : α) : l.flatMap c ++ c x = (l ++ [x]).flatMap c := by simp
theorem flat_one (x : α) : c x = [x].flatMap c := by simp
end
theorem lst_of_parts {P : Program} {n : Nat} {e : TypeId} {α : Type} {c : α → List V} {ok : α → Prop} (hc : ∀ (n : Nat) (vs : List V), ArgT P n e vs → ∃ x, ok x ∧ vs = c x) :
    ∀ {parts : List (List V)}, (∀ p ∈ parts, ArgT P n e p) → ∃ l : List α, l.length = parts.length ∧ (∀ x ∈ l, ok x) ∧ parts.flatten = l.flatMap c
  | [], _ => ⟨[], rfl, by simp, rfl⟩
  | p :: ps, h => by
    obtain ⟨l, h1, h2, h3⟩ := lst_of_parts hc (parts := ps) fun q hq => h q (by simp [hq])
    obtain ⟨x, hx, rfl⟩ := hc n p (h p (by simp))
    refine ⟨x :: l, by simp [h1], ?_, by rw [List.flatten_cons, h3, List.flatMap_cons]⟩
    intro y hy
    rcases List.mem_cons.1 hy with rfl | hy
    · exact hx
    · exact h2 y hy
theorem argT_lst {P : Program} {n : Nat} {t : TypeId} {vs : List V} {α : Type} (e : TypeId) (c : α → List V) (ok : α → Prop) (hu : P.underlying t = some (.slice e)) (hc : ∀ (n : Nat) (vs : List V), ArgT P n e vs → ∃ x, ok x ∧ vs = c x) (h : ArgT P n t vs) :
    ∃ r : Lst α, r.l.length ≤ maxLen ∧ (∀ x ∈ r.l, ok x) ∧ vs = [lstV c r] := by
  cases n with
  | zero => exact h.elim
  | succ n =>
    unfold ArgT at h; rw [hu] at h
    rcases h with rfl | ⟨parts, h1, h2, rfl⟩
    · exact ⟨.nil, Nat.zero_le _, by simp [Lst.l], rfl⟩
    · obtain ⟨l, h3, h4, h5⟩ := lst_of_parts hc h2
      exact ⟨.of l, by simp only [Lst.l]; omega, h4, by simp only [lstV, h5, h3]⟩
end Go.Proofs.YtfpoebmihjbknaaGreat.VA

/- All rules of a walk, as one. -/
set_option linter.unusedVariables false
set_option linter.defProp false
namespace Go.Proofs.YtfpoebmihjbknaaGreat.VA
open Go
theorem an {a b : Prop} (x : a) (y : b) : a ∧ b := ⟨x, y⟩
def lr := an (an (an (an (an (an (an (an @wk_skip @wk_region) (an @wk_regionF (an @wk_seq @wk_cond))) (an (an @wk_block @wk_exit) (an @wk_ret (an @nk_fin @nk_seq)))) (an (an (an @nk_blk @nk_lp) (an @xk_fin (an @xk_seq @xk_blk))) (an (an @xk_lp (an @tk_fin @tk_seq)) (an @tk_blk (an @tk_lp @rk_nil))))) (an (an (an (an @rk_guard' @rk_mov) (an @rk_bin (an @rk_pick @rk_eqB))) (an (an @rk_un @rk_conv) (an @rk_lenC (an @rk_lenSl @rk_field)))) (an (an (an @rk_box @rk_alloc) (an @rk_load (an @rk_store @rk_fieldAddr))) (an (an @rk_build (an @rk_extract @rk_eqA)) (an @rk_runeStr (an @fk_runeStr @op_runeStr)))))) (an (an (an (an (an @rk_growN @fk_growN) (an @op_growN (an @grow_nil @rk_capSl))) (an (an @fk_capSl @op_capSl) (an @cap_nil (an @rk_toArr @fk_toArr)))) (an (an (an @op_toArr @toArr_sref) (an @toArr_row (an @rk_callK @fk_callK))) (an (an @rk_minmax (an @fk_minmax @rk_buildSl)) (an @rk_nilChk (an @rk_eqNil @rk_same))))) (an (an (an (an @rk_mark @rk_toStr) (an @rk_toBytes (an @rk_mkSl @rk_sliceArr))) (an (an @rk_sliceSl (an @rk_sliceStr @rk_idxArr)) (an @rk_idxSl (an @rk_indexArr @rk_indexStr)))) (an (an (an @rk_lenStr @rk_append) (an @rk_copy (an @rk_mkFunc @fk_nil))) (an (an @fk_guard' (an @fk_mov @fk_bin)) (an @fk_pick (an @fk_eqB @fk_un))))))) (an (an (an (an (an (an @fk_conv @fk_lenC) (an @fk_lenSl (an @fk_field @fk_box))) (an (an @fk_alloc @fk_load) (an @fk_store (an @fk_fieldAddr @fk_build)))) (an (an (an @fk_extract @fk_eqA) (an @fk_buildSl (an @fk_nilChk @fk_eqNil))) (an (an @fk_same (an @fk_mark @fk_toStr)) (an @fk_toBytes (an @fk_mkSl @fk_sliceArr))))) (an (an (an (an @fk_sliceSl @fk_sliceStr) (an @fk_idxArr (an @fk_idxSl @fk_indexArr))) (an (an @fk_indexStr (an @fk_lenStr @fk_append)) (an @fk_copy (an @fk_mkFunc @op_mov)))) (an (an (an @op_pick @op_alloc) (an @op_box (an @op_build @op_buildSlB))) (an (an @blk_z1 (an @blk_cons @asB_nil)) (an @asB_cons (an @asB_consV @consB_bs)))))) (an (an (an (an (an @z1_sc @wrap8_lo) (an @wrap8_hi (an @u8_lo @u8_hi))) (an (an @app_sref @app_nil) (an @app_bs (an @sl_sref @src_sref)))) (an (an (an @src_nil @sl_nil) (an @slB_all (an @slB_dg @zc_z1))) (an (an @toBytes_st (an @strOf_bs @strOf_nil)) (an @ids_nil (an @ids_cons @ids_sc))))) (an (an (an (an @ids_agg @ids_dg) (an @ids_bs (an @ids_row @ids_ints))) (an (an @ids_sref (an @ids_ref @ids_sl)) (an @rd_drop1 (an @sp_bs @sp_bsV)))) (an (an (an @lk_succ @st_of) (an @op_load (an @op_store @op_nilChk))) (an (an @op_bin (an @op_eqB @op_eqA)) (an @op_eqNil (an @op_un @op_conv)))))))) (an (an (an (an (an (an (an @op_same @op_mark) (an @op_toStr (an @op_toBytes @op_mkSl))) (an (an @op_sliceArr @op_sliceSl) (an @op_sliceStr (an @op_fieldAddr @op_field)))) (an (an (an @op_idxArr @op_idxSl) (an @op_indexArr (an @op_indexStr @op_extract))) (an (an @op_lenC (an @op_lenStr @op_lenSl)) (an @op_minmax (an @op_append @op_copy))))) (an (an (an (an @op_mkFunc @intOf_int) (an @allInts_nil (an @allInts_cons @mn2))) (an (an @mx2 (an @cells_row @cells_ints)) (an @len_ints (an @idx_ints @len_row)))) (an (an (an @len_sref @len_nil) (an @len_sl (an @sl_row @src_row))) (an (an @slice_row (an @slice_nil @bn_len)) (an @idx_row (an @idx_sref @idx_sl)))))) (an (an (an (an (an @load_ref @load_box) (an @slice_sref (an @st_eq @st_ne))) (an (an @ev_t @ev_ci) (an @ev_cb (an @ev_cs @ev_csl)))) (an (an (an @Nat.zero_add @rep_dead) (an @putS_some (an @putS_none @bin_geq))) (an (an @bin_leq (an @bin_lss @bin_gtr)) (an @bin_eql (an @bin_neq @bin_sub))))) (an (an (an (an @bin_add @bin_mul) (an @bin_and (an @or_u32z @or_u32))) (an (an @xor_u32 (an @xor_u8 @bs_len)) (an @nums_len (an @bin_rem @quo_u64)))) (an (an (an @quo_u32 @quo_i64) (an @Nat.div_one (an @shr_u64 @shr_u32))) (an (an @shl_u32 (an @shl_u64 @shl_u32z)) (an @rd_bs0 (an @i64_id @u64_id))))))) (an (an (an (an (an (an @u8_id @u32_id) (an @by8_wrap (an @w32_u8 @w32_add))) (an (an @w32_xor @w32_or) (an @row_l_of (an @row_l_nil @rd_bs_drop)))) (an (an (an @eqnil_nil @eqnil_sl) (an @eqnil_sref (an @eqnil_of @eqnil_rnil))) (an (an @Int.le_refl (an @Int.one_mul @Nat.one_mul)) (an @Nat.zero_mul (an @Nat.add_zero @Nat.sub_zero))))) (an (an (an (an @not_false_eq_true @un_not) (an @decide_true (an @decide_false @Bool.false_eq_true))) (an (an @Bool.true_eq_false (an @decide_eq_true_eq @decide_eq_false_iff_not)) (an @Bool.not_eq_true' (an @Bool.not_eq_eq_eq_not @Bool.not_true)))) (an (an (an @Bool.not_false @post_ret) (an @post_normal (an @res_one @cellsV_int))) (an (an @cellsV_bool (an @cellsV_str @cellsV_nil)) (an @cellsV_agg (an @cellsV_sl @cellsV_ref)))))) (an (an (an (an (an @cellsV_sref @cellsV_box) (an @cellsV_fn (an @rd_n0 @rd_nS))) (an (an @rd_sE @sp_0) (an @sp_S (an @sp_all @zl_0)))) (an (an (an @zl_S @sp_dgV) (an @sp_dg8 (an @bnd_none @bnd_some))) (an (an @sm_app1 (an @sm_nil @sm_one)) (an @dg_len (an @z4_sc @z16_sc))))) (an (an (an (an @eq_dg4 @eq_dg16) (an @Nat.le_refl (an @Nat.mul_one @Int.toNat_natCast))) (an (an @Int.cast_ofNat_Int (an @and_self @and_true)) (an @true_and (an @idV_row @idV_ints)))) (an (an (an @idV_ref @idV_sref) (an @idV_sc (an @idV_agg @idV_sl))) (an (an @idV_box (an @Bool.or_false @Bool.false_or)) (an @Bool.and_self (an @Bool.and_true @Bool.true_and))))))))
end Go.Proofs.YtfpoebmihjbknaaGreat.VA

/- Parts of structs as rows: handed over, and shown. -/
set_option linter.unusedVariables false
set_option linter.unusedSimpArgs false
namespace Go.Proofs.YtfpoebmihjbknaaGreat.VA
open Go
theorem rd_cut {n off : Nat} {cells l : List V} (h : rd (some n) cells off = some (.agg l)) : off + n ≤ cells.length ∧ (cells.drop off).take n = l := by
  simp only [rd] at h
  split at h
  · rename_i hc
    simp only [Option.some.injEq, V.agg.injEq] at h
    exact ⟨hc, h⟩
  · cases h
theorem seen_fld {H : Heap} {bs' : List Nat} {id off n k : Nat} {d : Bn k} (hi : id ∈ bs') (hn : n = k) (h : (blkAt H id).bind (fun cells => rd (some k) cells off) = some (.agg (dg d))) : Seen1 H [] bs' (.sref id off n 1) (rowV (.of d.1)) := by
  subst hn
  rw [Option.bind_eq_some_iff] at h
  obtain ⟨cells, hb, hr⟩ := h
  obtain ⟨h1, h2⟩ := rd_cut hr
  refine .inr ⟨id, off, n, 1, cells, rfl, by simp, hi, hb, by omega, ?_, ?_⟩
  · rw [Nat.mul_one, h2]; exact dg_closed d
  · rw [Nat.mul_one, h2, rowV, dg, d.2]
theorem arg_fld {H : Heap} {bs' : List Nat} {id off n k : Nat} {d : Bn k} (hi : id ∈ bs') (hn : n = k) (h : (blkAt H id).bind (fun cells => rd (some k) cells off) = some (.agg (dg d))) : ArgRel H [] bs' (.sref id off n 1) (rowV (.of d.1)) := by
  subst hn
  rw [Option.bind_eq_some_iff] at h
  obtain ⟨cells, hb, hr⟩ := h
  obtain ⟨h1, h2⟩ := rd_cut hr
  simp only [ArgRel]
  refine .inr ⟨by simp, hi, cells, dg d, hb, by omega, ?_, by rw [rowV, dg, d.2]⟩
  rw [Nat.mul_one, h2]
  exact seenL_closed (dg_closed d)
theorem slA_box (S : List V) (H : Heap) (n : Nat) (cs : List V) (d : Bn n) (hr : rd (some n) cs 0 = some (.agg (dg d))) : (if n * 1 ≤ cs.length then some (V.sl (n - 0) ((cs.drop (0 * 1)).take ((n - 0) * 1)), H) else none) = some (rowV (.of d.1), H) := by
  obtain ⟨h1, h2⟩ := rd_cut hr
  rw [if_pos (by omega), Nat.zero_mul, Nat.sub_zero, Nat.mul_one, h2, rowV, dg, d.2]
theorem box_part {α : Type} {c : α → List V} {sz : Nat} (h : ∀ x, (c x).length = sz) [Inhabited α] (l : List α) (i off n : Nat) (d : Bn n) (hi : i < l.length) (ho : off + n ≤ sz) (hr : rd (some n) (c (l.getD i default)) off = some (.agg (dg d))) :
    off + n ≤ ((l.drop i).flatMap c).length ∧ V.sl n ((((l.drop i).flatMap c).drop off).take n) = rowV (.of d.1) := by
  rw [← rd_flat_s h l i off n hi ho] at hr
  obtain ⟨h1, h2⟩ := rd_cut hr
  exact ⟨h1, by rw [h2, rowV, dg, d.2]⟩
theorem sm_c (x : UInt8) (l : List UInt8) (k : Nat) : Sm (x :: l) k = Sm l (k + 1) := by simp only [Sm, List.length_cons, eq_iff_iff]; omega
theorem sm_a (a b : List UInt8) (k : Nat) : Sm (a ++ b) k = Sm a (b.length + k) := by simp only [Sm, List.length_append, eq_iff_iff]; omega
theorem out_updE {H : Heap} {v r : V} {cells cells' : List V} (hb : blkAt H 0 = some cells) (he : cells = cells') (hv : v = r) (hc : ClosedL cells') (hr : Closed r) : OutOK 1 H v r [some cells'] := by
  subst he; subst hv
  exact out_upd hb hc hr
theorem out_updS {H : Heap} {id n : Nat} {l : List UInt8} {cells : List V} (hb : blkAt H 0 = some cells) (hl : blkAt H id = some (bs l)) (hn : n = l.length) (h0 : id ≠ 0) (hc : ClosedL cells) : OutOK 1 H (.sref id 0 n 1) (rowV (.of l)) [some cells] := by
  subst hn
  refine ⟨[0], [id], by simp, rfl, Nat.le_refl _, fun k h => ?_, fun i h => ?_, ?_, fun k c h => ?_⟩
  · have : k = 0 := by omega
    subst this; rfl
  · rw [List.mem_singleton] at h; subst h; exact ⟨_, hl⟩
  · simp only [ArgRel]
    refine .inr ⟨by simpa using h0, by simp, bs l, bs l, hl, by rw [bs_len]; omega, ?_, rfl⟩
    rw [List.drop_zero, Nat.mul_one, List.take_of_length_le (by rw [bs_len]; omega)]
    exact seenL_closed (bs_closed l)
  · cases k with
    | zero => simp at h; subst h; exact ⟨0, cells, rfl, hb, argL_closed cells hc⟩
    | succ k => simp at h
theorem cut_all (r : Row) : r.cut 0 r.l.length = r := by cases r <;> simp [Row.cut, Row.l]
end Go.Proofs.YtfpoebmihjbknaaGreat.VA

/- Rows of structs that grow. -/
set_option linter.unusedVariables false
set_option linter.unusedSimpArgs false
namespace Go.Proofs.YtfpoebmihjbknaaGreat.VA
open Go
theorem slB_st (sz id n : Nat) (cells : List V) (h : cells.length = n * sz) : slB sz id 0 n sz cells = some (n, cells) := by
  unfold slB
  rw [if_pos ⟨rfl, by omega⟩, List.drop_zero, List.take_of_length_le (by omega)]
section
variable {α : Type} {c : α → List V} {sz : Nat} (hc : ∀ x, (c x).length = sz)
include hc
theorem app_fl (H : Heap) (l : List α) (x : α) (id n bytes : Nat) (hn : n = l.length) (hle : n ≤ 1000) (hb : bytes ≤ 1000) :
    appB H sz bytes 1 (c x) id 0 n sz (l.flatMap c) = some (.sref H.length 0 (n + 1) sz, H.set id none ++ [some ((l ++ [x]).flatMap c)]) := by
  have hl : (l.flatMap c).length = n * sz := by rw [flat_len hc, hn]
  have hm : (n + 1) * bytes ≤ 1001 * 1000 := Nat.mul_le_mul (by omega) hb
  unfold appB
  rw [if_pos ⟨rfl, rfl, by omega, by omega, by omega⟩, List.take_of_length_le (by omega)]
  simp
theorem arg_lst {H : Heap} {bs' : List Nat} {id n : Nat} {l : List α} (hcl : ∀ x, ClosedL (c x)) (hb : blkAt H id = some (l.flatMap c)) (hi : id ∈ bs') (hn : n = l.length) : ArgRel H [] bs' (.sref id 0 n sz) (lstV c (.of l)) := by
  subst hn
  exact arg_sl hb hi (flat_len hc l) (flat_closed hcl l)
end
end Go.Proofs.YtfpoebmihjbknaaGreat.VA

/- What is closed, what is named, by classes: short ways to say so. -/
set_option linter.unusedVariables false
set_option linter.defProp false
namespace Go.Proofs.YtfpoebmihjbknaaGreat.VA
open Go
class Cl (v : V) : Prop where
  h : Closed v
class ClL (l : List V) : Prop where
  h : ClosedL l
theorem cl {v : V} [i : Cl v] : Closed v := i.h
theorem cll {l : List V} [i : ClL l] : ClosedL l := i.h
instance (x : Value) : Cl (.sc x) := ⟨trivial⟩
instance : Cl .dead := ⟨trivial⟩
instance {l : List V} [i : ClL l] : Cl (.agg l) := ⟨i.h⟩
instance {l : List V} [i : ClL l] : Cl (.tup l) := ⟨i.h⟩
instance {l : List V} {n : Nat} [i : ClL l] : Cl (.sl n l) := ⟨i.h⟩
instance {l : List V} [i : ClL l] : Cl (.box l) := ⟨i.h⟩
instance {l : List V} {f : Nat} [i : ClL l] : Cl (.fn f l) := ⟨i.h⟩
instance (r : Row) : Cl (rowV r) := ⟨row_closed r⟩
instance (rs : List Row) : Cl (rowsV rs) := ⟨rows_closed rs⟩
instance (k : IntKind) (r : Ints) : Cl (intsV k r) := ⟨ints_closed k r⟩
instance (l : List UInt8) : Cl (st l) := ⟨trivial⟩
instance (x : UInt8) : Cl (u8V x) := ⟨trivial⟩
instance {α : Type} (c : α → List V) (r : Lst α) [i : ∀ x, ClL (c x)] : Cl (lstV c r) := ⟨lst_closed c (fun x => (i x).h) r⟩
instance {b : Prop} [Decidable b] {x y : V} [i : Cl x] [j : Cl y] : Cl (if b then x else y) := ⟨by split; exact i.h; exact j.h⟩
instance : ClL [] := ⟨trivial⟩
instance {v : V} {l : List V} [i : Cl v] [j : ClL l] : ClL (v :: l) := ⟨⟨i.h, j.h⟩⟩
instance {a b : List V} [i : ClL a] [j : ClL b] : ClL (a ++ b) := ⟨closedL_app i.h j.h⟩
instance (l : List UInt8) : ClL (bs l) := ⟨bs_closed l⟩
instance {n : Nat} (d : Bn n) : ClL (dg d) := ⟨dg_closed d⟩
instance (k : IntKind) (l : List Int) : ClL (nums k l) := ⟨nums_closed k l⟩
instance (x : Int) (l : List V) [i : ClL l] : ClL (consB x l) := ⟨⟨trivial, i.h⟩⟩
instance {α : Type} (c : α → List V) (l : List α) [i : ∀ x, ClL (c x)] : ClL (l.flatMap c) := ⟨flat_closed (fun x => (i x).h) l⟩
mutual
theorem ids_closed : ∀ v : V, Closed v → idsIn v = []
  | .sc _, _ => rfl
  | .agg cs, h => by simp only [idsIn]; exact idsL_closed cs (by simpa [Closed] using h)
  | .tup cs, h => by simp only [idsIn]; exact idsL_closed cs (by simpa [Closed] using h)
  | .sl _ _, _ => rfl
  | .box _, _ => rfl
  | .ref _ _, h => by simp [Closed] at h
  | .sref _ _ _ _, h => by simp [Closed] at h
  | .fn _ cs, h => by simp only [idsIn]; exact idsL_closed cs (by simpa [Closed] using h)
  | .dead, _ => rfl
theorem idsL_closed : ∀ l : List V, ClosedL l → idsInL l = []
  | [], _ => rfl
  | v :: l, h => by simp only [idsInL]; rw [ids_closed v h.1, idsL_closed l h.2]; rfl
end
theorem ids_app : ∀ a b : List V, idsInL (a ++ b) = idsInL a ++ idsInL b
  | [], b => rfl
  | v :: a, b => by simp only [List.cons_append, idsInL, ids_app a b, List.append_assoc]
class MemI (i : Nat) (l : List V) : Prop where
  h : i ∈ idsInL l
theorem mem {i : Nat} {l : List V} [k : MemI i l] : i ∈ idsInL l := k.h
instance (priority := low) {i : Nat} {v : V} {l : List V} [k : MemI i l] : MemI i (v :: l) := ⟨by simp only [idsInL, List.mem_append]; exact .inr k.h⟩
instance {i o n s : Nat} {l : List V} : MemI i (.sref i o n s :: l) := ⟨by simp [idsInL, idsIn]⟩
instance {i o : Nat} {l : List V} : MemI i (.ref i o :: l) := ⟨by simp [idsInL, idsIn]⟩
instance {i : Nat} {cs l : List V} [k : MemI i cs] : MemI i (.agg cs :: l) := ⟨by simp only [idsInL, idsIn, List.mem_append]; exact .inl k.h⟩
class Nr (v : V) : Prop where
  h : NoRO v
class NrL (l : List V) : Prop where
  h : NoROL l
theorem nr {v : V} [i : Nr v] : NoRO v := i.h
theorem nrl {l : List V} [i : NrL l] : NoROL l := i.h
instance (x : Value) : Nr (.sc x) := ⟨trivial⟩
instance : Nr .dead := ⟨trivial⟩
instance (i o : Nat) : Nr (.ref i o) := ⟨trivial⟩
instance (i o n s : Nat) : Nr (.sref i o n s) := ⟨trivial⟩
instance (l : List UInt8) : Nr (st l) := ⟨trivial⟩
instance {l : List V} [i : NrL l] : Nr (.agg l) := ⟨i.h⟩
instance {l : List V} [i : NrL l] : Nr (.tup l) := ⟨i.h⟩
instance : NrL [] := ⟨trivial⟩
instance {v : V} {l : List V} [i : Nr v] [j : NrL l] : NrL (v :: l) := ⟨⟨i.h, j.h⟩⟩
instance (l : List UInt8) : NrL (bs l) := ⟨no_ro_bs l⟩
instance {n : Nat} (d : Bn n) : NrL (dg d) := ⟨no_ro_dg d⟩
instance (k : IntKind) (l : List Int) : NrL (nums k l) := ⟨no_ro_nums k l⟩
theorem noROL_app : ∀ {a b : List V}, NoROL a → NoROL b → NoROL (a ++ b)
  | [], b, _, h => h
  | v :: a, b, h, k => ⟨h.1, noROL_app h.2 k⟩
instance {a b : List V} [i : NrL a] [j : NrL b] : NrL (a ++ b) := ⟨noROL_app i.h j.h⟩
theorem argL_cl {H : Heap} {ids bs : List Nat} {l : List V} [i : ClL l] : ArgRelL H ids bs l l ↔ True := argL_closed' i.h
theorem arg_cl {H : Heap} {ids bs : List Nat} {v : V} [i : Cl v] : ArgRel H ids bs v v ↔ True := arg_closed' i.h
@[reducible] def oO (d : Nat) (op : AOp) : AOper := ⟨some d, op, none⟩
@[reducible] def oN (op : AOp) : AOper := ⟨none, op, none⟩
@[reducible] def oG (d : Nat) (op : AOp) (t : Nat) (w : Bool) : AOper := ⟨some d, op, some (t, w)⟩
@[reducible] def oNG (op : AOp) (t : Nat) (w : Bool) : AOper := ⟨none, op, some (t, w)⟩
@[reducible] def oM (d s : Nat) : AOper := ⟨some d, .mov (.t s), none⟩
@[reducible] def oF (d o s : Nat) : AOper := ⟨some d, .fieldAddr o (.t s), none⟩
@[reducible] def oL (d s : Nat) : AOper := ⟨some d, .load none (.t s), none⟩
@[reducible] def rg (l : List AOper) : ACode := .region [] l
@[reducible] def ci (n : Int) : Od := .c (.int .i64 n)
theorem rdr : ((type_of% @rd_nS) ∧ (type_of% @rd_n0) ∧ (type_of% @rd_skip) ∧ (type_of% @rd_sS)) ∧ (type_of% @rd_sA) ∧ (type_of% @rd_sE) ∧ (type_of% @dg_len) := ⟨⟨@rd_nS, @rd_n0, @rd_skip, @rd_sS⟩, @rd_sA, @rd_sE, @dg_len⟩
theorem spr : ((type_of% @sp_S) ∧ (type_of% @sp_0) ∧ (type_of% @sp_A)) ∧ (type_of% @sp_all) ∧ (type_of% @sp_skip) ∧ (type_of% @dg_len) := ⟨⟨@sp_S, @sp_0, @sp_A⟩, @sp_all, @sp_skip, @dg_len⟩
def lr2 := an (an @List.length_cons.{0} (an @List.length_nil.{0} (an @List.replicate_zero.{0} (an @List.cons_append.{0} (an @List.nil_append.{0} (an @List.getD_cons_zero.{0} (an @List.getD_cons_succ.{0} (an @List.set_cons_zero.{0} (an @List.set_cons_succ.{0} (an @List.drop_zero.{0} (an @List.length_set.{0} (an @List.length_replicate.{0} (an @List.map_nil.{0, 0} (an @List.map_cons.{0, 0} (an @List.getElem?_cons_zero.{0} (an @List.getElem?_cons_succ.{0} (an @List.all_cons.{0} (an @List.all_nil.{0} (an @List.contains_cons.{0} (an @List.contains_nil.{0} @List.append_nil.{0})))))))))))))))))))) (an (an (an @ge_iff_le.{0} (an @Option.map_some.{0,0} @ite_not.{1})) (an @beq_iff_eq.{0} (an @bne_iff_ne.{0} @ne_eq.{1}))) (an (an @beq_self_eq_true.{0} (an @beq_eq_false_iff_ne.{0} @bne_eq_false_iff_eq.{0})) (an @Option.some.injEq.{0} (an @exists_eq_left'.{1} @eq_self.{1}))))
end Go.Proofs.YtfpoebmihjbknaaGreat.VA

/- The rules of 'clear' and of pointers that are held against nil. -/
set_option linter.unusedVariables false
set_option linter.defProp false
set_option linter.unusedSimpArgs false
namespace Go.Proofs.YtfpoebmihjbknaaGreat.VA
open Go
section
variable {P : Program} {m0 : Nat} {Q : AExit → List V → Heap → Prop} {S : List V} {H : Heap} {k : Kt} {d : Option Nat} {os : List AOper} {pairs : List (Nat × Nat)} {FW : List (List Nat × List Nat)}
theorem rk_zap (sz : Nat) (zs : List Value) (x : Od) : RK P m0 Q (⟨d, .zap sz zs x, none⟩ :: os) k S H = (match evOp S H (.zap sz zs x) with | some (v, H') => RK P m0 Q os k (putS S d v) H' | none => False) := propext Iff.rfl
theorem fk_zap (sz : Nat) (zs : List Value) (x : Od) : FK P m0 Q pairs (⟨d, .zap sz zs x, none⟩ :: os) k S H FW = (match evOp S H (.zap sz zs x) with | some (v, H') => FK P m0 Q pairs os k (putS S d v) H' (FW ++ [(footOp S (.zap sz zs x), wrOp S (.zap sz zs x))]) | none => False) := propext Iff.rfl
theorem rk_eqPn (neg : Bool) (x y : Od) : RK P m0 Q (⟨d, .eqPn neg x y, none⟩ :: os) k S H = (match evOp S H (.eqPn neg x y) with | some (v, H') => RK P m0 Q os k (putS S d v) H' | none => False) := propext Iff.rfl
theorem fk_eqPn (neg : Bool) (x y : Od) : FK P m0 Q pairs (⟨d, .eqPn neg x y, none⟩ :: os) k S H FW = (match evOp S H (.eqPn neg x y) with | some (v, H') => FK P m0 Q pairs os k (putS S d v) H' (FW ++ [(footOp S (.eqPn neg x y), wrOp S (.eqPn neg x y))]) | none => False) := propext Iff.rfl
theorem op_zap (sz : Nat) (zs : List Value) (x : Od) : evOp S H (.zap sz zs x) = (match x.ev S with
    | .sc (.slice none 0 0) => some (.dead, H)
    | .sref id off n sz' => match blkAt H id with
      | some cells => if sz' = sz ∧ off + n * sz ≤ cells.length then some (.dead, H.set id (some (splice cells off (zeroCells zs n)))) else none
      | none => none
    | _ => none) := rfl
theorem op_eqPn (neg : Bool) (x y : Od) : evOp S H (.eqPn neg x y) = (evEqPn (x.ev S) (y.ev S)).map fun b => (.sc (.bool (if neg then !b else b)), H) := rfl
end
theorem ev_cp (S : List V) (a : Option Addr) : Od.ev S (.c (.pointer a)) = .sc (.pointer a) := rfl
theorem eqpn_nil : evEqPn (.sc (.pointer none)) (.sc (.pointer none)) = some true := rfl
theorem eqpn_ref (i o : Nat) : evEqPn (.ref i o) (.sc (.pointer none)) = some false := rfl
theorem eqpn_box (cs : List V) : evEqPn (.box cs) (.sc (.pointer none)) = some false := rfl
def lrp := an (an (an @rk_zap @fk_zap) (an @rk_eqPn @fk_eqPn)) (an (an @op_zap @op_eqPn) (an (an @ev_cp @eqpn_nil) (an @eqpn_ref @eqpn_box)))
end Go.Proofs.YtfpoebmihjbknaaGreat.VA
