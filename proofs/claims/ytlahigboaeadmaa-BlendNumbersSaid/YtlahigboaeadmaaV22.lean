/- Bytes and rows of a fixed number of bytes as cells; how cells are read and written. -/
import Derived.Test.YtlahigboaeadmaaV21
set_option linter.unusedVariables false
set_option linter.unusedSimpArgs false
namespace Go.Proofs.Ytlahigboaeadmaa.VA
open Go

/-- Bytes as cells. -/
def bs (l : List UInt8) : List V := l.map u8V

theorem bs_len (l : List UInt8) : (bs l).length = l.length := by simp [bs]
theorem bs_app (a b : List UInt8) : bs (a ++ b) = bs a ++ bs b := by simp [bs]
theorem bs_take (l : List UInt8) (n : Nat) : (bs l).take n = bs (l.take n) := by simp [bs]
theorem bs_drop (l : List UInt8) (n : Nat) : (bs l).drop n = bs (l.drop n) := by simp [bs]
theorem bs_closed (l : List UInt8) : ClosedL (bs l) := closedL_u8 l
theorem bs_get (l : List UInt8) (i : Nat) : (bs l)[i]? = (l[i]?).map u8V := by simp [bs]
theorem bs_nil : bs [] = [] := rfl
theorem u8V_eq (b : UInt8) : u8V b = vi .u8 b.toNat := rfl
theorem bs_inj {a b : List UInt8} (h : bs a = bs b) : a = b := by
  induction a generalizing b with
  | nil => cases b <;> simp_all [bs]
  | cons x a ih =>
    cases b with
    | nil => simp [bs] at h
    | cons y b =>
      simp only [bs, List.map_cons, List.cons.injEq, u8V, V.sc.injEq, Value.int.injEq, true_and] at h
      have h1 : x = y := UInt8.toNat_inj.1 (by have := h.1; omega)
      rw [h1, ih h.2]

theorem strOf_bs : ∀ l : List UInt8, strOf (bs l) = some l
  | [] => rfl
  | x :: l => by
    have ih := strOf_bs l
    simp only [bs, List.map_cons] at ih ⊢
    simp [strOf, u8V, ih]

theorem scs_bs : ∀ (h : List UInt8), scs (bs h) = some (h.map fun b => Value.int .u8 b.toNat)
  | [] => rfl
  | x :: h => by
    have ih := scs_bs h
    simp only [bs, List.map_cons, scs] at ih ⊢
    simp [u8V, scs, ih]

theorem scs_app : ∀ (a b : List V) {x y : List Value}, scs a = some x → scs b = some y → scs (a ++ b) = some (x ++ y)
  | [], b, x, y, h, k => by simp only [scs] at h; cases h; simpa using k
  | v :: a, b, x, y, h, k => by
    cases v <;> simp only [scs] at h <;> try cases h
    rename_i u
    simp only [Option.map_eq_some_iff] at h
    obtain ⟨x', h1, rfl⟩ := h
    simp [scs, scs_app a b h1 k]

theorem eqW_app : ∀ (s t : List Bool) (x y x' y' : List Value) {r q : Bool}, eqW s x y = some r → eqW t x' y' = some q → eqW (s ++ t) (x ++ x') (y ++ y') = some (r && q)
  | [], t, x, y, x', y', r, q, h, k => by
    match x, y, h with
    | [], [], h => simp only [eqW] at h; cases h; simpa using k
  | false :: s, t, x, y, x', y', r, q, h, k => by
    match x, y, h with
    | .int k1 a :: x, .int k2 b :: y, h =>
      simp only [eqW] at h
      split at h
      · rename_i hk
        simp only [Option.map_eq_some_iff] at h
        obtain ⟨r', h1, rfl⟩ := h
        simp [eqW, hk, eqW_app s t x y x' y' h1 k, Bool.and_assoc]
      · cases h
  | true :: s, t, x, y, x', y', r, q, h, k => by
    match x, y, h with
    | .bool a :: x, .bool b :: y, h =>
      simp only [eqW, Option.map_eq_some_iff] at h
      obtain ⟨r', h1, rfl⟩ := h
      simp [eqW, eqW_app s t x y x' y' h1 k, Bool.and_assoc]

theorem eqW_bs : ∀ (n : Nat) (xs ys : List UInt8), xs.length = n → ys.length = n → eqW (List.replicate n false) (xs.map fun b => Value.int .u8 b.toNat) (ys.map fun b => Value.int .u8 b.toNat) = some (decide (xs = ys))
  | 0, xs, ys, hx, hy => by
    rw [List.length_eq_zero_iff.1 hx, List.length_eq_zero_iff.1 hy]; rfl
  | n + 1, x :: xs, y :: ys, hx, hy => by
    have ih := eqW_bs n xs ys (by simpa using hx) (by simpa using hy)
    simp only [List.replicate_succ, List.map_cons, eqW, if_true, ih, Option.map_some, Option.some.injEq]
    by_cases h1 : x = y
    · by_cases h2 : xs = ys <;> simp [h1, h2]
    · have : ¬ ((x.toNat : Int) = y.toNat) := fun h => h1 (UInt8.toNat_inj.1 (by omega))
      simp [h1, this]
  | n + 1, [], ys, hx, hy => by simp at hx
  | n + 1, x :: xs, [], hx, hy => by simp at hy

/-- A fixed number of bytes. -/
abbrev Bn (n : Nat) := {l : List UInt8 // l.length = n}

def dg {n : Nat} (d : Bn n) : List V := bs d.1
def Bn.zero (n : Nat) : Bn n := ⟨List.replicate n 0, by simp⟩
def Bn.set {n : Nat} (d : Bn n) (i : Nat) (b : UInt8) : Bn n := ⟨d.1.set i b, by simp [d.2]⟩

theorem dg_len {n : Nat} (d : Bn n) : (dg d).length = n := by rw [dg, bs_len, d.2]
theorem dg_closed {n : Nat} (d : Bn n) : ClosedL (dg d) := bs_closed _
theorem dg_inj {n : Nat} {a b : Bn n} (h : dg a = dg b) : a = b := Subtype.ext (bs_inj h)

def z4 : List Value := [.int .u8 0, .int .u8 0, .int .u8 0, .int .u8 0]
def z16 : List Value := [.int .u8 0, .int .u8 0, .int .u8 0, .int .u8 0, .int .u8 0, .int .u8 0, .int .u8 0, .int .u8 0, .int .u8 0, .int .u8 0, .int .u8 0, .int .u8 0, .int .u8 0, .int .u8 0, .int .u8 0, .int .u8 0]
theorem z4_sc : z4.map V.sc = dg (Bn.zero 4) := rfl
theorem z16_sc : z16.map V.sc = dg (Bn.zero 16) := rfl
def sh4 : List Bool := [false, false, false, false]
def sh16 : List Bool := [false, false, false, false, false, false, false, false, false, false, false, false, false, false, false, false]

theorem dg_eq {n : Nat} (sh : List Bool) (hs : sh = List.replicate n false) (a b : Bn n) : evEqA sh (.agg (dg a)) (.agg (dg b)) = some (decide (a = b)) := by
  subst hs
  simp only [evEqA, dg, scs_bs, eqW_bs n a.1 b.1 a.2 b.2, Subtype.ext_iff]
theorem eq_dg4 (a b : Bn 4) : evEqA sh4 (.agg (dg a)) (.agg (dg b)) = some (decide (a = b)) := dg_eq _ rfl a b
theorem eq_dg16 (a b : Bn 16) : evEqA sh16 (.agg (dg a)) (.agg (dg b)) = some (decide (a = b)) := dg_eq _ rfl a b

/-- Two rows of cells are compared, with this answer. -/
def EqC (sh : List Bool) (xs ys : List V) (b : Bool) : Prop := ∃ x y, scs xs = some x ∧ scs ys = some y ∧ eqW sh x y = some b
theorem EqC.ev {sh : List Bool} {xs ys : List V} {b : Bool} (h : EqC sh xs ys b) : evEqA sh (.agg xs) (.agg ys) = some b := by
  obtain ⟨x, y, h1, h2, h3⟩ := h
  simp only [evEqA, h1, h2, h3]
theorem EqC.int (k : IntKind) (a b : Int) : EqC [false] [vi k a] [vi k b] (decide (a = b)) := ⟨_, _, rfl, rfl, by simp [eqW]; rfl⟩
theorem EqC.bool (a b : Bool) : EqC [true] [vb a] [vb b] (decide (a = b)) := ⟨_, _, rfl, rfl, by cases a <;> cases b <;> rfl⟩
theorem EqC.dg {n : Nat} (a b : Bn n) : EqC (List.replicate n false) (dg a) (dg b) (decide (a = b)) := ⟨_, _, scs_bs _, scs_bs _, by rw [eqW_bs n a.1 b.1 a.2 b.2]; simp only [Subtype.ext_iff]⟩
theorem EqC.app {s t : List Bool} {a b a' b' : List V} {r q : Bool} (h : EqC s a b r) (k : EqC t a' b' q) : EqC (s ++ t) (a ++ a') (b ++ b') (r && q) := by
  obtain ⟨x, y, h1, h2, h3⟩ := h
  obtain ⟨x', y', k1, k2, k3⟩ := k
  exact ⟨x ++ x', y ++ y', scs_app _ _ h1 k1, scs_app _ _ h2 k2, eqW_app _ _ _ _ _ _ h3 k3⟩

/-! Reading and writing cells, out of pieces. -/
theorem rd_n0 (v : V) (l : List V) : rd none (v :: l) 0 = some v := rfl
theorem rd_nS (v : V) (l : List V) (n : Nat) : rd none (v :: l) (n + 1) = rd none l n := rfl
theorem rd_sS (v : V) (l : List V) (n k : Nat) : rd (some k) (v :: l) (n + 1) = rd (some k) l n := by
  simp only [rd, List.length_cons, List.drop_succ_cons]
  by_cases h : n + k ≤ l.length
  · rw [if_pos h, if_pos (by omega)]
  · rw [if_neg h, if_neg (by omega)]
theorem rd_sA (a l : List V) (k : Nat) (h : a.length = k) : rd (some k) (a ++ l) 0 = some (.agg a) := by
  simp only [rd, List.length_append, List.drop_zero]
  rw [if_pos (by omega), ← h, List.take_left']
  rfl
theorem rd_sE (a : List V) (k : Nat) (h : a.length = k) : rd (some k) a 0 = some (.agg a) := by
  simpa using rd_sA a [] k h
theorem rd_skip (kd : Option Nat) (a l : List V) (n : Nat) (h : a.length ≤ n) : rd kd (a ++ l) n = rd kd l (n - a.length) := by
  cases kd with
  | none => simp only [rd]; rw [List.getElem?_append_right h]
  | some k =>
    simp only [rd, List.length_append]
    have e : n + k ≤ a.length + l.length ↔ n - a.length + k ≤ l.length := by omega
    rw [List.drop_append, List.drop_eq_nil_of_le h, List.nil_append]
    simp only [e]

theorem sp_nil (a : List V) : splice [] 0 a = a := by simp [splice]
theorem sp_S (v : V) (l a : List V) (n : Nat) : splice (v :: l) (n + 1) a = v :: splice l n a := by
  simp [splice, Nat.add_right_comm, Nat.succ_add]
theorem sp_0 (v u : V) (l : List V) : splice (v :: l) 0 [u] = u :: l := by simp [splice]
theorem sp_A (a b l : List V) (h : a.length = b.length) : splice (a ++ l) 0 b = b ++ l := by
  simp only [splice, List.take_zero, List.nil_append, Nat.zero_add]
  rw [← h, List.drop_left']
  rfl
theorem sp_all (a b : List V) (h : a.length = b.length) : splice a 0 b = b := by simpa using sp_A a b [] h
theorem sp_skip (a l b : List V) (n : Nat) (h : a.length ≤ n) : splice (a ++ l) n b = a ++ splice l (n - a.length) b := by
  have e : n + b.length - a.length = n - a.length + b.length := by omega
  simp only [splice, List.take_append, List.drop_append, List.take_of_length_le h, List.append_assoc, e]
  rw [List.drop_eq_nil_of_le (by omega : a.length ≤ n + b.length)]
  simp

theorem cellsV_int (k : IntKind) (n : Int) : cellsV (.sc (.int k n)) = some [.sc (.int k n)] := rfl
theorem cellsV_bool (b : Bool) : cellsV (.sc (.bool b)) = some [.sc (.bool b)] := rfl
theorem cellsV_str (b : ByteArray) : cellsV (.sc (.string b)) = some [.sc (.string b)] := rfl
theorem cellsV_nil (a : Option Addr) (n c : Nat) : cellsV (.sc (.slice a n c)) = some [.sc (.slice a n c)] := rfl
theorem cellsV_agg (cs : List V) : cellsV (.agg cs) = some cs := rfl
theorem cellsV_sl (n : Nat) (cs : List V) : cellsV (.sl n cs) = some [.sl n cs] := rfl
theorem cellsV_ref (i o : Nat) : cellsV (.ref i o) = some [.ref i o] := rfl
theorem cellsV_sref (i o n s : Nat) : cellsV (.sref i o n s) = some [.sref i o n s] := rfl
theorem cellsV_box (cs : List V) : cellsV (.box cs) = some [.box cs] := rfl
theorem cellsV_fn (f : Nat) (cs : List V) : cellsV (.fn f cs) = some [.fn f cs] := rfl

theorem closedL_app {a b : List V} (ha : ClosedL a) (hb : ClosedL b) : ClosedL (a ++ b) := by
  induction a with
  | nil => exact hb
  | cons v a ih => exact ⟨ha.1, ih ha.2⟩

/-- What is given back is this value. -/
theorem out_eq {H : Heap} {v r : V} (h : v = r) (hr : Closed r) : OutOK 0 H v r [] := by
  subst h
  exact out_val hr
theorem out_vb {H : Heap} {b c : Bool} (h : b = c) : OutOK 0 H (.sc (.bool b)) (.sc (.bool c)) [] := out_eq (by rw [h]) trivial
theorem out_vi {H : Heap} {k : IntKind} {b c : Int} (h : b = c) : OutOK 0 H (.sc (.int k b)) (.sc (.int k c)) [] := out_eq (by rw [h]) trivial

/-- A guard that is open: behind it the slot says what it was. -/
theorem set_same {S : List V} {t : Nat} {v : V} (h : S.getD t .dead = v) (hv : v ≠ .dead) : S.set t v = S := by
  apply List.ext_getElem?
  intro i
  rw [List.getElem?_set]
  by_cases hi : t = i
  · subst hi
    rw [List.getD_eq_getElem?_getD] at h
    cases hs : S[t]? with
    | none => rw [hs] at h; simp at h; exact absurd h.symm hv
    | some u =>
      rw [hs] at h; simp at h
      have hl := (List.getElem?_eq_some_iff.1 hs).1
      simp [hl, h]
  · simp [hi]

section
variable {P : Program} {m0 : Nat} {Q : AExit → List V → Heap → Prop} {S : List V} {H : Heap} {k : Kt}
theorem rk_guard' (d : Option Nat) (op : AOp) (t : Nat) (want : Bool) (os : List AOper) : RK P m0 Q (⟨d, op, some (t, want)⟩ :: os) k S H =
    (match S.getD t .dead with
      | .sc (.bool b) => if b = want then RK P m0 Q (⟨d, op, none⟩ :: os) k (S.set t (.sc (.bool want))) H else RK P m0 Q os k (putS (S.set t (.sc (.bool (!want)))) d (.sc undef)) H
      | .sc (.tuple ⟨[]⟩) => RK P m0 Q os k (putS S d (.sc undef)) H
      | _ => False) := by
  rw [rk_guard]
  generalize hv : S.getD t .dead = v
  split
  · rename_i b
    have hb := hv
    simp only []
    by_cases hw : b = want
    · rw [if_pos hw, if_pos hw, set_same (by rw [hb, hw]) (by simp)]
    · have : b = !want := by cases b <;> cases want <;> simp_all
      rw [if_neg hw, if_neg hw, set_same (by rw [hb, this]) (by simp)]
  · rfl
  · split <;> simp_all
theorem fk_guard' (pairs : List (Nat × Nat)) (FW : List (List Nat × List Nat)) (d : Option Nat) (op : AOp) (t : Nat) (want : Bool) (os : List AOper) : FK P m0 Q pairs (⟨d, op, some (t, want)⟩ :: os) k S H FW =
    (match S.getD t .dead with
      | .sc (.bool b) => if b = want then FK P m0 Q pairs (⟨d, op, none⟩ :: os) k (S.set t (.sc (.bool want))) H FW else FK P m0 Q pairs os k (putS (S.set t (.sc (.bool (!want)))) d (.sc undef)) H (FW ++ [([], [])])
      | .sc (.tuple ⟨[]⟩) => FK P m0 Q pairs os k (putS S d (.sc undef)) H (FW ++ [([], [])])
      | _ => False) := by
  rw [fk_guard]
  generalize hv : S.getD t .dead = v
  split
  · rename_i b
    have hb := hv
    simp only []
    by_cases hw : b = want
    · rw [if_pos hw, if_pos hw, set_same (by rw [hb, hw]) (by simp)]
    · have : b = !want := by cases b <;> cases want <;> simp_all
      rw [if_neg hw, if_neg hw, set_same (by rw [hb, this]) (by simp)]
  · rfl
  · split <;> simp_all
end

theorem argL_closed' {H : Heap} {ids bs : List Nat} {l : List V} (h : ClosedL l) : ArgRelL H ids bs l l ↔ True := ⟨fun _ => trivial, fun _ => argL_closed l h⟩
theorem arg_closed' {H : Heap} {ids bs : List Nat} {v : V} (h : Closed v) : ArgRel H ids bs v v ↔ True := ⟨fun _ => trivial, fun _ => arg_closed v h⟩
theorem tab_nil {P : Program} : ∀ e ∈ ([] : List Ent), EntOK P e := fun e h => by cases h
theorem tab_cons {P : Program} {e : Ent} {es : List Ent} (h : EntOK P e) (t : ∀ x ∈ es, EntOK P x) : ∀ x ∈ e :: es, EntOK P x := fun x hx => by
  rcases List.mem_cons.1 hx with rfl | hx
  · exact h
  · exact t x hx

theorem un_not (b : Bool) : pureV (Op.unary .not (.bool b)) = some (.bool (!b)) := rfl

end Go.Proofs.Ytlahigboaeadmaa.VA
