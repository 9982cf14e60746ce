/- Disks: their cells. -/
import Derived.Test.YtmmaenfjnkoknaaGreatTregister
import Derived.Test.YtmmaenfjnkoknaaGreatPK
import Derived.Test.YtmmaenfjnkoknaaGreatVC
set_option linter.unusedVariables false
set_option linter.unusedSimpArgs false
set_option maxRecDepth 10000
namespace Go.Proofs.YtmmaenfjnkoknaaGreat.VA
open Go
attribute [local irreducible] WK NK XK TK RK FK CK CFK CallRel C
structure Slo where
  has : Bool
  b : Row
def Slo.zero : Slo := ⟨false, .nil⟩
instance : Inhabited Slo := ⟨Slo.zero⟩
def cSlo (x : Slo) : List V := [vb x.has, rowV x.b]
theorem cSlo_len (x : Slo) : (cSlo x).length = 2 := rfl
theorem cSlo_closed (x : Slo) : ClosedL (cSlo x) := ⟨trivial, row_closed _, trivial⟩
instance (x : Slo) : ClL (cSlo x) := ⟨cSlo_closed x⟩
def zSlo : List Value := [.bool false, .slice none 0 0]
theorem zSlo_sc : zSlo.map V.sc = cSlo Slo.zero := rfl
theorem sp_Slo_has (x : Slo) (y : Bool) : splice (cSlo x) 0 [vb y] = cSlo { x with has := y } := rfl
theorem sp_Slo_b (x : Slo) (y : Row) : splice (cSlo x) 1 [rowV y] = cSlo { x with b := y } := rfl
theorem sp_Slo (x y : Slo) : splice (cSlo x) 0 (cSlo y) = cSlo y := rfl
theorem rd_Slo (x : Slo) : rd (some 2) (cSlo x) 0 = some (.agg (cSlo x)) := rfl
theorem blk_zSlo (l : List V) : blkOf zSlo l = l := rfl
theorem slos_len : ∀ l : List Slo, (l.flatMap cSlo).length = 2 * l.length
  | [] => rfl
  | x :: l => by rw [List.flatMap_cons, List.length_append, slos_len l, cSlo_len, List.length_cons]; omega
theorem rd_slo : ∀ (l : List Slo) (T : List V) (n : Nat), n < l.length → rd none (l.flatMap cSlo ++ T) (n * 2) = some (vb (l.getD n default).has) ∧ rd none (l.flatMap cSlo ++ T) (n * 2 + 1) = some (rowV (l.getD n default).b)
  | [], T, n, h => by simp at h
  | x :: l, T, 0, h => ⟨rfl, rfl⟩
  | x :: l, T, n + 1, h => by
    have ih := rd_slo l T n (by simpa using h)
    have e : (n + 1) * 2 = n * 2 + 1 + 1 := by omega
    rw [e]
    exact ih
theorem sp_slo : ∀ (l : List Slo) (T : List V) (n : Nat) (y : Slo), n < l.length → splice (l.flatMap cSlo ++ T) (n * 2) (cSlo y) = (l.set n y).flatMap cSlo ++ T
  | [], T, n, y, h => by simp at h
  | x :: l, T, 0, y, h => rfl
  | x :: l, T, n + 1, y, h => by
    have ih := sp_slo l T n y (by simpa using h)
    have e : (n + 1) * 2 = n * 2 + 1 + 1 := by omega
    rw [e, List.flatMap_cons, List.set_cons_succ, List.flatMap_cons, List.append_assoc, List.append_assoc, ← ih]
    simp only [cSlo, List.cons_append, List.nil_append, sp_S]
structure Dsk where
  now : List Slo
  old : List Slo
  pend : Int
  at_ : Int
  last : Row
def cDsk (d : Dsk) : List V := d.now.flatMap cSlo ++ (d.old.flatMap cSlo ++ [vi .i64 d.pend, vi .i64 d.at_, rowV d.last])
def Dsk.ok (d : Dsk) : Prop := d.now.length = 10 ∧ d.old.length = 10
def Dsk.zero : Dsk := ⟨List.replicate 10 Slo.zero, List.replicate 10 Slo.zero, 0, 0, .nil⟩
theorem dsk_zero : Dsk.zero.ok := ⟨rfl, rfl⟩
def zDsk : List Value := [.bool false, .slice none 0 0, .bool false, .slice none 0 0, .bool false, .slice none 0 0, .bool false, .slice none 0 0, .bool false, .slice none 0 0, .bool false, .slice none 0 0, .bool false, .slice none 0 0, .bool false, .slice none 0 0, .bool false, .slice none 0 0, .bool false, .slice none 0 0, .bool false, .slice none 0 0, .bool false, .slice none 0 0, .bool false, .slice none 0 0, .bool false, .slice none 0 0, .bool false, .slice none 0 0, .bool false, .slice none 0 0, .bool false, .slice none 0 0, .bool false, .slice none 0 0, .bool false, .slice none 0 0, .bool false, .slice none 0 0, .int .i64 0, .int .i64 0, .slice none 0 0]
theorem zDsk_sc : zDsk.map V.sc = cDsk Dsk.zero := rfl
theorem len_zDsk : (cDsk Dsk.zero).length = 43 := rfl
theorem blk_zDsk (l : List V) : blkOf zDsk l = l := rfl
theorem closed_slos : ∀ l : List Slo, ClosedL (l.flatMap cSlo)
  | [] => trivial
  | x :: l => closedL_app (cSlo_closed x) (closed_slos l)
theorem cDsk_closed (d : Dsk) : ClosedL (cDsk d) := closedL_app (closed_slos _) (closedL_app (closed_slos _) ⟨trivial, trivial, row_closed _, trivial⟩)
instance (d : Dsk) : ClL (cDsk d) := ⟨cDsk_closed d⟩
theorem cDsk_len (d : Dsk) (h : d.ok) : (cDsk d).length = 43 := by
  simp only [cDsk, List.length_append, slos_len, h.1, h.2, List.length_cons, List.length_nil]
section
variable (d : Dsk) (h : d.ok)
include h
theorem rd_dsk_has (n : Nat) (hn : n < 10) : rd none (cDsk d) (n * 2) = some (vb (d.now.getD n default).has) := (rd_slo d.now _ n (by rw [h.1]; exact hn)).1
theorem rd_dsk_b (n : Nat) (hn : n < 10) : rd none (cDsk d) (n * 2 + 1) = some (rowV (d.now.getD n default).b) := (rd_slo d.now _ n (by rw [h.1]; exact hn)).2
theorem sp_dsk (n : Nat) (hn : n < 10) (y : Slo) : splice (cDsk d) (n * 2) (cSlo y) = cDsk { d with now := d.now.set n y } := sp_slo d.now _ n y (by rw [h.1]; exact hn)
theorem rd_dsk_pend : rd none (cDsk d) 40 = some (vi .i64 d.pend) := by
  unfold cDsk
  rw [rd_skip _ _ _ _ (by rw [slos_len, h.1]; decide), rd_skip _ _ _ _ (by rw [slos_len, slos_len, h.1, h.2]; decide), slos_len, slos_len, h.1, h.2]
  rfl
theorem sp_dsk_pend (y : Int) : splice (cDsk d) 40 [vi .i64 y] = cDsk { d with pend := y } := by
  unfold cDsk
  rw [sp_skip _ _ _ _ (by rw [slos_len, h.1]; decide), sp_skip _ _ _ _ (by rw [slos_len, slos_len, h.1, h.2]; decide), slos_len, slos_len, h.1, h.2]
  rfl
theorem sp_dsk_at (y : Int) : splice (cDsk d) 41 [vi .i64 y] = cDsk { d with at_ := y } := by
  unfold cDsk
  rw [sp_skip _ _ _ _ (by rw [slos_len, h.1]; decide), sp_skip _ _ _ _ (by rw [slos_len, slos_len, h.1, h.2]; decide), slos_len, slos_len, h.1, h.2]
  rfl
theorem sp_dsk_last (y : Row) : splice (cDsk d) 42 [rowV y] = cDsk { d with last := y } := by
  unfold cDsk
  rw [sp_skip _ _ _ _ (by rw [slos_len, h.1]; decide), sp_skip _ _ _ _ (by rw [slos_len, slos_len, h.1, h.2]; decide), slos_len, slos_len, h.1, h.2]
  rfl
end
structure Rsk where
  now : List Slo
  old : List Slo
  last : Int
  put1 : Row
  n : Int
def cRsk (d : Rsk) : List V := d.now.flatMap cSlo ++ (d.old.flatMap cSlo ++ [vi .i64 d.last, rowV d.put1, vi .i64 d.n])
def Rsk.ok (d : Rsk) : Prop := d.now.length = 10 ∧ d.old.length = 10
def Rsk.zero : Rsk := ⟨List.replicate 10 Slo.zero, List.replicate 10 Slo.zero, 0, .nil, 0⟩
def zRsk : List Value := [.bool false, .slice none 0 0, .bool false, .slice none 0 0, .bool false, .slice none 0 0, .bool false, .slice none 0 0, .bool false, .slice none 0 0, .bool false, .slice none 0 0, .bool false, .slice none 0 0, .bool false, .slice none 0 0, .bool false, .slice none 0 0, .bool false, .slice none 0 0, .bool false, .slice none 0 0, .bool false, .slice none 0 0, .bool false, .slice none 0 0, .bool false, .slice none 0 0, .bool false, .slice none 0 0, .bool false, .slice none 0 0, .bool false, .slice none 0 0, .bool false, .slice none 0 0, .bool false, .slice none 0 0, .bool false, .slice none 0 0, .int .i64 0, .slice none 0 0, .int .i64 0]
theorem zRsk_sc : zRsk.map V.sc = cRsk Rsk.zero := rfl
theorem len_zRsk : (cRsk Rsk.zero).length = 43 := rfl
theorem blk_zRsk (l : List V) : blkOf zRsk l = l := rfl
theorem rsk_zero : Rsk.zero.ok := ⟨rfl, rfl⟩
theorem cRsk_closed (d : Rsk) : ClosedL (cRsk d) := closedL_app (closed_slos _) (closedL_app (closed_slos _) ⟨trivial, row_closed _, trivial, trivial⟩)
instance (d : Rsk) : ClL (cRsk d) := ⟨cRsk_closed d⟩
theorem cRsk_len (d : Rsk) (h : d.ok) : (cRsk d).length = 43 := by
  simp only [cRsk, List.length_append, slos_len, h.1, h.2, List.length_cons, List.length_nil]
section
variable (d : Rsk) (h : d.ok)
include h
theorem rd_rsk_has (n : Nat) (hn : n < 10) : rd none (cRsk d) (n * 2) = some (vb (d.now.getD n default).has) := (rd_slo d.now _ n (by rw [h.1]; exact hn)).1
theorem rd_rsk_b (n : Nat) (hn : n < 10) : rd none (cRsk d) (n * 2 + 1) = some (rowV (d.now.getD n default).b) := (rd_slo d.now _ n (by rw [h.1]; exact hn)).2
theorem sp_rsk (n : Nat) (hn : n < 10) (y : Slo) : splice (cRsk d) (n * 2) (cSlo y) = cRsk { d with now := d.now.set n y } := sp_slo d.now _ n y (by rw [h.1]; exact hn)
theorem rd_rsk_n : rd none (cRsk d) 42 = some (vi .i64 d.n) := by
  unfold cRsk
  rw [rd_skip _ _ _ _ (by rw [slos_len, h.1]; decide), rd_skip _ _ _ _ (by rw [slos_len, slos_len, h.1, h.2]; decide), slos_len, slos_len, h.1, h.2]
  rfl
theorem sp_rsk_last (y : Int) : splice (cRsk d) 40 [vi .i64 y] = cRsk { d with last := y } := by
  unfold cRsk
  rw [sp_skip _ _ _ _ (by rw [slos_len, h.1]; decide), sp_skip _ _ _ _ (by rw [slos_len, slos_len, h.1, h.2]; decide), slos_len, slos_len, h.1, h.2]
  rfl
theorem sp_rsk_put1 (y : Row) : splice (cRsk d) 41 [rowV y] = cRsk { d with put1 := y } := by
  unfold cRsk
  rw [sp_skip _ _ _ _ (by rw [slos_len, h.1]; decide), sp_skip _ _ _ _ (by rw [slos_len, slos_len, h.1, h.2]; decide), slos_len, slos_len, h.1, h.2]
  rfl
theorem sp_rsk_n (y : Int) : splice (cRsk d) 42 [vi .i64 y] = cRsk { d with n := y } := by
  unfold cRsk
  rw [sp_skip _ _ _ _ (by rw [slos_len, h.1]; decide), sp_skip _ _ _ _ (by rw [slos_len, slos_len, h.1, h.2]; decide), slos_len, slos_len, h.1, h.2]
  rfl
end
end Go.Proofs.YtmmaenfjnkoknaaGreat.VA
