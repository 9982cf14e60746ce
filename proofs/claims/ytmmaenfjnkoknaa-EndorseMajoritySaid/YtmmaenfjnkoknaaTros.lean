/- The cells of some struct types. -/
import Derived.Test.YtmmaenfjnkoknaaVC
set_option linter.unusedVariables false
set_option linter.unusedSimpArgs false
set_option maxRecDepth 10000
namespace Go.Proofs.Ytmmaenfjnkoknaa.VA
open Go
structure Ros where
  version : Int
  members : Ints
def cRos (x : Ros) : List V := vi .u64 x.version :: ([intsV .i64 x.members])
def Ros.zero : Ros := ⟨0, .nil⟩
instance : Inhabited Ros := ⟨Ros.zero⟩
def zRos : List Value := [.int .u64 0, .slice none 0 0]
theorem zRos_sc : zRos.map V.sc = cRos Ros.zero := rfl
theorem cRos_len (x : Ros) : (cRos x).length = 2 := by simp [cRos, dg_len]
theorem cRos_closed (x : Ros) : ClosedL (cRos x) := by
  simp [cRos, ClosedL, Closed, dg_closed, row_closed, ints_closed, st_closed, closedL_appI]
instance (x : Ros) : ClL (cRos x) := ⟨cRos_closed x⟩
theorem cRos_ids (x : Ros) : idsInL (cRos x) = [] := idsL_closed _ (cRos_closed x)
def gRos_members (x : Ros) (s : V) : List V := vi .u64 x.version :: ([s])
theorem rd_Ros_version (x : Ros) : rd none (cRos x) 0 = some (vi .u64 x.version) := by simp [cRos, rdr]
theorem sp_Ros_version (x : Ros) (y : Int) : splice (cRos x) 0 [vi .u64 y] = cRos { x with version := y } := by simp [cRos, spr]
theorem rd_Ros_members (x : Ros) : rd none (cRos x) 1 = some (intsV .i64 x.members) := by simp [cRos, rdr]
theorem sp_Ros_members (x : Ros) (y : Ints) : splice (cRos x) 1 [intsV .i64 y] = cRos { x with members := y } := by simp [cRos, spr]
theorem sp_Ros_members_own (x : Ros) (i f m z : Nat) : splice (cRos x) 1 [.sref i f m z] = gRos_members x (.sref i f m z) := by simp [cRos, spr, gRos_members]
theorem sp_Ros_members_nil (x : Ros) : splice (cRos x) 1 [.sc (.slice none 0 0)] = cRos { x with members := .nil } := by simpa [rowV, intsV, lstV] using sp_Ros_members x .nil
theorem rd_Ros (x : Ros) : rd (some 2) (cRos x) 0 = some (.agg (cRos x)) := rd_sE _ _ (cRos_len x)
theorem sp_Ros (x y : Ros) : splice (cRos x) 0 (cRos y) = cRos y := sp_all _ _ (by rw [cRos_len, cRos_len])
theorem gRos_members_back (x : Ros) (r : Ints) : gRos_members x (intsV .i64 r) = cRos { x with members := r } := rfl
theorem gRos_members_len (x : Ros) (s : V) : (gRos_members x s).length = 2 := by simp [gRos_members, dg_len]
theorem argG_Ros_members {H : Heap} {ids bs : List Nat} (x : Ros) {s : V} {r : Ints} (h : ArgRel H ids bs s (intsV .i64 r)) : ArgRelL H ids bs (gRos_members x s) (cRos { x with members := r }) := by
  exact argL_cons (arg_closed _ (trivial)) (argL_cons h argL_nil)
instance (x : Ros) (s : V) [i : Cl s] : ClL (gRos_members x s) := ⟨by have := i.h; simp [gRos_members, ClosedL, Closed, dg_closed, row_closed, ints_closed, st_closed, closedL_appI, this]⟩
theorem gRos_members_ids (x : Ros) (s : V) : idsInL (gRos_members x s) = idsIn s := by
  simp only [gRos_members, idsInL, ids_app, idsL_closed _ (dg_closed _), ids_closed _ (row_closed _), ids_closed _ (ints_closed _ _), idsIn, List.nil_append, List.append_nil]
instance {i o n z : Nat} (x : Ros) : MemI i (gRos_members x (.sref i o n z)) := ⟨by rw [gRos_members_ids]; simp [idsIn]⟩
theorem rd_Ros_version_gmembers (x : Ros) (s : V) : rd none (gRos_members x s) 0 = some (vi .u64 x.version) := by simp [gRos_members, rdr]
theorem sp_Ros_version_gmembers (x : Ros) (s : V) (y : Int) : splice (gRos_members x s) 0 [vi .u64 y] = gRos_members { x with version := y } s := by simp [gRos_members, spr]
theorem rd_Ros_members_gmembers (x : Ros) (s : V) : rd none (gRos_members x s) 1 = some s := by simp [gRos_members, rdr]
theorem sp_Ros_members_gmembers (x : Ros) (s : V) (y : V) : splice (gRos_members x s) 1 [y] = gRos_members x y := by simp [gRos_members, spr]
theorem rd_Ros_gmembers (x : Ros) (s : V) : rd (some 2) (gRos_members x s) 0 = some (.agg (gRos_members x s)) := rd_sE _ _ (gRos_members_len x s)
theorem sp_Ros_gmembers (x y : Ros) (s : V) : splice (gRos_members x s) 0 (cRos y) = cRos y := sp_all _ _ (by rw [gRos_members_len, cRos_len])
theorem sp_Ros_tomembers (x y : Ros) (s : V) : splice (cRos x) 0 (gRos_members y s) = gRos_members y s := sp_all _ _ (by rw [gRos_members_len, cRos_len])
structure Vot where
  member : Int
  mark : Bn 16
def cVot (x : Vot) : List V := vi .i64 x.member :: (dg x.mark)
def Vot.zero : Vot := ⟨0, Bn.zero 16⟩
instance : Inhabited Vot := ⟨Vot.zero⟩
def zVot : List Value := [.int .i64 0, .int .u8 0, .int .u8 0, .int .u8 0, .int .u8 0, .int .u8 0, .int .u8 0, .int .u8 0, .int .u8 0, .int .u8 0, .int .u8 0, .int .u8 0, .int .u8 0, .int .u8 0, .int .u8 0, .int .u8 0, .int .u8 0]
theorem zVot_sc : zVot.map V.sc = cVot Vot.zero := rfl
theorem cVot_len (x : Vot) : (cVot x).length = 17 := by simp [cVot, dg_len]
theorem cVot_closed (x : Vot) : ClosedL (cVot x) := by
  simp [cVot, ClosedL, Closed, dg_closed, row_closed, ints_closed, st_closed, closedL_appI]
instance (x : Vot) : ClL (cVot x) := ⟨cVot_closed x⟩
theorem rd_Vot_member (x : Vot) : rd none (cVot x) 0 = some (vi .i64 x.member) := by simp [cVot, rdr]
theorem sp_Vot_member (x : Vot) (y : Int) : splice (cVot x) 0 [vi .i64 y] = cVot { x with member := y } := by simp [cVot, spr]
theorem rd_Vot_mark (x : Vot) : rd (some 16) (cVot x) 1 = some (.agg (dg x.mark)) := by simp [cVot, rdr]
theorem sp_Vot_mark (x : Vot) (y : Bn 16) : splice (cVot x) 1 (dg y) = cVot { x with mark := y } := by simp [cVot, spr]
theorem rd_Vot (x : Vot) : rd (some 17) (cVot x) 0 = some (.agg (cVot x)) := rd_sE _ _ (cVot_len x)
theorem sp_Vot (x y : Vot) : splice (cVot x) 0 (cVot y) = cVot y := sp_all _ _ (by rw [cVot_len, cVot_len])
instance : DecidableEq Vot := fun a b => decidable_of_iff (a.member = b.member ∧ a.mark = b.mark) (by cases a; cases b; simp)
set_option linter.defProp false in
def lr_ros := an (an (an (an @zRos_sc (an @cRos_len @gRos_members_len)) (an @rd_Ros_version (an @rd_Ros_members @rd_Ros))) (an (an @gRos_members_back (an @rd_Ros_version_gmembers @rd_Ros_members_gmembers)) (an (an @rd_Ros_gmembers @sp_Ros_version) (an @sp_Ros_members_own @sp_Ros_members_nil)))) (an (an (an @sp_Ros_members (an @sp_Ros @sp_Ros_version_gmembers)) (an (an @sp_Ros_members_gmembers @sp_Ros_gmembers) (an @sp_Ros_tomembers @zVot_sc))) (an (an @cVot_len (an @rd_Vot_member @rd_Vot_mark)) (an (an @rd_Vot @sp_Vot_member) (an @sp_Vot_mark @sp_Vot))))
end Go.Proofs.Ytmmaenfjnkoknaa.VA
