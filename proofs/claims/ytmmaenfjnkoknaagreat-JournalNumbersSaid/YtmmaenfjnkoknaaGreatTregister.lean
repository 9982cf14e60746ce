/- The cells of some struct types. -/
import Derived.Test.YtmmaenfjnkoknaaGreatVC
set_option linter.unusedVariables false
set_option linter.unusedSimpArgs false
set_option maxRecDepth 10000
namespace Go.Proofs.YtmmaenfjnkoknaaGreat.VA
open Go
structure Rgr where
  boot : Int
  count : Int
  base : Int
  head : Bn 16
  point : Int
def cRgr (x : Rgr) : List V := vi .u64 x.boot :: (vi .u64 x.count :: (vi .u64 x.base :: (dg x.head ++ ([vi .i64 x.point]))))
def Rgr.zero : Rgr := ⟨0, 0, 0, Bn.zero 16, 0⟩
def zRgr : List Value := [.int .u64 0, .int .u64 0, .int .u64 0, .int .u8 0, .int .u8 0, .int .u8 0, .int .u8 0, .int .u8 0, .int .u8 0, .int .u8 0, .int .u8 0, .int .u8 0, .int .u8 0, .int .u8 0, .int .u8 0, .int .u8 0, .int .u8 0, .int .u8 0, .int .u8 0, .int .i64 0]
theorem zRgr_sc : zRgr.map V.sc = cRgr Rgr.zero := rfl
theorem cRgr_len (x : Rgr) : (cRgr x).length = 20 := by simp [cRgr, dg_len]
theorem cRgr_closed (x : Rgr) : ClosedL (cRgr x) := ⟨trivial, ⟨trivial, ⟨trivial, closedL_app (dg_closed _) ⟨trivial, trivial⟩⟩⟩⟩
instance (x : Rgr) : ClL (cRgr x) := ⟨cRgr_closed x⟩
theorem rd_Rgr_boot (x : Rgr) : rd none (cRgr x) 0 = some (vi .u64 x.boot) := by simp [cRgr, rd_nS, rd_n0, rd_skip, rd_sS, rd_sA, rd_sE, dg_len]
theorem sp_Rgr_boot (x : Rgr) (y : Int) : splice (cRgr x) 0 [vi .u64 y] = cRgr { x with boot := y } := by simp [cRgr, sp_S, sp_0, sp_A, sp_all, sp_skip, dg_len]
theorem rd_Rgr_count (x : Rgr) : rd none (cRgr x) 1 = some (vi .u64 x.count) := by simp [cRgr, rd_nS, rd_n0, rd_skip, rd_sS, rd_sA, rd_sE, dg_len]
theorem sp_Rgr_count (x : Rgr) (y : Int) : splice (cRgr x) 1 [vi .u64 y] = cRgr { x with count := y } := by simp [cRgr, sp_S, sp_0, sp_A, sp_all, sp_skip, dg_len]
theorem rd_Rgr_base (x : Rgr) : rd none (cRgr x) 2 = some (vi .u64 x.base) := by simp [cRgr, rd_nS, rd_n0, rd_skip, rd_sS, rd_sA, rd_sE, dg_len]
theorem sp_Rgr_base (x : Rgr) (y : Int) : splice (cRgr x) 2 [vi .u64 y] = cRgr { x with base := y } := by simp [cRgr, sp_S, sp_0, sp_A, sp_all, sp_skip, dg_len]
theorem rd_Rgr_head (x : Rgr) : rd (some 16) (cRgr x) 3 = some (.agg (dg x.head)) := by simp [cRgr, rd_nS, rd_n0, rd_skip, rd_sS, rd_sA, rd_sE, dg_len]
theorem sp_Rgr_head (x : Rgr) (y : Bn 16) : splice (cRgr x) 3 (dg y) = cRgr { x with head := y } := by simp [cRgr, sp_S, sp_0, sp_A, sp_all, sp_skip, dg_len]
theorem rd_Rgr_point (x : Rgr) : rd none (cRgr x) 19 = some (vi .i64 x.point) := by simp [cRgr, rd_nS, rd_n0, rd_skip, rd_sS, rd_sA, rd_sE, dg_len]
theorem sp_Rgr_point (x : Rgr) (y : Int) : splice (cRgr x) 19 [vi .i64 y] = cRgr { x with point := y } := by simp [cRgr, sp_S, sp_0, sp_A, sp_all, sp_skip, dg_len]
theorem rd_Rgr (x : Rgr) : rd (some 20) (cRgr x) 0 = some (.agg (cRgr x)) := rd_sE _ _ (cRgr_len x)
theorem sp_Rgr (x y : Rgr) : splice (cRgr x) 0 (cRgr y) = cRgr y := sp_all _ _ (by rw [cRgr_len, cRgr_len])
instance : DecidableEq Rgr := fun a b => decidable_of_iff (a.boot = b.boot ∧ a.count = b.count ∧ a.base = b.base ∧ a.head = b.head ∧ a.point = b.point) (by cases a; cases b; simp)
set_option linter.defProp false in
def lr_register := an (an (an @zRgr_sc (an @cRgr_len @rd_Rgr_boot)) (an (an @rd_Rgr_count @rd_Rgr_base) (an @rd_Rgr_head @rd_Rgr_point))) (an (an @rd_Rgr (an @sp_Rgr_boot @sp_Rgr_count)) (an (an @sp_Rgr_base @sp_Rgr_head) (an @sp_Rgr_point @sp_Rgr)))
end Go.Proofs.YtmmaenfjnkoknaaGreat.VA
