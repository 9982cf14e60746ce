/- The cells of some struct types. -/
import Derived.Test.YtfpoebmihjbknaaGreatPK
set_option linter.unusedVariables false
set_option linter.unusedSimpArgs false
set_option maxRecDepth 10000
namespace Go.Proofs.YtfpoebmihjbknaaGreat.VA
open Go
structure Pcl where
  frm : Int
  shard : Int
  epoch : Int
  vaults : Lst Vlt
def cPcl (x : Pcl) : List V := vi .i64 x.frm :: (vi .i64 x.shard :: (vi .u64 x.epoch :: ([lstV cVlt x.vaults])))
def Pcl.zero : Pcl := ⟨0, 0, 0, .nil⟩
instance : Inhabited Pcl := ⟨Pcl.zero⟩
def zPcl : List Value := [.int .i64 0, .int .i64 0, .int .u64 0, .slice none 0 0]
theorem zPcl_sc : zPcl.map V.sc = cPcl Pcl.zero := rfl
theorem cPcl_len (x : Pcl) : (cPcl x).length = 4 := by simp [cPcl, dg_len]
theorem cPcl_closed (x : Pcl) : ClosedL (cPcl x) := by
  simp [cPcl, ClosedL, Closed, dg_closed, row_closed, ints_closed, st_closed, closedL_appI, lst_closed cVlt cVlt_closed]
instance (x : Pcl) : ClL (cPcl x) := ⟨cPcl_closed x⟩
theorem rd_Pcl_frm (x : Pcl) : rd none (cPcl x) 0 = some (vi .i64 x.frm) := by simp [cPcl, rdr]
theorem sp_Pcl_frm (x : Pcl) (y : Int) : splice (cPcl x) 0 [vi .i64 y] = cPcl { x with frm := y } := by simp [cPcl, spr]
theorem rd_Pcl_shard (x : Pcl) : rd none (cPcl x) 1 = some (vi .i64 x.shard) := by simp [cPcl, rdr]
theorem sp_Pcl_shard (x : Pcl) (y : Int) : splice (cPcl x) 1 [vi .i64 y] = cPcl { x with shard := y } := by simp [cPcl, spr]
theorem rd_Pcl_epoch (x : Pcl) : rd none (cPcl x) 2 = some (vi .u64 x.epoch) := by simp [cPcl, rdr]
theorem sp_Pcl_epoch (x : Pcl) (y : Int) : splice (cPcl x) 2 [vi .u64 y] = cPcl { x with epoch := y } := by simp [cPcl, spr]
theorem rd_Pcl_vaults (x : Pcl) : rd none (cPcl x) 3 = some (lstV cVlt x.vaults) := by simp [cPcl, rdr]
theorem sp_Pcl_vaults (x : Pcl) (y : Lst Vlt) : splice (cPcl x) 3 [lstV cVlt y] = cPcl { x with vaults := y } := by simp [cPcl, spr]
theorem sp_Pcl_vaults_nil (x : Pcl) : splice (cPcl x) 3 [.sc (.slice none 0 0)] = cPcl { x with vaults := .nil } := by simpa [rowV, intsV, lstV] using sp_Pcl_vaults x .nil
theorem rd_Pcl (x : Pcl) : rd (some 4) (cPcl x) 0 = some (.agg (cPcl x)) := rd_sE _ _ (cPcl_len x)
theorem sp_Pcl (x y : Pcl) : splice (cPcl x) 0 (cPcl y) = cPcl y := sp_all _ _ (by rw [cPcl_len, cPcl_len])
structure Tok where
  frm : Int
  shard : Int
  epoch : Int
def cTok (x : Tok) : List V := vi .i64 x.frm :: (vi .i64 x.shard :: ([vi .u64 x.epoch]))
def Tok.zero : Tok := ⟨0, 0, 0⟩
instance : Inhabited Tok := ⟨Tok.zero⟩
def zTok : List Value := [.int .i64 0, .int .i64 0, .int .u64 0]
theorem zTok_sc : zTok.map V.sc = cTok Tok.zero := rfl
theorem cTok_len (x : Tok) : (cTok x).length = 3 := by simp [cTok, dg_len]
theorem cTok_closed (x : Tok) : ClosedL (cTok x) := by
  simp [cTok, ClosedL, Closed, dg_closed, row_closed, ints_closed, st_closed, closedL_appI]
instance (x : Tok) : ClL (cTok x) := ⟨cTok_closed x⟩
theorem rd_Tok_frm (x : Tok) : rd none (cTok x) 0 = some (vi .i64 x.frm) := by simp [cTok, rdr]
theorem sp_Tok_frm (x : Tok) (y : Int) : splice (cTok x) 0 [vi .i64 y] = cTok { x with frm := y } := by simp [cTok, spr]
theorem rd_Tok_shard (x : Tok) : rd none (cTok x) 1 = some (vi .i64 x.shard) := by simp [cTok, rdr]
theorem sp_Tok_shard (x : Tok) (y : Int) : splice (cTok x) 1 [vi .i64 y] = cTok { x with shard := y } := by simp [cTok, spr]
theorem rd_Tok_epoch (x : Tok) : rd none (cTok x) 2 = some (vi .u64 x.epoch) := by simp [cTok, rdr]
theorem sp_Tok_epoch (x : Tok) (y : Int) : splice (cTok x) 2 [vi .u64 y] = cTok { x with epoch := y } := by simp [cTok, spr]
theorem rd_Tok (x : Tok) : rd (some 3) (cTok x) 0 = some (.agg (cTok x)) := rd_sE _ _ (cTok_len x)
theorem sp_Tok (x y : Tok) : splice (cTok x) 0 (cTok y) = cTok y := sp_all _ _ (by rw [cTok_len, cTok_len])
instance : DecidableEq Tok := fun a b => decidable_of_iff (a.frm = b.frm ∧ a.shard = b.shard ∧ a.epoch = b.epoch) (by cases a; cases b; simp)
def shTok : List Bool := [false, false, false]
theorem eqC_Tok (a b : Tok) : EqC shTok (cTok a) (cTok b) (decide (a = b)) := by
  have h : (decide (a.frm = b.frm) && (decide (a.shard = b.shard) && (decide (a.epoch = b.epoch)))) = decide (a = b) := by
    cases a; cases b; simp
  rw [← h]
  exact ((EqC.int _ _ _).app ((EqC.int _ _ _).app (EqC.int _ _ _)))
theorem eq_Tok (a b : Tok) : evEqA shTok (.agg (cTok a)) (.agg (cTok b)) = some (decide (a = b)) := (eqC_Tok a b).ev
set_option linter.defProp false in
def lr_hand := an (an (an (an @zPcl_sc (an @cPcl_len @rd_Pcl_frm)) (an @rd_Pcl_shard (an @rd_Pcl_epoch @rd_Pcl_vaults))) (an (an @rd_Pcl (an @sp_Pcl_frm @sp_Pcl_shard)) (an @sp_Pcl_epoch (an @sp_Pcl_vaults_nil @sp_Pcl_vaults)))) (an (an (an @sp_Pcl (an @zTok_sc @cTok_len)) (an @rd_Tok_frm (an @rd_Tok_shard @rd_Tok_epoch))) (an (an @rd_Tok (an @sp_Tok_frm @sp_Tok_shard)) (an @sp_Tok_epoch (an @sp_Tok @eq_Tok))))
end Go.Proofs.YtfpoebmihjbknaaGreat.VA
