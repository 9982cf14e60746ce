/- Texts of this proof, one behind the other: Tapi, Lcodec, Ccodec, Dcodec, Ecodec, Fcodec, Gcodec, Hcodec, Icodec. -/
import Derived.Test.YtfpoebmihjbknaaGreatVC
import Derived.Test.YtfpoebmihjbknaaGreatPB
/- The cells of some struct types. -/
set_option linter.unusedVariables false
set_option linter.unusedSimpArgs false
set_option maxRecDepth 10000
namespace Go.Proofs.YtfpoebmihjbknaaGreat.VA
open Go
structure Vlt where
  id : Bn 4
  gen : Int
  pin : Bn 16
  secret : Row
  limit : Int
  used : Int
  owner : Bn 16
  gone : Bool
  wiped : Bool
def cVlt (x : Vlt) : List V := dg x.id ++ (vi .u64 x.gen :: (dg x.pin ++ (rowV x.secret :: (vi .i64 x.limit :: (vi .i64 x.used :: (dg x.owner ++ (vb x.gone :: ([vb x.wiped]))))))))
def Vlt.zero : Vlt := ⟨Bn.zero 4, 0, Bn.zero 16, .nil, 0, 0, Bn.zero 16, false, false⟩
instance : Inhabited Vlt := ⟨Vlt.zero⟩
def zVlt : List Value := [.int .u8 0, .int .u8 0, .int .u8 0, .int .u8 0, .int .u64 0, .int .u8 0, .int .u8 0, .int .u8 0, .int .u8 0, .int .u8 0, .int .u8 0, .int .u8 0, .int .u8 0, .int .u8 0, .int .u8 0, .int .u8 0, .int .u8 0, .int .u8 0, .int .u8 0, .int .u8 0, .int .u8 0, .slice none 0 0, .int .i64 0, .int .i64 0, .int .u8 0, .int .u8 0, .int .u8 0, .int .u8 0, .int .u8 0, .int .u8 0, .int .u8 0, .int .u8 0, .int .u8 0, .int .u8 0, .int .u8 0, .int .u8 0, .int .u8 0, .int .u8 0, .int .u8 0, .int .u8 0, .bool false, .bool false]
theorem zVlt_sc : zVlt.map V.sc = cVlt Vlt.zero := rfl
theorem cVlt_len (x : Vlt) : (cVlt x).length = 42 := by simp [cVlt, dg_len]
theorem cVlt_closed (x : Vlt) : ClosedL (cVlt x) := by
  simp [cVlt, ClosedL, Closed, dg_closed, row_closed, ints_closed, st_closed, closedL_appI]
instance (x : Vlt) : ClL (cVlt x) := ⟨cVlt_closed x⟩
theorem cVlt_ids (x : Vlt) : idsInL (cVlt x) = [] := idsL_closed _ (cVlt_closed x)
def gVlt_secret (x : Vlt) (s : V) : List V := dg x.id ++ (vi .u64 x.gen :: (dg x.pin ++ (s :: (vi .i64 x.limit :: (vi .i64 x.used :: (dg x.owner ++ (vb x.gone :: ([vb x.wiped]))))))))
theorem rd_Vlt_id (x : Vlt) : rd (some 4) (cVlt x) 0 = some (.agg (dg x.id)) := by simp [cVlt, rdr]
theorem sp_Vlt_id (x : Vlt) (y : Bn 4) : splice (cVlt x) 0 (dg y) = cVlt { x with id := y } := by simp [cVlt, spr]
theorem rd_Vlt_gen (x : Vlt) : rd none (cVlt x) 4 = some (vi .u64 x.gen) := by simp [cVlt, rdr]
theorem sp_Vlt_gen (x : Vlt) (y : Int) : splice (cVlt x) 4 [vi .u64 y] = cVlt { x with gen := y } := by simp [cVlt, spr]
theorem rd_Vlt_pin (x : Vlt) : rd (some 16) (cVlt x) 5 = some (.agg (dg x.pin)) := by simp [cVlt, rdr]
theorem sp_Vlt_pin (x : Vlt) (y : Bn 16) : splice (cVlt x) 5 (dg y) = cVlt { x with pin := y } := by simp [cVlt, spr]
theorem rd_Vlt_secret (x : Vlt) : rd none (cVlt x) 21 = some (rowV x.secret) := by simp [cVlt, rdr]
theorem sp_Vlt_secret (x : Vlt) (y : Row) : splice (cVlt x) 21 [rowV y] = cVlt { x with secret := y } := by simp [cVlt, spr]
theorem sp_Vlt_secret_own (x : Vlt) (i f m z : Nat) : splice (cVlt x) 21 [.sref i f m z] = gVlt_secret x (.sref i f m z) := by simp [cVlt, spr, gVlt_secret]
theorem sp_Vlt_secret_nil (x : Vlt) : splice (cVlt x) 21 [.sc (.slice none 0 0)] = cVlt { x with secret := .nil } := by simpa [rowV, intsV, lstV] using sp_Vlt_secret x .nil
theorem rd_Vlt_limit (x : Vlt) : rd none (cVlt x) 22 = some (vi .i64 x.limit) := by simp [cVlt, rdr]
theorem sp_Vlt_limit (x : Vlt) (y : Int) : splice (cVlt x) 22 [vi .i64 y] = cVlt { x with limit := y } := by simp [cVlt, spr]
theorem rd_Vlt_used (x : Vlt) : rd none (cVlt x) 23 = some (vi .i64 x.used) := by simp [cVlt, rdr]
theorem sp_Vlt_used (x : Vlt) (y : Int) : splice (cVlt x) 23 [vi .i64 y] = cVlt { x with used := y } := by simp [cVlt, spr]
theorem rd_Vlt_owner (x : Vlt) : rd (some 16) (cVlt x) 24 = some (.agg (dg x.owner)) := by simp [cVlt, rdr]
theorem sp_Vlt_owner (x : Vlt) (y : Bn 16) : splice (cVlt x) 24 (dg y) = cVlt { x with owner := y } := by simp [cVlt, spr]
theorem rd_Vlt_gone (x : Vlt) : rd none (cVlt x) 40 = some (vb x.gone) := by simp [cVlt, rdr]
theorem sp_Vlt_gone (x : Vlt) (y : Bool) : splice (cVlt x) 40 [vb y] = cVlt { x with gone := y } := by simp [cVlt, spr]
theorem rd_Vlt_wiped (x : Vlt) : rd none (cVlt x) 41 = some (vb x.wiped) := by simp [cVlt, rdr]
theorem sp_Vlt_wiped (x : Vlt) (y : Bool) : splice (cVlt x) 41 [vb y] = cVlt { x with wiped := y } := by simp [cVlt, spr]
theorem rd_Vlt (x : Vlt) : rd (some 42) (cVlt x) 0 = some (.agg (cVlt x)) := rd_sE _ _ (cVlt_len x)
theorem sp_Vlt (x y : Vlt) : splice (cVlt x) 0 (cVlt y) = cVlt y := sp_all _ _ (by rw [cVlt_len, cVlt_len])
theorem gVlt_secret_back (x : Vlt) (r : Row) : gVlt_secret x (rowV r) = cVlt { x with secret := r } := rfl
theorem gVlt_secret_len (x : Vlt) (s : V) : (gVlt_secret x s).length = 42 := by simp [gVlt_secret, dg_len]
theorem argG_Vlt_secret {H : Heap} {ids bs : List Nat} (x : Vlt) {s : V} {r : Row} (h : ArgRel H ids bs s (rowV r)) : ArgRelL H ids bs (gVlt_secret x s) (cVlt { x with secret := r }) := by
  exact argL_app (argL_closed _ (dg_closed _)) (argL_cons (arg_closed _ (trivial)) (argL_app (argL_closed _ (dg_closed _)) (argL_cons h (argL_cons (arg_closed _ (trivial)) (argL_cons (arg_closed _ (trivial)) (argL_app (argL_closed _ (dg_closed _)) (argL_cons (arg_closed _ (trivial)) (argL_cons (arg_closed _ (trivial)) argL_nil))))))))
instance (x : Vlt) (s : V) [i : Cl s] : ClL (gVlt_secret x s) := ⟨by have := i.h; simp [gVlt_secret, ClosedL, Closed, dg_closed, row_closed, ints_closed, st_closed, closedL_appI, this]⟩
theorem gVlt_secret_ids (x : Vlt) (s : V) : idsInL (gVlt_secret x s) = idsIn s := by
  simp only [gVlt_secret, idsInL, ids_app, idsL_closed _ (dg_closed _), ids_closed _ (row_closed _), ids_closed _ (ints_closed _ _), idsIn, List.nil_append, List.append_nil]
instance {i o n z : Nat} (x : Vlt) : MemI i (gVlt_secret x (.sref i o n z)) := ⟨by rw [gVlt_secret_ids]; simp [idsIn]⟩
theorem rd_Vlt_id_gsecret (x : Vlt) (s : V) : rd (some 4) (gVlt_secret x s) 0 = some (.agg (dg x.id)) := by simp [gVlt_secret, rdr]
theorem sp_Vlt_id_gsecret (x : Vlt) (s : V) (y : Bn 4) : splice (gVlt_secret x s) 0 (dg y) = gVlt_secret { x with id := y } s := by simp [gVlt_secret, spr]
theorem rd_Vlt_gen_gsecret (x : Vlt) (s : V) : rd none (gVlt_secret x s) 4 = some (vi .u64 x.gen) := by simp [gVlt_secret, rdr]
theorem sp_Vlt_gen_gsecret (x : Vlt) (s : V) (y : Int) : splice (gVlt_secret x s) 4 [vi .u64 y] = gVlt_secret { x with gen := y } s := by simp [gVlt_secret, spr]
theorem rd_Vlt_pin_gsecret (x : Vlt) (s : V) : rd (some 16) (gVlt_secret x s) 5 = some (.agg (dg x.pin)) := by simp [gVlt_secret, rdr]
theorem sp_Vlt_pin_gsecret (x : Vlt) (s : V) (y : Bn 16) : splice (gVlt_secret x s) 5 (dg y) = gVlt_secret { x with pin := y } s := by simp [gVlt_secret, spr]
theorem rd_Vlt_secret_gsecret (x : Vlt) (s : V) : rd none (gVlt_secret x s) 21 = some s := by simp [gVlt_secret, rdr]
theorem sp_Vlt_secret_gsecret (x : Vlt) (s : V) (y : V) : splice (gVlt_secret x s) 21 [y] = gVlt_secret x y := by simp [gVlt_secret, spr]
theorem rd_Vlt_limit_gsecret (x : Vlt) (s : V) : rd none (gVlt_secret x s) 22 = some (vi .i64 x.limit) := by simp [gVlt_secret, rdr]
theorem sp_Vlt_limit_gsecret (x : Vlt) (s : V) (y : Int) : splice (gVlt_secret x s) 22 [vi .i64 y] = gVlt_secret { x with limit := y } s := by simp [gVlt_secret, spr]
theorem rd_Vlt_used_gsecret (x : Vlt) (s : V) : rd none (gVlt_secret x s) 23 = some (vi .i64 x.used) := by simp [gVlt_secret, rdr]
theorem sp_Vlt_used_gsecret (x : Vlt) (s : V) (y : Int) : splice (gVlt_secret x s) 23 [vi .i64 y] = gVlt_secret { x with used := y } s := by simp [gVlt_secret, spr]
theorem rd_Vlt_owner_gsecret (x : Vlt) (s : V) : rd (some 16) (gVlt_secret x s) 24 = some (.agg (dg x.owner)) := by simp [gVlt_secret, rdr]
theorem sp_Vlt_owner_gsecret (x : Vlt) (s : V) (y : Bn 16) : splice (gVlt_secret x s) 24 (dg y) = gVlt_secret { x with owner := y } s := by simp [gVlt_secret, spr]
theorem rd_Vlt_gone_gsecret (x : Vlt) (s : V) : rd none (gVlt_secret x s) 40 = some (vb x.gone) := by simp [gVlt_secret, rdr]
theorem sp_Vlt_gone_gsecret (x : Vlt) (s : V) (y : Bool) : splice (gVlt_secret x s) 40 [vb y] = gVlt_secret { x with gone := y } s := by simp [gVlt_secret, spr]
theorem rd_Vlt_wiped_gsecret (x : Vlt) (s : V) : rd none (gVlt_secret x s) 41 = some (vb x.wiped) := by simp [gVlt_secret, rdr]
theorem sp_Vlt_wiped_gsecret (x : Vlt) (s : V) (y : Bool) : splice (gVlt_secret x s) 41 [vb y] = gVlt_secret { x with wiped := y } s := by simp [gVlt_secret, spr]
theorem rd_Vlt_gsecret (x : Vlt) (s : V) : rd (some 42) (gVlt_secret x s) 0 = some (.agg (gVlt_secret x s)) := rd_sE _ _ (gVlt_secret_len x s)
theorem sp_Vlt_gsecret (x y : Vlt) (s : V) : splice (gVlt_secret x s) 0 (cVlt y) = cVlt y := sp_all _ _ (by rw [gVlt_secret_len, cVlt_len])
theorem sp_Vlt_tosecret (x y : Vlt) (s : V) : splice (cVlt x) 0 (gVlt_secret y s) = gVlt_secret y s := sp_all _ _ (by rw [gVlt_secret_len, cVlt_len])
structure Req where
  op : Int
  id : Bn 4
  pin : Bn 16
  secret : Row
  limit : Int
  owner : Bn 16
  key : Bn 16
  client : Int
  num : Int
def Req.zero : Req := ⟨0, Bn.zero 4, Bn.zero 16, .nil, 0, Bn.zero 16, Bn.zero 16, 0, 0⟩
instance : Inhabited Req := ⟨Req.zero⟩
structure Rpl where
  why : Int
  id : Bn 4
  gen : Int
  left : Int
  secret : Row
  client : Int
  num : Int
def Rpl.zero : Rpl := ⟨0, Bn.zero 4, 0, 0, .nil, 0, 0⟩
instance : Inhabited Rpl := ⟨Rpl.zero⟩
structure Rec where
  kind : Int
  shard : Int
  to : Int
  epoch : Int
  vault : Vlt
  vaults : Lst Vlt
def cRec (x : Rec) : List V := vi .i64 x.kind :: (vi .i64 x.shard :: (vi .i64 x.to :: (vi .u64 x.epoch :: (cVlt x.vault ++ ([lstV cVlt x.vaults])))))
def Rec.zero : Rec := ⟨0, 0, 0, 0, Vlt.zero, .nil⟩
instance : Inhabited Rec := ⟨Rec.zero⟩
def zRec : List Value := [.int .i64 0, .int .i64 0, .int .i64 0, .int .u64 0, .int .u8 0, .int .u8 0, .int .u8 0, .int .u8 0, .int .u64 0, .int .u8 0, .int .u8 0, .int .u8 0, .int .u8 0, .int .u8 0, .int .u8 0, .int .u8 0, .int .u8 0, .int .u8 0, .int .u8 0, .int .u8 0, .int .u8 0, .int .u8 0, .int .u8 0, .int .u8 0, .int .u8 0, .slice none 0 0, .int .i64 0, .int .i64 0, .int .u8 0, .int .u8 0, .int .u8 0, .int .u8 0, .int .u8 0, .int .u8 0, .int .u8 0, .int .u8 0, .int .u8 0, .int .u8 0, .int .u8 0, .int .u8 0, .int .u8 0, .int .u8 0, .int .u8 0, .int .u8 0, .bool false, .bool false, .slice none 0 0]
theorem zRec_sc : zRec.map V.sc = cRec Rec.zero := rfl
theorem cRec_len (x : Rec) : (cRec x).length = 47 := by simp [cRec, dg_len, cVlt_len]
theorem cRec_closed (x : Rec) : ClosedL (cRec x) := by
  simp [cRec, ClosedL, Closed, dg_closed, row_closed, ints_closed, st_closed, closedL_appI, cVlt_closed, lst_closed cVlt cVlt_closed]
instance (x : Rec) : ClL (cRec x) := ⟨cRec_closed x⟩
def gRec_vaults (x : Rec) (s : V) : List V := vi .i64 x.kind :: (vi .i64 x.shard :: (vi .i64 x.to :: (vi .u64 x.epoch :: (cVlt x.vault ++ ([s])))))
theorem rd_Rec_kind (x : Rec) : rd none (cRec x) 0 = some (vi .i64 x.kind) := by simp [cRec, rdr, cVlt_len, rd_Vlt_id, rd_Vlt_pin, rd_Vlt_secret, rd_Vlt_limit, rd_Vlt_used, rd_Vlt_owner, rd_Vlt_wiped, rd_Vlt]
theorem sp_Rec_kind (x : Rec) (y : Int) : splice (cRec x) 0 [vi .i64 y] = cRec { x with kind := y } := by simp [cRec, spr, cVlt_len, sp_Vlt_id, sp_Vlt_pin, sp_Vlt_secret, sp_Vlt_limit, sp_Vlt_used, sp_Vlt_wiped, sp_Vlt]
theorem rd_Rec_shard (x : Rec) : rd none (cRec x) 1 = some (vi .i64 x.shard) := by simp [cRec, rdr, cVlt_len, rd_Vlt_id, rd_Vlt_pin, rd_Vlt_secret, rd_Vlt_limit, rd_Vlt_used, rd_Vlt_owner, rd_Vlt_wiped, rd_Vlt]
theorem sp_Rec_shard (x : Rec) (y : Int) : splice (cRec x) 1 [vi .i64 y] = cRec { x with shard := y } := by simp [cRec, spr, cVlt_len, sp_Vlt_id, sp_Vlt_pin, sp_Vlt_secret, sp_Vlt_limit, sp_Vlt_used, sp_Vlt_wiped, sp_Vlt]
theorem rd_Rec_to (x : Rec) : rd none (cRec x) 2 = some (vi .i64 x.to) := by simp [cRec, rdr, cVlt_len, rd_Vlt_id, rd_Vlt_pin, rd_Vlt_secret, rd_Vlt_limit, rd_Vlt_used, rd_Vlt_owner, rd_Vlt_wiped, rd_Vlt]
theorem sp_Rec_to (x : Rec) (y : Int) : splice (cRec x) 2 [vi .i64 y] = cRec { x with to := y } := by simp [cRec, spr, cVlt_len, sp_Vlt_id, sp_Vlt_pin, sp_Vlt_secret, sp_Vlt_limit, sp_Vlt_used, sp_Vlt_wiped, sp_Vlt]
theorem rd_Rec_epoch (x : Rec) : rd none (cRec x) 3 = some (vi .u64 x.epoch) := by simp [cRec, rdr, cVlt_len, rd_Vlt_id, rd_Vlt_pin, rd_Vlt_secret, rd_Vlt_limit, rd_Vlt_used, rd_Vlt_owner, rd_Vlt_wiped, rd_Vlt]
theorem sp_Rec_epoch (x : Rec) (y : Int) : splice (cRec x) 3 [vi .u64 y] = cRec { x with epoch := y } := by simp [cRec, spr, cVlt_len, sp_Vlt_id, sp_Vlt_pin, sp_Vlt_secret, sp_Vlt_limit, sp_Vlt_used, sp_Vlt_wiped, sp_Vlt]
theorem rd_Rec_vault (x : Rec) : rd (some 42) (cRec x) 4 = some (.agg (cVlt x.vault)) := by simp [cRec, rdr, cVlt_len, rd_Vlt_id, rd_Vlt_pin, rd_Vlt_secret, rd_Vlt_limit, rd_Vlt_used, rd_Vlt_owner, rd_Vlt_wiped, rd_Vlt]
theorem sp_Rec_vault (x : Rec) (y : Vlt) : splice (cRec x) 4 (cVlt y) = cRec { x with vault := y } := by simp [cRec, spr, cVlt_len, sp_Vlt_id, sp_Vlt_pin, sp_Vlt_secret, sp_Vlt_limit, sp_Vlt_used, sp_Vlt_wiped, sp_Vlt]
theorem rd_Rec_vault_id (x : Rec) : rd (some 4) (cRec x) 4 = some (.agg (dg x.vault.id)) := by simp [cRec, rdr, cVlt_len, cVlt, List.append_assoc, rd_Vlt_id, rd_Vlt_pin, rd_Vlt_secret, rd_Vlt_limit, rd_Vlt_used, rd_Vlt_owner, rd_Vlt_wiped, rd_Vlt]
theorem sp_Rec_vault_id (x : Rec) (y : Bn 4) : splice (cRec x) 4 (dg y) = cRec { x with vault := { x.vault with id := y } } := by simp [cRec, spr, cVlt_len, cVlt, List.append_assoc, sp_Vlt_id, sp_Vlt_pin, sp_Vlt_secret, sp_Vlt_limit, sp_Vlt_used, sp_Vlt_wiped, sp_Vlt]
theorem rd_Rec_vault_gen (x : Rec) : rd none (cRec x) 8 = some (vi .u64 x.vault.gen) := by simp [cRec, rdr, cVlt_len, cVlt, List.append_assoc, rd_Vlt_id, rd_Vlt_pin, rd_Vlt_secret, rd_Vlt_limit, rd_Vlt_used, rd_Vlt_owner, rd_Vlt_wiped, rd_Vlt]
theorem sp_Rec_vault_gen (x : Rec) (y : Int) : splice (cRec x) 8 [vi .u64 y] = cRec { x with vault := { x.vault with gen := y } } := by simp [cRec, spr, cVlt_len, cVlt, List.append_assoc, sp_Vlt_id, sp_Vlt_pin, sp_Vlt_secret, sp_Vlt_limit, sp_Vlt_used, sp_Vlt_wiped, sp_Vlt]
theorem rd_Rec_vault_pin (x : Rec) : rd (some 16) (cRec x) 9 = some (.agg (dg x.vault.pin)) := by simp [cRec, rdr, cVlt_len, cVlt, List.append_assoc, rd_Vlt_id, rd_Vlt_pin, rd_Vlt_secret, rd_Vlt_limit, rd_Vlt_used, rd_Vlt_owner, rd_Vlt_wiped, rd_Vlt]
theorem sp_Rec_vault_pin (x : Rec) (y : Bn 16) : splice (cRec x) 9 (dg y) = cRec { x with vault := { x.vault with pin := y } } := by simp [cRec, spr, cVlt_len, cVlt, List.append_assoc, sp_Vlt_id, sp_Vlt_pin, sp_Vlt_secret, sp_Vlt_limit, sp_Vlt_used, sp_Vlt_wiped, sp_Vlt]
theorem rd_Rec_vault_secret (x : Rec) : rd none (cRec x) 25 = some (rowV x.vault.secret) := by simp [cRec, rdr, cVlt_len, cVlt, List.append_assoc, rd_Vlt_id, rd_Vlt_pin, rd_Vlt_secret, rd_Vlt_limit, rd_Vlt_used, rd_Vlt_owner, rd_Vlt_wiped, rd_Vlt]
theorem sp_Rec_vault_secret (x : Rec) (y : Row) : splice (cRec x) 25 [rowV y] = cRec { x with vault := { x.vault with secret := y } } := by simp [cRec, spr, cVlt_len, cVlt, List.append_assoc, sp_Vlt_id, sp_Vlt_pin, sp_Vlt_secret, sp_Vlt_limit, sp_Vlt_used, sp_Vlt_wiped, sp_Vlt]
theorem sp_Rec_vault_secret_nil (x : Rec) : splice (cRec x) 25 [.sc (.slice none 0 0)] = cRec { x with vault := { x.vault with secret := .nil } } := by simpa [rowV, intsV, lstV] using sp_Rec_vault_secret x .nil
theorem rd_Rec_vault_limit (x : Rec) : rd none (cRec x) 26 = some (vi .i64 x.vault.limit) := by simp [cRec, rdr, cVlt_len, cVlt, List.append_assoc, rd_Vlt_id, rd_Vlt_pin, rd_Vlt_secret, rd_Vlt_limit, rd_Vlt_used, rd_Vlt_owner, rd_Vlt_wiped, rd_Vlt]
theorem sp_Rec_vault_limit (x : Rec) (y : Int) : splice (cRec x) 26 [vi .i64 y] = cRec { x with vault := { x.vault with limit := y } } := by simp [cRec, spr, cVlt_len, cVlt, List.append_assoc, sp_Vlt_id, sp_Vlt_pin, sp_Vlt_secret, sp_Vlt_limit, sp_Vlt_used, sp_Vlt_wiped, sp_Vlt]
theorem rd_Rec_vault_used (x : Rec) : rd none (cRec x) 27 = some (vi .i64 x.vault.used) := by simp [cRec, rdr, cVlt_len, cVlt, List.append_assoc, rd_Vlt_id, rd_Vlt_pin, rd_Vlt_secret, rd_Vlt_limit, rd_Vlt_used, rd_Vlt_owner, rd_Vlt_wiped, rd_Vlt]
theorem sp_Rec_vault_used (x : Rec) (y : Int) : splice (cRec x) 27 [vi .i64 y] = cRec { x with vault := { x.vault with used := y } } := by simp [cRec, spr, cVlt_len, cVlt, List.append_assoc, sp_Vlt_id, sp_Vlt_pin, sp_Vlt_secret, sp_Vlt_limit, sp_Vlt_used, sp_Vlt_wiped, sp_Vlt]
theorem rd_Rec_vault_owner (x : Rec) : rd (some 16) (cRec x) 28 = some (.agg (dg x.vault.owner)) := by simp [cRec, rdr, cVlt_len, cVlt, List.append_assoc, rd_Vlt_id, rd_Vlt_pin, rd_Vlt_secret, rd_Vlt_limit, rd_Vlt_used, rd_Vlt_owner, rd_Vlt_wiped, rd_Vlt]
theorem sp_Rec_vault_owner (x : Rec) (y : Bn 16) : splice (cRec x) 28 (dg y) = cRec { x with vault := { x.vault with owner := y } } := by simp [cRec, spr, cVlt_len, cVlt, List.append_assoc, sp_Vlt_id, sp_Vlt_pin, sp_Vlt_secret, sp_Vlt_limit, sp_Vlt_used, sp_Vlt_wiped, sp_Vlt]
theorem rd_Rec_vault_gone (x : Rec) : rd none (cRec x) 44 = some (vb x.vault.gone) := by simp [cRec, rdr, cVlt_len, cVlt, List.append_assoc, rd_Vlt_id, rd_Vlt_pin, rd_Vlt_secret, rd_Vlt_limit, rd_Vlt_used, rd_Vlt_owner, rd_Vlt_wiped, rd_Vlt]
theorem sp_Rec_vault_gone (x : Rec) (y : Bool) : splice (cRec x) 44 [vb y] = cRec { x with vault := { x.vault with gone := y } } := by simp [cRec, spr, cVlt_len, cVlt, List.append_assoc, sp_Vlt_id, sp_Vlt_pin, sp_Vlt_secret, sp_Vlt_limit, sp_Vlt_used, sp_Vlt_wiped, sp_Vlt]
theorem rd_Rec_vault_wiped (x : Rec) : rd none (cRec x) 45 = some (vb x.vault.wiped) := by simp [cRec, rdr, cVlt_len, cVlt, List.append_assoc, rd_Vlt_id, rd_Vlt_pin, rd_Vlt_secret, rd_Vlt_limit, rd_Vlt_used, rd_Vlt_owner, rd_Vlt_wiped, rd_Vlt]
theorem sp_Rec_vault_wiped (x : Rec) (y : Bool) : splice (cRec x) 45 [vb y] = cRec { x with vault := { x.vault with wiped := y } } := by simp [cRec, spr, cVlt_len, cVlt, List.append_assoc, sp_Vlt_id, sp_Vlt_pin, sp_Vlt_secret, sp_Vlt_limit, sp_Vlt_used, sp_Vlt_wiped, sp_Vlt]
theorem rd_Rec_vaults (x : Rec) : rd none (cRec x) 46 = some (lstV cVlt x.vaults) := by simp [cRec, rdr, cVlt_len, rd_Vlt_id, rd_Vlt_pin, rd_Vlt_secret, rd_Vlt_limit, rd_Vlt_used, rd_Vlt_owner, rd_Vlt_wiped, rd_Vlt]
theorem sp_Rec_vaults (x : Rec) (y : Lst Vlt) : splice (cRec x) 46 [lstV cVlt y] = cRec { x with vaults := y } := by simp [cRec, spr, cVlt_len, sp_Vlt_id, sp_Vlt_pin, sp_Vlt_secret, sp_Vlt_limit, sp_Vlt_used, sp_Vlt_wiped, sp_Vlt]
theorem sp_Rec_vaults_own (x : Rec) (i f m z : Nat) : splice (cRec x) 46 [.sref i f m z] = gRec_vaults x (.sref i f m z) := by simp [cRec, spr, cVlt_len, gRec_vaults]
theorem sp_Rec_vaults_nil (x : Rec) : splice (cRec x) 46 [.sc (.slice none 0 0)] = cRec { x with vaults := .nil } := by simpa [rowV, intsV, lstV] using sp_Rec_vaults x .nil
theorem rd_Rec (x : Rec) : rd (some 47) (cRec x) 0 = some (.agg (cRec x)) := rd_sE _ _ (cRec_len x)
theorem sp_Rec (x y : Rec) : splice (cRec x) 0 (cRec y) = cRec y := sp_all _ _ (by rw [cRec_len, cRec_len])
theorem gRec_vaults_back (x : Rec) (r : Lst Vlt) : gRec_vaults x (lstV cVlt r) = cRec { x with vaults := r } := rfl
theorem gRec_vaults_len (x : Rec) (s : V) : (gRec_vaults x s).length = 47 := by simp [gRec_vaults, dg_len, cVlt_len]
theorem argG_Rec_vaults {H : Heap} {ids bs : List Nat} (x : Rec) {s : V} {r : Lst Vlt} (h : ArgRel H ids bs s (lstV cVlt r)) : ArgRelL H ids bs (gRec_vaults x s) (cRec { x with vaults := r }) := by
  exact argL_cons (arg_closed _ (trivial)) (argL_cons (arg_closed _ (trivial)) (argL_cons (arg_closed _ (trivial)) (argL_cons (arg_closed _ (trivial)) (argL_app (argL_closed _ (cVlt_closed _)) (argL_cons h argL_nil)))))
instance (x : Rec) (s : V) [i : Cl s] : ClL (gRec_vaults x s) := ⟨by have := i.h; simp [gRec_vaults, ClosedL, Closed, dg_closed, row_closed, ints_closed, st_closed, closedL_appI, this, cVlt_closed, lst_closed cVlt cVlt_closed]⟩
theorem gRec_vaults_ids (x : Rec) (s : V) : idsInL (gRec_vaults x s) = idsIn s := by
  simp only [gRec_vaults, idsInL, ids_app, idsL_closed _ (dg_closed _), cVlt_ids, ids_closed _ (row_closed _), ids_closed _ (ints_closed _ _), ids_closed _ (lst_closed cVlt cVlt_closed _), idsIn, List.nil_append, List.append_nil]
instance {i o n z : Nat} (x : Rec) : MemI i (gRec_vaults x (.sref i o n z)) := ⟨by rw [gRec_vaults_ids]; simp [idsIn]⟩
theorem rd_Rec_kind_gvaults (x : Rec) (s : V) : rd none (gRec_vaults x s) 0 = some (vi .i64 x.kind) := by simp [gRec_vaults, rdr, cVlt_len, rd_Vlt_id, rd_Vlt_pin, rd_Vlt_secret, rd_Vlt_limit, rd_Vlt_used, rd_Vlt_owner, rd_Vlt_wiped, rd_Vlt]
theorem sp_Rec_kind_gvaults (x : Rec) (s : V) (y : Int) : splice (gRec_vaults x s) 0 [vi .i64 y] = gRec_vaults { x with kind := y } s := by simp [gRec_vaults, spr, cVlt_len, sp_Vlt_id, sp_Vlt_pin, sp_Vlt_secret, sp_Vlt_limit, sp_Vlt_used, sp_Vlt_wiped, sp_Vlt]
theorem rd_Rec_shard_gvaults (x : Rec) (s : V) : rd none (gRec_vaults x s) 1 = some (vi .i64 x.shard) := by simp [gRec_vaults, rdr, cVlt_len, rd_Vlt_id, rd_Vlt_pin, rd_Vlt_secret, rd_Vlt_limit, rd_Vlt_used, rd_Vlt_owner, rd_Vlt_wiped, rd_Vlt]
theorem sp_Rec_shard_gvaults (x : Rec) (s : V) (y : Int) : splice (gRec_vaults x s) 1 [vi .i64 y] = gRec_vaults { x with shard := y } s := by simp [gRec_vaults, spr, cVlt_len, sp_Vlt_id, sp_Vlt_pin, sp_Vlt_secret, sp_Vlt_limit, sp_Vlt_used, sp_Vlt_wiped, sp_Vlt]
theorem rd_Rec_to_gvaults (x : Rec) (s : V) : rd none (gRec_vaults x s) 2 = some (vi .i64 x.to) := by simp [gRec_vaults, rdr, cVlt_len, rd_Vlt_id, rd_Vlt_pin, rd_Vlt_secret, rd_Vlt_limit, rd_Vlt_used, rd_Vlt_owner, rd_Vlt_wiped, rd_Vlt]
theorem sp_Rec_to_gvaults (x : Rec) (s : V) (y : Int) : splice (gRec_vaults x s) 2 [vi .i64 y] = gRec_vaults { x with to := y } s := by simp [gRec_vaults, spr, cVlt_len, sp_Vlt_id, sp_Vlt_pin, sp_Vlt_secret, sp_Vlt_limit, sp_Vlt_used, sp_Vlt_wiped, sp_Vlt]
theorem rd_Rec_epoch_gvaults (x : Rec) (s : V) : rd none (gRec_vaults x s) 3 = some (vi .u64 x.epoch) := by simp [gRec_vaults, rdr, cVlt_len, rd_Vlt_id, rd_Vlt_pin, rd_Vlt_secret, rd_Vlt_limit, rd_Vlt_used, rd_Vlt_owner, rd_Vlt_wiped, rd_Vlt]
theorem sp_Rec_epoch_gvaults (x : Rec) (s : V) (y : Int) : splice (gRec_vaults x s) 3 [vi .u64 y] = gRec_vaults { x with epoch := y } s := by simp [gRec_vaults, spr, cVlt_len, sp_Vlt_id, sp_Vlt_pin, sp_Vlt_secret, sp_Vlt_limit, sp_Vlt_used, sp_Vlt_wiped, sp_Vlt]
theorem rd_Rec_vault_gvaults (x : Rec) (s : V) : rd (some 42) (gRec_vaults x s) 4 = some (.agg (cVlt x.vault)) := by simp [gRec_vaults, rdr, cVlt_len, rd_Vlt_id, rd_Vlt_pin, rd_Vlt_secret, rd_Vlt_limit, rd_Vlt_used, rd_Vlt_owner, rd_Vlt_wiped, rd_Vlt]
theorem sp_Rec_vault_gvaults (x : Rec) (s : V) (y : Vlt) : splice (gRec_vaults x s) 4 (cVlt y) = gRec_vaults { x with vault := y } s := by simp [gRec_vaults, spr, cVlt_len, sp_Vlt_id, sp_Vlt_pin, sp_Vlt_secret, sp_Vlt_limit, sp_Vlt_used, sp_Vlt_wiped, sp_Vlt]
theorem rd_Rec_vault_id_gvaults (x : Rec) (s : V) : rd (some 4) (gRec_vaults x s) 4 = some (.agg (dg x.vault.id)) := by simp [gRec_vaults, rdr, cVlt_len, cVlt, List.append_assoc, rd_Vlt_id, rd_Vlt_pin, rd_Vlt_secret, rd_Vlt_limit, rd_Vlt_used, rd_Vlt_owner, rd_Vlt_wiped, rd_Vlt]
theorem sp_Rec_vault_id_gvaults (x : Rec) (s : V) (y : Bn 4) : splice (gRec_vaults x s) 4 (dg y) = gRec_vaults { x with vault := { x.vault with id := y } } s := by simp [gRec_vaults, spr, cVlt_len, cVlt, List.append_assoc, sp_Vlt_id, sp_Vlt_pin, sp_Vlt_secret, sp_Vlt_limit, sp_Vlt_used, sp_Vlt_wiped, sp_Vlt]
theorem rd_Rec_vault_gen_gvaults (x : Rec) (s : V) : rd none (gRec_vaults x s) 8 = some (vi .u64 x.vault.gen) := by simp [gRec_vaults, rdr, cVlt_len, cVlt, List.append_assoc, rd_Vlt_id, rd_Vlt_pin, rd_Vlt_secret, rd_Vlt_limit, rd_Vlt_used, rd_Vlt_owner, rd_Vlt_wiped, rd_Vlt]
theorem sp_Rec_vault_gen_gvaults (x : Rec) (s : V) (y : Int) : splice (gRec_vaults x s) 8 [vi .u64 y] = gRec_vaults { x with vault := { x.vault with gen := y } } s := by simp [gRec_vaults, spr, cVlt_len, cVlt, List.append_assoc, sp_Vlt_id, sp_Vlt_pin, sp_Vlt_secret, sp_Vlt_limit, sp_Vlt_used, sp_Vlt_wiped, sp_Vlt]
theorem rd_Rec_vault_pin_gvaults (x : Rec) (s : V) : rd (some 16) (gRec_vaults x s) 9 = some (.agg (dg x.vault.pin)) := by simp [gRec_vaults, rdr, cVlt_len, cVlt, List.append_assoc, rd_Vlt_id, rd_Vlt_pin, rd_Vlt_secret, rd_Vlt_limit, rd_Vlt_used, rd_Vlt_owner, rd_Vlt_wiped, rd_Vlt]
theorem sp_Rec_vault_pin_gvaults (x : Rec) (s : V) (y : Bn 16) : splice (gRec_vaults x s) 9 (dg y) = gRec_vaults { x with vault := { x.vault with pin := y } } s := by simp [gRec_vaults, spr, cVlt_len, cVlt, List.append_assoc, sp_Vlt_id, sp_Vlt_pin, sp_Vlt_secret, sp_Vlt_limit, sp_Vlt_used, sp_Vlt_wiped, sp_Vlt]
theorem rd_Rec_vault_secret_gvaults (x : Rec) (s : V) : rd none (gRec_vaults x s) 25 = some (rowV x.vault.secret) := by simp [gRec_vaults, rdr, cVlt_len, cVlt, List.append_assoc, rd_Vlt_id, rd_Vlt_pin, rd_Vlt_secret, rd_Vlt_limit, rd_Vlt_used, rd_Vlt_owner, rd_Vlt_wiped, rd_Vlt]
theorem sp_Rec_vault_secret_gvaults (x : Rec) (s : V) (y : Row) : splice (gRec_vaults x s) 25 [rowV y] = gRec_vaults { x with vault := { x.vault with secret := y } } s := by simp [gRec_vaults, spr, cVlt_len, cVlt, List.append_assoc, sp_Vlt_id, sp_Vlt_pin, sp_Vlt_secret, sp_Vlt_limit, sp_Vlt_used, sp_Vlt_wiped, sp_Vlt]
theorem sp_Rec_vault_secret_gvaults_nil (x : Rec) (s : V) : splice (gRec_vaults x s) 25 [.sc (.slice none 0 0)] = gRec_vaults { x with vault := { x.vault with secret := .nil } } s := by simpa [rowV, intsV, lstV] using sp_Rec_vault_secret_gvaults x s .nil
theorem rd_Rec_vault_limit_gvaults (x : Rec) (s : V) : rd none (gRec_vaults x s) 26 = some (vi .i64 x.vault.limit) := by simp [gRec_vaults, rdr, cVlt_len, cVlt, List.append_assoc, rd_Vlt_id, rd_Vlt_pin, rd_Vlt_secret, rd_Vlt_limit, rd_Vlt_used, rd_Vlt_owner, rd_Vlt_wiped, rd_Vlt]
theorem sp_Rec_vault_limit_gvaults (x : Rec) (s : V) (y : Int) : splice (gRec_vaults x s) 26 [vi .i64 y] = gRec_vaults { x with vault := { x.vault with limit := y } } s := by simp [gRec_vaults, spr, cVlt_len, cVlt, List.append_assoc, sp_Vlt_id, sp_Vlt_pin, sp_Vlt_secret, sp_Vlt_limit, sp_Vlt_used, sp_Vlt_wiped, sp_Vlt]
theorem rd_Rec_vault_used_gvaults (x : Rec) (s : V) : rd none (gRec_vaults x s) 27 = some (vi .i64 x.vault.used) := by simp [gRec_vaults, rdr, cVlt_len, cVlt, List.append_assoc, rd_Vlt_id, rd_Vlt_pin, rd_Vlt_secret, rd_Vlt_limit, rd_Vlt_used, rd_Vlt_owner, rd_Vlt_wiped, rd_Vlt]
theorem sp_Rec_vault_used_gvaults (x : Rec) (s : V) (y : Int) : splice (gRec_vaults x s) 27 [vi .i64 y] = gRec_vaults { x with vault := { x.vault with used := y } } s := by simp [gRec_vaults, spr, cVlt_len, cVlt, List.append_assoc, sp_Vlt_id, sp_Vlt_pin, sp_Vlt_secret, sp_Vlt_limit, sp_Vlt_used, sp_Vlt_wiped, sp_Vlt]
theorem rd_Rec_vault_owner_gvaults (x : Rec) (s : V) : rd (some 16) (gRec_vaults x s) 28 = some (.agg (dg x.vault.owner)) := by simp [gRec_vaults, rdr, cVlt_len, cVlt, List.append_assoc, rd_Vlt_id, rd_Vlt_pin, rd_Vlt_secret, rd_Vlt_limit, rd_Vlt_used, rd_Vlt_owner, rd_Vlt_wiped, rd_Vlt]
theorem sp_Rec_vault_owner_gvaults (x : Rec) (s : V) (y : Bn 16) : splice (gRec_vaults x s) 28 (dg y) = gRec_vaults { x with vault := { x.vault with owner := y } } s := by simp [gRec_vaults, spr, cVlt_len, cVlt, List.append_assoc, sp_Vlt_id, sp_Vlt_pin, sp_Vlt_secret, sp_Vlt_limit, sp_Vlt_used, sp_Vlt_wiped, sp_Vlt]
theorem rd_Rec_vault_gone_gvaults (x : Rec) (s : V) : rd none (gRec_vaults x s) 44 = some (vb x.vault.gone) := by simp [gRec_vaults, rdr, cVlt_len, cVlt, List.append_assoc, rd_Vlt_id, rd_Vlt_pin, rd_Vlt_secret, rd_Vlt_limit, rd_Vlt_used, rd_Vlt_owner, rd_Vlt_wiped, rd_Vlt]
theorem sp_Rec_vault_gone_gvaults (x : Rec) (s : V) (y : Bool) : splice (gRec_vaults x s) 44 [vb y] = gRec_vaults { x with vault := { x.vault with gone := y } } s := by simp [gRec_vaults, spr, cVlt_len, cVlt, List.append_assoc, sp_Vlt_id, sp_Vlt_pin, sp_Vlt_secret, sp_Vlt_limit, sp_Vlt_used, sp_Vlt_wiped, sp_Vlt]
theorem rd_Rec_vault_wiped_gvaults (x : Rec) (s : V) : rd none (gRec_vaults x s) 45 = some (vb x.vault.wiped) := by simp [gRec_vaults, rdr, cVlt_len, cVlt, List.append_assoc, rd_Vlt_id, rd_Vlt_pin, rd_Vlt_secret, rd_Vlt_limit, rd_Vlt_used, rd_Vlt_owner, rd_Vlt_wiped, rd_Vlt]
theorem sp_Rec_vault_wiped_gvaults (x : Rec) (s : V) (y : Bool) : splice (gRec_vaults x s) 45 [vb y] = gRec_vaults { x with vault := { x.vault with wiped := y } } s := by simp [gRec_vaults, spr, cVlt_len, cVlt, List.append_assoc, sp_Vlt_id, sp_Vlt_pin, sp_Vlt_secret, sp_Vlt_limit, sp_Vlt_used, sp_Vlt_wiped, sp_Vlt]
theorem rd_Rec_vaults_gvaults (x : Rec) (s : V) : rd none (gRec_vaults x s) 46 = some s := by simp [gRec_vaults, rdr, cVlt_len]
theorem sp_Rec_vaults_gvaults (x : Rec) (s : V) (y : V) : splice (gRec_vaults x s) 46 [y] = gRec_vaults x y := by simp [gRec_vaults, spr, cVlt_len]
theorem rd_Rec_gvaults (x : Rec) (s : V) : rd (some 47) (gRec_vaults x s) 0 = some (.agg (gRec_vaults x s)) := rd_sE _ _ (gRec_vaults_len x s)
theorem sp_Rec_gvaults (x y : Rec) (s : V) : splice (gRec_vaults x s) 0 (cRec y) = cRec y := sp_all _ _ (by rw [gRec_vaults_len, cRec_len])
theorem sp_Rec_tovaults (x y : Rec) (s : V) : splice (cRec x) 0 (gRec_vaults y s) = gRec_vaults y s := sp_all _ _ (by rw [gRec_vaults_len, cRec_len])
structure Rd where
  b : Row
  bad : Bool
def cRd (x : Rd) : List V := rowV x.b :: ([vb x.bad])
def Rd.zero : Rd := ⟨.nil, false⟩
instance : Inhabited Rd := ⟨Rd.zero⟩
def zRd : List Value := [.slice none 0 0, .bool false]
theorem zRd_sc : zRd.map V.sc = cRd Rd.zero := rfl
theorem cRd_len (x : Rd) : (cRd x).length = 2 := by simp [cRd, dg_len]
theorem cRd_closed (x : Rd) : ClosedL (cRd x) := by
  simp [cRd, ClosedL, Closed, dg_closed, row_closed, ints_closed, st_closed, closedL_appI]
instance (x : Rd) : ClL (cRd x) := ⟨cRd_closed x⟩
theorem rd_Rd_b (x : Rd) : rd none (cRd x) 0 = some (rowV x.b) := by simp [cRd, rdr]
theorem sp_Rd_b (x : Rd) (y : Row) : splice (cRd x) 0 [rowV y] = cRd { x with b := y } := by simp [cRd, spr]
theorem sp_Rd_b_nil (x : Rd) : splice (cRd x) 0 [.sc (.slice none 0 0)] = cRd { x with b := .nil } := by simpa [rowV, intsV, lstV] using sp_Rd_b x .nil
theorem rd_Rd_bad (x : Rd) : rd none (cRd x) 1 = some (vb x.bad) := by simp [cRd, rdr]
theorem sp_Rd_bad (x : Rd) (y : Bool) : splice (cRd x) 1 [vb y] = cRd { x with bad := y } := by simp [cRd, spr]
theorem rd_Rd (x : Rd) : rd (some 2) (cRd x) 0 = some (.agg (cRd x)) := rd_sE _ _ (cRd_len x)
theorem sp_Rd (x y : Rd) : splice (cRd x) 0 (cRd y) = cRd y := sp_all _ _ (by rw [cRd_len, cRd_len])
set_option linter.defProp false in
def lr_api := an (an (an (an (an (an (an @zVlt_sc @cVlt_len) (an @gVlt_secret_len @rd_Vlt_id)) (an (an @rd_Vlt_gen @rd_Vlt_pin) (an @rd_Vlt_secret @rd_Vlt_limit))) (an (an (an @rd_Vlt_used @rd_Vlt_owner) (an @rd_Vlt_gone @rd_Vlt_wiped)) (an (an @rd_Vlt @gVlt_secret_back) (an @rd_Vlt_id_gsecret @rd_Vlt_gen_gsecret)))) (an (an (an (an @rd_Vlt_pin_gsecret @rd_Vlt_secret_gsecret) (an @rd_Vlt_limit_gsecret @rd_Vlt_used_gsecret)) (an (an @rd_Vlt_owner_gsecret @rd_Vlt_gone_gsecret) (an @rd_Vlt_wiped_gsecret @rd_Vlt_gsecret))) (an (an (an @sp_Vlt_id @sp_Vlt_gen) (an @sp_Vlt_pin @sp_Vlt_secret_own)) (an (an @sp_Vlt_secret_nil @sp_Vlt_secret) (an @sp_Vlt_limit @sp_Vlt_used))))) (an (an (an (an (an @sp_Vlt_owner @sp_Vlt_gone) (an @sp_Vlt_wiped @sp_Vlt)) (an (an @sp_Vlt_id_gsecret @sp_Vlt_gen_gsecret) (an @sp_Vlt_pin_gsecret @sp_Vlt_secret_gsecret))) (an (an (an @sp_Vlt_limit_gsecret @sp_Vlt_used_gsecret) (an @sp_Vlt_owner_gsecret @sp_Vlt_gone_gsecret)) (an (an @sp_Vlt_wiped_gsecret @sp_Vlt_gsecret) (an @sp_Vlt_tosecret @zRec_sc)))) (an (an (an (an @cRec_len @gRec_vaults_len) (an @rd_Rec_kind @rd_Rec_shard)) (an (an @rd_Rec_to @rd_Rec_epoch) (an @rd_Rec_vault @rd_Rec_vault_id))) (an (an (an @rd_Rec_vault_gen @rd_Rec_vault_pin) (an @rd_Rec_vault_secret @rd_Rec_vault_limit)) (an (an @rd_Rec_vault_used @rd_Rec_vault_owner) (an @rd_Rec_vault_gone @rd_Rec_vault_wiped)))))) (an (an (an (an (an (an @rd_Rec_vaults @rd_Rec) (an @gRec_vaults_back @rd_Rec_kind_gvaults)) (an (an @rd_Rec_shard_gvaults @rd_Rec_to_gvaults) (an @rd_Rec_epoch_gvaults @rd_Rec_vault_gvaults))) (an (an (an @rd_Rec_vault_id_gvaults @rd_Rec_vault_gen_gvaults) (an @rd_Rec_vault_pin_gvaults @rd_Rec_vault_secret_gvaults)) (an (an @rd_Rec_vault_limit_gvaults @rd_Rec_vault_used_gvaults) (an @rd_Rec_vault_owner_gvaults @rd_Rec_vault_gone_gvaults)))) (an (an (an (an @rd_Rec_vault_wiped_gvaults @rd_Rec_vaults_gvaults) (an @rd_Rec_gvaults @sp_Rec_kind)) (an (an @sp_Rec_shard @sp_Rec_to) (an @sp_Rec_epoch @sp_Rec_vault))) (an (an (an @sp_Rec_vault_id @sp_Rec_vault_gen) (an @sp_Rec_vault_pin @sp_Rec_vault_secret_nil)) (an (an @sp_Rec_vault_secret @sp_Rec_vault_limit) (an @sp_Rec_vault_used @sp_Rec_vault_owner))))) (an (an (an (an (an @sp_Rec_vault_gone @sp_Rec_vault_wiped) (an @sp_Rec_vaults_own @sp_Rec_vaults_nil)) (an (an @sp_Rec_vaults @sp_Rec) (an @sp_Rec_kind_gvaults @sp_Rec_shard_gvaults))) (an (an (an @sp_Rec_to_gvaults @sp_Rec_epoch_gvaults) (an @sp_Rec_vault_gvaults @sp_Rec_vault_id_gvaults)) (an (an @sp_Rec_vault_gen_gvaults @sp_Rec_vault_pin_gvaults) (an @sp_Rec_vault_secret_gvaults_nil @sp_Rec_vault_secret_gvaults)))) (an (an (an (an @sp_Rec_vault_limit_gvaults @sp_Rec_vault_used_gvaults) (an @sp_Rec_vault_owner_gvaults @sp_Rec_vault_gone_gvaults)) (an (an @sp_Rec_vault_wiped_gvaults @sp_Rec_vaults_gvaults) (an @sp_Rec_gvaults @sp_Rec_tovaults))) (an (an (an @zRd_sc @cRd_len) (an @rd_Rd_b @rd_Rd_bad)) (an (an @rd_Rd @sp_Rd_b_nil) (an @sp_Rd_b (an @sp_Rd_bad @sp_Rd)))))))
end Go.Proofs.YtfpoebmihjbknaaGreat.VA

/- The compact code of codec. -/
set_option linter.unusedVariables false
set_option maxRecDepth 100000
namespace Go.Proofs.YtfpoebmihjbknaaGreat.VA
open Go
noncomputable section
def A_codec_RightVault : ACode := (.seq (rg [oO 1 (.box (.t 0)), oO 2 (.mov (.c (.bool false)))]) (.seq (.block 0 (.seq (rg [oF 4 4 1, oL 5 4, oO 6 (.bin .lss (.t 5) (.c (.int .u64 1))), oM 7 6, oG 8 (.fieldAddr 4 (.t 1)) 7 false, oG 9 (.load none (.t 8)) 7 false, oG 10 (.bin .gtr (.t 9) (.c (.int .u64 1099511627776))) 7 false, oO 11 (.pick (.t 7) (.c (.bool true)) (.t 10)), oM 3 11]) (.cond (.t 3) (.seq (rg [oO 2 (.mov (.c (.bool false)))]) .ret) (.seq (rg [oF 13 40 1, oL 14 13, oM 12 14]) (.cond (.t 12) (.seq (rg [oF 15 5 1, oO 16 (.load (some 16) (.t 15)), oO 17 (.build z16 []), oO 18 (.eqA false sh16 (.t 16) (.t 17)), oM 19 18, oG 20 (.fieldAddr 24 (.t 1)) 19 true, oG 21 (.load (some 16) (.t 20)) 19 true, oG 22 (.build z16 []) 19 true, oG 23 (.eqA false sh16 (.t 21) (.t 22)) 19 true, oO 24 (.pick (.t 19) (.t 23) (.c (.bool false))), oM 25 24, oG 26 (.fieldAddr 21 (.t 1)) 25 true, oG 27 (.load none (.t 26)) 25 true, oG 28 (.lenSl (.t 27)) 25 true, oG 29 (.bin .eql (.t 28) (ci 0)) 25 true, oO 30 (.pick (.t 25) (.t 29) (.c (.bool false))), oM 31 30, oG 32 (.fieldAddr 22 (.t 1)) 31 true, oG 33 (.load none (.t 32)) 31 true, oG 34 (.bin .eql (.t 33) (ci 0)) 31 true, oO 35 (.pick (.t 31) (.t 34) (.c (.bool false))), oM 36 35, oG 37 (.fieldAddr 23 (.t 1)) 36 true, oG 38 (.load none (.t 37)) 36 true, oG 39 (.bin .eql (.t 38) (ci 0)) 36 true, oO 40 (.pick (.t 36) (.t 39) (.c (.bool false))), oM 2 40]) .ret) .skip))))) (.seq (rg [oF 41 41 1, oL 42 41, oO 43 (.un .not (.t 42)), oM 44 43, oG 45 (.fieldAddr 22 (.t 1)) 44 true, oG 46 (.load none (.t 45)) 44 true, oG 47 (.bin .geq (.t 46) (ci 1)) 44 true, oO 48 (.pick (.t 44) (.t 47) (.c (.bool false))), oM 49 48, oG 50 (.fieldAddr 22 (.t 1)) 49 true, oG 51 (.load none (.t 50)) 49 true, oG 52 (.bin .leq (.t 51) (ci 32)) 49 true, oO 53 (.pick (.t 49) (.t 52) (.c (.bool false))), oM 54 53, oG 55 (.fieldAddr 23 (.t 1)) 54 true, oG 56 (.load none (.t 55)) 54 true, oG 57 (.bin .geq (.t 56) (ci 0)) 54 true, oO 58 (.pick (.t 54) (.t 57) (.c (.bool false))), oM 59 58, oG 60 (.fieldAddr 23 (.t 1)) 59 true, oG 61 (.load none (.t 60)) 59 true, oG 62 (.fieldAddr 22 (.t 1)) 59 true, oG 63 (.load none (.t 62)) 59 true, oG 64 (.bin .lss (.t 61) (.t 63)) 59 true, oO 65 (.pick (.t 59) (.t 64) (.c (.bool false))), oM 66 65, oG 67 (.fieldAddr 21 (.t 1)) 66 true, oG 68 (.load none (.t 67)) 66 true, oG 69 (.lenSl (.t 68)) 66 true, oG 70 (.bin .leq (.t 69) (ci 64)) 66 true, oO 71 (.pick (.t 66) (.t 70) (.c (.bool false))), oM 2 71]) .ret)))
theorem A_codec_RightVault_ok : Tryz.f77.body.bind (cCode Tryz.prog) = some A_codec_RightVault := by kernel_rfl
theorem A_codec_RightVault_res : cRes Tryz.prog Tryz.f77.results.toList = some [(.tmp 2)] := by kernel_rfl
theorem A_codec_RightVault_nt : Tryz.f77.ntmps = 72 := by kernel_rfl
def A_codec_rising_L0 : ACode := (.seq (rg [oO 11 (.bin .lss (.t 10) (.t 9))]) (.seq (.cond (.t 11) .skip (.exit 0)) (.seq (.block 1 (.seq (rg [oM 12 10, oO 13 (.idxSl 42 (.t 8) (.t 10)), oO 14 (.load (some 42) (.t 13)), oO 4 (.alloc zVlt), oM 3 12, oN (.store 42 (.t 4) (.t 14))]) (.seq (rg [oO 15 (.load (some 42) (.t 4)), oO 16 (.call 77 [(.t 15)]), oO 17 (.un .not (.t 16)), oM 18 17, oG 19 (.mov (.t 3)) 18 false, oG 20 (.bin .gtr (.t 19) (ci 0)) 18 false, oG 21 (.mov (.t 20)) 18 false, oG 22 (.mov (.t 0)) 21 true, oG 23 (.mov (.t 3)) 21 true, oG 24 (.bin .sub (.t 23) (ci 1)) 21 true, oG 25 (.idxSl 42 (.t 22) (.t 24)) 21 true, oG 26 (.fieldAddr 0 (.t 25)) 21 true, oG 27 (.sliceArr 4 1 (.t 26) none none) 21 true, oG 28 (.fieldAddr 0 (.t 4)) 21 true, oG 29 (.sliceArr 4 1 (.t 28) none none) 21 true, oG 30 (.call 94 [(.t 27), (.t 29)]) 21 true, oG 31 (.bin .geq (.t 30) (ci 0)) 21 true, oG 32 (.pick (.t 21) (.t 31) (.c (.bool false))) 18 false, oO 33 (.pick (.t 18) (.c (.bool true)) (.t 32))]) (.cond (.t 33) (.seq (rg [oO 2 (.mov (.c (.bool false)))]) .ret) .skip)))) (rg [oO 34 (.bin .add (.t 10) (ci 1)), oM 10 34]))))
def A_codec_rising : ACode := (.seq (rg [oO 2 (.mov (.c (.bool false)))]) (.seq (.seq (rg [oM 5 0, oO 6 (.lenSl (.t 5)), oO 7 (.bin .gtr (.t 6) (ci 4))]) (.cond (.t 7) (.seq (rg [oO 2 (.mov (.c (.bool false)))]) .ret) .skip)) (.seq (.seq (rg [oM 8 0, oO 9 (.lenSl (.t 8)), oO 10 (.mov (ci 0))]) (.block 0 (.loop A_codec_rising_L0))) (.seq (rg [oO 2 (.mov (.c (.bool true)))]) .ret))))
def K_codec_rising_L0 : Kt := (.blk 0 (.seq (.seq (rg [oO 2 (.mov (.c (.bool true)))]) .ret) .fin))
theorem A_codec_rising_ok : Tryz.f78.body.bind (cCode Tryz.prog) = some A_codec_rising := by kernel_rfl
theorem A_codec_rising_res : cRes Tryz.prog Tryz.f78.results.toList = some [(.tmp 2)] := by kernel_rfl
theorem A_codec_rising_nt : Tryz.f78.ntmps = 35 := by kernel_rfl
def A_codec_none : ACode := (.seq (rg [oO 1 (.box (.t 0)), oO 2 (.mov (.c (.bool false)))]) (.seq (rg [oO 3 (.load (some 42) (.t 1)), oO 4 (.build zVlt []), oO 5 (.call 93 [(.t 3), (.t 4)]), oM 2 5]) .ret))
theorem A_codec_none_ok : Tryz.f76.body.bind (cCode Tryz.prog) = some A_codec_none := by kernel_rfl
theorem A_codec_none_res : cRes Tryz.prog Tryz.f76.results.toList = some [(.tmp 2)] := by kernel_rfl
theorem A_codec_none_nt : Tryz.f76.ntmps = 6 := by kernel_rfl
def A_codec_Same : ACode := (.seq (rg [oO 2 (.box (.t 0)), oO 3 (.box (.t 1)), oO 4 (.mov (.c (.bool false)))]) (.seq (rg [oF 5 0 2, oO 6 (.load (some 4) (.t 5)), oF 7 0 3, oO 8 (.load (some 4) (.t 7)), oO 9 (.eqA false sh4 (.t 6) (.t 8)), oM 10 9, oG 11 (.fieldAddr 4 (.t 2)) 10 true, oG 12 (.load none (.t 11)) 10 true, oG 13 (.fieldAddr 4 (.t 3)) 10 true, oG 14 (.load none (.t 13)) 10 true, oG 15 (.bin .eql (.t 12) (.t 14)) 10 true, oO 16 (.pick (.t 10) (.t 15) (.c (.bool false))), oM 17 16, oG 18 (.fieldAddr 5 (.t 2)) 17 true, oG 19 (.load (some 16) (.t 18)) 17 true, oG 20 (.fieldAddr 5 (.t 3)) 17 true, oG 21 (.load (some 16) (.t 20)) 17 true, oG 22 (.eqA false sh16 (.t 19) (.t 21)) 17 true, oO 23 (.pick (.t 17) (.t 22) (.c (.bool false))), oM 24 23, oG 25 (.fieldAddr 21 (.t 2)) 24 true, oG 26 (.load none (.t 25)) 24 true, oG 27 (.fieldAddr 21 (.t 3)) 24 true, oG 28 (.load none (.t 27)) 24 true, oG 29 (.call 100 [(.t 26), (.t 28)]) 24 true, oO 30 (.pick (.t 24) (.t 29) (.c (.bool false))), oM 31 30, oG 32 (.fieldAddr 22 (.t 2)) 31 true, oG 33 (.load none (.t 32)) 31 true, oG 34 (.fieldAddr 22 (.t 3)) 31 true, oG 35 (.load none (.t 34)) 31 true, oG 36 (.bin .eql (.t 33) (.t 35)) 31 true, oO 37 (.pick (.t 31) (.t 36) (.c (.bool false))), oM 38 37, oG 39 (.fieldAddr 23 (.t 2)) 38 true, oG 40 (.load none (.t 39)) 38 true, oG 41 (.fieldAddr 23 (.t 3)) 38 true, oG 42 (.load none (.t 41)) 38 true, oG 43 (.bin .eql (.t 40) (.t 42)) 38 true, oO 44 (.pick (.t 38) (.t 43) (.c (.bool false))), oM 45 44, oG 46 (.fieldAddr 24 (.t 2)) 45 true, oG 47 (.load (some 16) (.t 46)) 45 true, oG 48 (.fieldAddr 24 (.t 3)) 45 true, oG 49 (.load (some 16) (.t 48)) 45 true, oG 50 (.eqA false sh16 (.t 47) (.t 49)) 45 true, oO 51 (.pick (.t 45) (.t 50) (.c (.bool false))), oM 52 51, oG 53 (.fieldAddr 40 (.t 2)) 52 true, oG 54 (.load none (.t 53)) 52 true, oG 55 (.fieldAddr 40 (.t 3)) 52 true, oG 56 (.load none (.t 55)) 52 true, oG 57 (.eqB false (.t 54) (.t 56)) 52 true, oO 58 (.pick (.t 52) (.t 57) (.c (.bool false))), oM 59 58, oG 60 (.fieldAddr 41 (.t 2)) 59 true, oG 61 (.load none (.t 60)) 59 true, oG 62 (.fieldAddr 41 (.t 3)) 59 true, oG 63 (.load none (.t 62)) 59 true, oG 64 (.eqB false (.t 61) (.t 63)) 59 true, oO 65 (.pick (.t 59) (.t 64) (.c (.bool false))), oM 4 65]) .ret))
theorem A_codec_Same_ok : Tryz.f93.body.bind (cCode Tryz.prog) = some A_codec_Same := by kernel_rfl
theorem A_codec_Same_res : cRes Tryz.prog Tryz.f93.results.toList = some [(.tmp 4)] := by kernel_rfl
theorem A_codec_Same_nt : Tryz.f93.ntmps = 66 := by kernel_rfl
def A_codec_RightRecord : ACode := (.seq (rg [oO 1 (.box (.t 0)), oO 2 (.mov (.c (.bool false)))]) (.seq (rg [oF 4 3 1, oL 5 4, oO 6 (.bin .geq (.t 5) (.c (.int .u64 1))), oM 7 6, oG 8 (.fieldAddr 3 (.t 1)) 7 true, oG 9 (.load none (.t 8)) 7 true, oG 10 (.bin .leq (.t 9) (.c (.int .u64 1099511627776))) 7 true, oO 11 (.pick (.t 7) (.t 10) (.c (.bool false))), oM 12 11, oG 13 (.fieldAddr 1 (.t 1)) 12 true, oG 14 (.load none (.t 13)) 12 true, oG 15 (.bin .geq (.t 14) (ci 0)) 12 true, oO 16 (.pick (.t 12) (.t 15) (.c (.bool false))), oM 17 16, oG 18 (.fieldAddr 1 (.t 1)) 17 true, oG 19 (.load none (.t 18)) 17 true, oG 20 (.bin .lss (.t 19) (ci 16)) 17 true, oO 21 (.pick (.t 17) (.t 20) (.c (.bool false))), oM 22 21, oG 23 (.fieldAddr 4 (.t 1)) 22 true, oG 24 (.load (some 42) (.t 23)) 22 true, oG 25 (.call 76 [(.t 24)]) 22 true, oO 26 (.pick (.t 22) (.t 25) (.c (.bool false))), oM 3 26]) (.seq (.seq (rg [oF 27 0 1, oL 28 27]) (.block 0 (.seq (rg [oO 30 (.bin .eql (.t 28) (ci 1)), oM 29 30]) (.cond (.t 29) (.seq (rg [oF 31 4 1, oO 32 (.load (some 42) (.t 31)), oO 33 (.call 77 [(.t 32)]), oM 34 33, oG 35 (.fieldAddr 1 (.t 1)) 34 true, oG 36 (.load none (.t 35)) 34 true, oG 37 (.bin .eql (.t 36) (ci 0)) 34 true, oO 38 (.pick (.t 34) (.t 37) (.c (.bool false))), oM 39 38, oG 40 (.fieldAddr 2 (.t 1)) 39 true, oG 41 (.load none (.t 40)) 39 true, oG 42 (.bin .eql (.t 41) (ci 0)) 39 true, oO 43 (.pick (.t 39) (.t 42) (.c (.bool false))), oM 44 43, oG 45 (.fieldAddr 3 (.t 1)) 44 true, oG 46 (.load none (.t 45)) 44 true, oG 47 (.bin .eql (.t 46) (.c (.int .u64 0))) 44 true, oO 48 (.pick (.t 44) (.t 47) (.c (.bool false))), oM 49 48, oG 50 (.fieldAddr 46 (.t 1)) 49 true, oG 51 (.load none (.t 50)) 49 true, oG 52 (.lenSl (.t 51)) 49 true, oG 53 (.bin .eql (.t 52) (ci 0)) 49 true, oO 54 (.pick (.t 49) (.t 53) (.c (.bool false))), oM 2 54]) .ret) (.seq (rg [oO 56 (.bin .eql (.t 28) (ci 2)), oM 55 56]) (.cond (.t 55) (.seq (rg [oM 57 3, oM 58 57, oG 59 (.fieldAddr 2 (.t 1)) 58 true, oG 60 (.load none (.t 59)) 58 true, oG 61 (.bin .geq (.t 60) (ci 0)) 58 true, oO 62 (.pick (.t 58) (.t 61) (.c (.bool false))), oM 63 62, oG 64 (.fieldAddr 2 (.t 1)) 63 true, oG 65 (.load none (.t 64)) 63 true, oG 66 (.bin .lss (.t 65) (ci 8)) 63 true, oO 67 (.pick (.t 63) (.t 66) (.c (.bool false))), oM 68 67, oG 69 (.fieldAddr 46 (.t 1)) 68 true, oG 70 (.load none (.t 69)) 68 true, oG 71 (.lenSl (.t 70)) 68 true, oG 72 (.bin .eql (.t 71) (ci 0)) 68 true, oO 73 (.pick (.t 68) (.t 72) (.c (.bool false))), oM 2 73]) .ret) (.seq (rg [oO 75 (.bin .eql (.t 28) (ci 3)), oM 74 75]) (.cond (.t 74) (.seq (rg [oM 76 3, oM 77 76, oG 78 (.fieldAddr 2 (.t 1)) 77 true, oG 79 (.load none (.t 78)) 77 true, oG 80 (.bin .eql (.t 79) (ci 0)) 77 true, oO 81 (.pick (.t 77) (.t 80) (.c (.bool false))), oM 82 81, oG 83 (.fieldAddr 46 (.t 1)) 82 true, oG 84 (.load none (.t 83)) 82 true, oG 85 (.call 78 [(.t 84)]) 82 true, oO 86 (.pick (.t 82) (.t 85) (.c (.bool false))), oM 2 86]) .ret) (.seq (rg [oO 88 (.bin .eql (.t 28) (ci 4)), oM 87 88]) (.cond (.t 87) (.seq (rg [oM 89 3, oM 90 89, oG 91 (.fieldAddr 2 (.t 1)) 90 true, oG 92 (.load none (.t 91)) 90 true, oG 93 (.bin .eql (.t 92) (ci 0)) 90 true, oO 94 (.pick (.t 90) (.t 93) (.c (.bool false))), oM 95 94, oG 96 (.fieldAddr 46 (.t 1)) 95 true, oG 97 (.load none (.t 96)) 95 true, oG 98 (.lenSl (.t 97)) 95 true, oG 99 (.bin .eql (.t 98) (ci 0)) 95 true, oO 100 (.pick (.t 95) (.t 99) (.c (.bool false))), oM 2 100]) .ret) .skip)))))))))) (.seq (rg [oO 2 (.mov (.c (.bool false)))]) .ret))))
theorem A_codec_RightRecord_ok : Tryz.f58.body.bind (cCode Tryz.prog) = some A_codec_RightRecord := by kernel_rfl
theorem A_codec_RightRecord_res : cRes Tryz.prog Tryz.f58.results.toList = some [(.tmp 2)] := by kernel_rfl
theorem A_codec_RightRecord_nt : Tryz.f58.ntmps = 101 := by kernel_rfl
def A_codec_putVault : ACode := (.seq (rg [oO 1 (.box (.t 0)), oO 2 (.mov (.c (.slice none 0 0)))]) (.seq (rg [oO 3 (.mov (.c (.int .u8 0)))]) (.seq (.block 0 (.seq (rg [oF 5 41 1, oL 6 5, oM 4 6]) (.cond (.t 4) (rg [oO 3 (.mov (.c (.int .u8 3)))]) (.seq (rg [oF 8 40 1, oL 9 8, oM 7 9]) (.cond (.t 7) (rg [oO 3 (.mov (.c (.int .u8 1)))]) .skip))))) (.seq (.region [(1, 4), (4, 7), (4, 8), (4, 10), (4, 11), (4, 14), (4, 16), (4, 18), (4, 20), (4, 23)] [oF 10 0 1, oO 11 (.sliceArr 4 1 (.t 10) none none), oF 12 4 1, oL 13 12, oO 14 (.call 35 [(.t 13)]), oM 15 3, oF 16 22 1, oL 17 16, oO 18 (.conv .u8 (.t 17)), oF 19 23 1, oL 20 19, oO 21 (.conv .u8 (.t 20)), oO 22 (.buildSl 1 3 z1 [(0, (1, (.t 15))), (1, (1, (.t 18))), (2, (1, (.t 21)))]), oF 23 5 1, oO 24 (.sliceArr 16 1 (.t 23) none none), oF 25 24 1, oO 26 (.sliceArr 16 1 (.t 25) none none), oF 27 21 1, oL 28 27, oO 29 (.lenSl (.t 28)), oO 30 (.conv .u8 (.t 29)), oO 31 (.buildSl 1 1 z1 [(0, (1, (.t 30)))]), oF 32 21 1, oL 33 32, oO 34 (.buildSl 1 7 [(.slice none 0 0)] [(0, (1, (.t 11))), (1, (1, (.t 14))), (2, (1, (.t 22))), (3, (1, (.t 24))), (4, (1, (.t 26))), (5, (1, (.t 31))), (6, (1, (.t 33)))]), oO 35 (.call 79 [(.t 34)]), oM 2 35]) .ret))))
theorem A_codec_putVault_ok : Tryz.f59.body.bind (cCode Tryz.prog) = some A_codec_putVault := by kernel_rfl
theorem A_codec_putVault_res : cRes Tryz.prog Tryz.f59.results.toList = some [(.tmp 2)] := by kernel_rfl
theorem A_codec_putVault_nt : Tryz.f59.ntmps = 36 := by kernel_rfl
def A_codec_Record_L0 : ACode := (.seq (rg [oO 70 (.bin .lss (.t 69) (.t 68))]) (.seq (.cond (.t 70) .skip (.exit 1)) (.seq (.block 2 (.seq (rg [oO 71 (.idxSl 42 (.t 67) (.t 69)), oO 72 (.load (some 42) (.t 71)), oO 6 (.alloc zVlt), oN (.store 42 (.t 6) (.t 72))]) (rg [oM 73 4, oO 74 (.load (some 42) (.t 6)), oO 75 (.call 59 [(.t 74)]), oO 76 (.append 1 1 (.t 73) (.t 75)), oM 4 76]))) (rg [oO 77 (.bin .add (.t 69) (ci 1)), oM 69 77]))))
def A_codec_Record : ACode := (.seq (rg [oO 1 (.box (.t 0)), oO 2 (.mov (.c (.slice none 0 0))), oO 3 (.mov (ci 0))]) (.seq (.seq (rg [oO 7 (.load (some 47) (.t 1)), oO 8 (.call 58 [(.t 7)]), oO 9 (.un .not (.t 8))]) (.cond (.t 9) (.seq (rg [oO 2 (.mov (.c (.slice none 0 0))), oO 3 (.mov (ci 1))]) .ret) .skip)) (.seq (rg [oF 10 0 1, oL 11 10, oO 12 (.conv .u8 (.t 11)), oO 13 (.buildSl 1 1 z1 [(0, (1, (.t 12)))]), oM 4 13]) (.seq (.seq (rg [oF 14 0 1, oL 15 14]) (.block 0 (.seq (rg [oO 27 (.bin .eql (.t 15) (ci 1)), oM 26 27]) (.cond (.t 26) (rg [oM 28 4, oF 29 4 1, oO 30 (.load (some 42) (.t 29)), oO 31 (.call 59 [(.t 30)]), oO 32 (.append 1 1 (.t 28) (.t 31)), oM 4 32]) (.seq (rg [oO 34 (.bin .eql (.t 15) (ci 2)), oM 33 34]) (.cond (.t 33) (.region [(8, 10)] [oM 35 4, oF 36 1 1, oL 37 36, oO 38 (.conv .u8 (.t 37)), oF 39 2 1, oL 40 39, oO 41 (.conv .u8 (.t 40)), oO 42 (.buildSl 1 2 z1 [(0, (1, (.t 38))), (1, (1, (.t 41)))]), oO 43 (.append 1 1 (.t 35) (.t 42)), oF 44 3 1, oL 45 44, oO 46 (.call 35 [(.t 45)]), oO 47 (.append 1 1 (.t 43) (.t 46)), oM 4 47]) (.seq (rg [oO 49 (.bin .eql (.t 15) (ci 3)), oM 48 49]) (.cond (.t 48) (.seq (.region [(5, 7), (5, 11), (8, 11), (9, 11), (5, 13), (8, 13), (9, 13)] [oM 50 4, oF 51 1 1, oL 52 51, oO 53 (.conv .u8 (.t 52)), oO 54 (.buildSl 1 1 z1 [(0, (1, (.t 53)))]), oO 55 (.append 1 1 (.t 50) (.t 54)), oF 56 3 1, oL 57 56, oO 58 (.call 35 [(.t 57)]), oO 59 (.append 1 1 (.t 55) (.t 58)), oF 60 46 1, oL 61 60, oO 62 (.lenSl (.t 61)), oO 63 (.conv .u8 (.t 62)), oO 64 (.buildSl 1 1 z1 [(0, (1, (.t 63)))]), oO 65 (.append 1 1 (.t 59) (.t 64)), oM 4 65]) (.seq (rg [oF 66 46 1, oL 67 66, oO 68 (.lenSl (.t 67)), oO 69 (.mov (ci 0))]) (.block 1 (.loop A_codec_Record_L0)))) (.region [(5, 7)] [oM 16 4, oF 17 1 1, oL 18 17, oO 19 (.conv .u8 (.t 18)), oO 20 (.buildSl 1 1 z1 [(0, (1, (.t 19)))]), oO 21 (.append 1 1 (.t 16) (.t 20)), oF 22 3 1, oL 23 22, oO 24 (.call 35 [(.t 23)]), oO 25 (.append 1 1 (.t 21) (.t 24)), oM 4 25]))))))))) (.seq (rg [oM 78 4, oM 2 78, oO 3 (.mov (ci 0))]) .ret)))))
def K_codec_Record_L0 : Kt := (.blk 1 (.blk 0 (.seq (.seq (rg [oM 78 4, oM 2 78, oO 3 (.mov (ci 0))]) .ret) .fin)))
theorem A_codec_Record_ok : Tryz.f29.body.bind (cCode Tryz.prog) = some A_codec_Record := by kernel_rfl
theorem A_codec_Record_res : cRes Tryz.prog Tryz.f29.results.toList = some [(.tmp 2), (.tmp 3)] := by kernel_rfl
theorem A_codec_Record_nt : Tryz.f29.ntmps = 79 := by kernel_rfl
def A_codec_reader_take : ACode := (.seq (rg [oO 4 (.mov (.c (.slice none 0 0)))]) (.seq (.seq (rg [oM 6 0, oO 7 (.nilChk (.t 6)), oF 8 0 7, oL 9 8, oO 10 (.lenSl (.t 9)), oM 11 1, oO 12 (.bin .lss (.t 10) (.t 11))]) (.cond (.t 12) (.seq (rg [oM 13 0, oM 14 0, oO 15 (.nilChk (.t 13)), oF 16 0 15, oN (.store 1 (.t 16) (.c (.slice none 0 0))), oO 17 (.nilChk (.t 14)), oF 18 1 17, oN (.store 1 (.t 18) (.c (.bool true)))]) (.seq (rg [oM 19 1, oO 20 (.mkSl 1 1 z1 (.t 19) (.t 19)), oM 4 20]) .ret)) .skip)) (.seq (rg [oM 21 0, oO 22 (.nilChk (.t 21)), oF 23 0 22, oL 24 23, oM 25 1, oO 26 (.sliceSl 1 (.t 24) none (some (.t 25))), oM 5 26]) (.seq (rg [oM 27 0, oM 28 0, oO 29 (.nilChk (.t 28)), oF 30 0 29, oL 31 30, oM 32 1, oO 33 (.sliceSl 1 (.t 31) (some (.t 32)) none), oO 34 (.nilChk (.t 27)), oF 35 0 34, oN (.store 1 (.t 35) (.t 33))]) (.seq (rg [oM 36 5, oM 4 36]) .ret)))))
theorem A_codec_reader_take_ok : Tryz.f88.body.bind (cCode Tryz.prog) = some A_codec_reader_take := by kernel_rfl
theorem A_codec_reader_take_res : cRes Tryz.prog Tryz.f88.results.toList = some [(.tmp 4)] := by kernel_rfl
theorem A_codec_reader_take_nt : Tryz.f88.ntmps = 37 := by kernel_rfl
def A_codec_reader_one : ACode := (.seq (rg [oO 2 (.mov (ci 0))]) (.seq (rg [oM 3 0, oO 4 (.call 88 [(.t 3), (ci 1)]), oO 5 (.idxSl 1 (.t 4) (ci 0)), oL 6 5, oO 7 (.conv .i64 (.t 6)), oM 2 7]) .ret))
theorem A_codec_reader_one_ok : Tryz.f69.body.bind (cCode Tryz.prog) = some A_codec_reader_one := by kernel_rfl
theorem A_codec_reader_one_res : cRes Tryz.prog Tryz.f69.results.toList = some [(.tmp 2)] := by kernel_rfl
theorem A_codec_reader_one_nt : Tryz.f69.ntmps = 8 := by kernel_rfl
def A_codec_reader_number_L0 : ACode := (.seq (rg [oO 10 (.bin .lss (.t 9) (.t 8))]) (.seq (.cond (.t 10) .skip (.exit 0)) (.seq (.block 1 (.seq (rg [oO 11 (.idxSl 1 (.t 7) (.t 9)), oL 12 11, oM 5 12]) (rg [oM 13 3, oO 14 (.bin .shl (.t 13) (.c (.int .u64 8))), oM 15 5, oO 16 (.conv .u64 (.t 15)), oO 17 (.bin .or (.t 14) (.t 16)), oM 3 17]))) (rg [oO 18 (.bin .add (.t 9) (ci 1)), oM 9 18]))))
def A_codec_reader_number : ACode := (.seq (rg [oO 2 (.mov (.c (.int .u64 0)))]) (.seq (rg [oO 3 (.mov (.c (.int .u64 0)))]) (.seq (.seq (rg [oM 6 0, oO 7 (.call 88 [(.t 6), (ci 8)]), oO 8 (.lenSl (.t 7)), oO 9 (.mov (ci 0))]) (.block 0 (.loop A_codec_reader_number_L0))) (.seq (rg [oM 19 3, oM 2 19]) .ret))))
def K_codec_reader_number_L0 : Kt := (.blk 0 (.seq (.seq (rg [oM 19 3, oM 2 19]) .ret) .fin))
theorem A_codec_reader_number_ok : Tryz.f71.body.bind (cCode Tryz.prog) = some A_codec_reader_number := by kernel_rfl
theorem A_codec_reader_number_res : cRes Tryz.prog Tryz.f71.results.toList = some [(.tmp 2)] := by kernel_rfl
theorem A_codec_reader_number_nt : Tryz.f71.ntmps = 20 := by kernel_rfl
def A_codec_reader_id : ACode := (.seq (rg [oO 2 (.alloc z4)]) (.seq (rg [oM 3 0, oO 4 (.call 88 [(.t 3), (ci 4)]), oO 5 (.toArr 4 1 (.t 4)), oO 6 (.load (some 4) (.t 5)), oN (.store 4 (.t 2) (.t 6))]) .ret))
theorem A_codec_reader_id_ok : Tryz.f89.body.bind (cCode Tryz.prog) = some A_codec_reader_id := by kernel_rfl
theorem A_codec_reader_id_res : cRes Tryz.prog Tryz.f89.results.toList = some [(.cell 2 (some 4))] := by kernel_rfl
theorem A_codec_reader_id_nt : Tryz.f89.ntmps = 7 := by kernel_rfl
def A_codec_reader_digest : ACode := (.seq (rg [oO 2 (.alloc z16)]) (.seq (rg [oM 3 0, oO 4 (.call 88 [(.t 3), (ci 16)]), oO 5 (.toArr 16 1 (.t 4)), oO 6 (.load (some 16) (.t 5)), oN (.store 16 (.t 2) (.t 6))]) .ret))
theorem A_codec_reader_digest_ok : Tryz.f90.body.bind (cCode Tryz.prog) = some A_codec_reader_digest := by kernel_rfl
theorem A_codec_reader_digest_res : cRes Tryz.prog Tryz.f90.results.toList = some [(.cell 2 (some 16))] := by kernel_rfl
theorem A_codec_reader_digest_nt : Tryz.f90.ntmps = 7 := by kernel_rfl
def A_codec_reader_text : ACode := (.seq (rg [oO 2 (.mov (.c (.slice none 0 0)))]) (.seq (rg [oM 3 0, oM 4 0, oO 5 (.call 69 [(.t 4)]), oO 6 (.call 88 [(.t 3), (.t 5)]), oO 7 (.call 92 [(.t 6)]), oM 2 7]) .ret))
theorem A_codec_reader_text_ok : Tryz.f91.body.bind (cCode Tryz.prog) = some A_codec_reader_text := by kernel_rfl
theorem A_codec_reader_text_res : cRes Tryz.prog Tryz.f91.results.toList = some [(.tmp 2)] := by kernel_rfl
theorem A_codec_reader_text_nt : Tryz.f91.ntmps = 8 := by kernel_rfl
def A_codec_reader_vault : ACode := (.seq (rg [oO 2 (.alloc zVlt)]) (.seq (rg [oM 5 0, oO 6 (.call 89 [(.t 5)]), oM 7 0, oO 8 (.call 71 [(.t 7)]), oO 9 (.build zVlt [(0, (4, (.t 6))), (4, (1, (.t 8)))]), oO 3 (.alloc zVlt), oN (.store 42 (.t 3) (.t 9))]) (.seq (rg [oM 10 0, oO 11 (.call 69 [(.t 10)]), oM 4 11]) (.seq (rg [oM 12 4, oO 13 (.bin .neq (.t 12) (ci 0)), oM 14 4, oO 15 (.bin .eql (.t 14) (ci 3)), oF 16 40 3, oN (.store 1 (.t 16) (.t 13)), oF 17 41 3, oN (.store 1 (.t 17) (.t 15))]) (.seq (rg [oM 18 0, oM 19 0, oO 20 (.nilChk (.t 19)), oF 21 1 20, oL 22 21, oM 23 22, oG 24 (.mov (.t 4)) 23 false, oG 25 (.bin .neq (.t 24) (ci 0)) 23 false, oG 26 (.mov (.t 25)) 23 false, oG 27 (.mov (.t 4)) 26 true, oG 28 (.bin .neq (.t 27) (ci 1)) 26 true, oG 29 (.pick (.t 26) (.t 28) (.c (.bool false))) 23 false, oG 30 (.mov (.t 29)) 23 false, oG 31 (.mov (.t 4)) 30 true, oG 32 (.bin .neq (.t 31) (ci 3)) 30 true, oG 33 (.pick (.t 30) (.t 32) (.c (.bool false))) 23 false, oO 34 (.pick (.t 23) (.c (.bool true)) (.t 33)), oO 35 (.nilChk (.t 18)), oF 36 1 35, oN (.store 1 (.t 36) (.t 34))]) (.seq (rg [oM 37 0, oO 38 (.call 69 [(.t 37)]), oM 39 0, oO 40 (.call 69 [(.t 39)]), oF 41 22 3, oN (.store 1 (.t 41) (.t 38)), oF 42 23 3, oN (.store 1 (.t 42) (.t 40))]) (.seq (rg [oM 43 0, oO 44 (.call 90 [(.t 43)]), oM 45 0, oO 46 (.call 90 [(.t 45)]), oF 47 5 3, oN (.store 16 (.t 47) (.t 44)), oF 48 24 3, oN (.store 16 (.t 48) (.t 46))]) (.seq (rg [oM 49 0, oO 50 (.call 91 [(.t 49)]), oF 51 21 3, oN (.store 1 (.t 51) (.t 50))]) (.seq (rg [oM 52 0, oM 53 0, oO 54 (.nilChk (.t 53)), oF 55 1 54, oL 56 55, oM 57 56, oG 58 (.load (some 42) (.t 3)) 57 false, oG 59 (.call 77 [(.t 58)]) 57 false, oG 60 (.un .not (.t 59)) 57 false, oO 61 (.pick (.t 57) (.c (.bool true)) (.t 60)), oO 62 (.nilChk (.t 52)), oF 63 1 62, oN (.store 1 (.t 63) (.t 61))]) (.seq (rg [oO 64 (.load (some 42) (.t 3)), oN (.store 42 (.t 2) (.t 64))]) .ret))))))))))
theorem A_codec_reader_vault_ok : Tryz.f70.body.bind (cCode Tryz.prog) = some A_codec_reader_vault := by kernel_rfl
theorem A_codec_reader_vault_res : cRes Tryz.prog Tryz.f70.results.toList = some [(.cell 2 (some 42))] := by kernel_rfl
theorem A_codec_reader_vault_nt : Tryz.f70.ntmps = 65 := by kernel_rfl
def A_codec_reader_left : ACode := (.seq (rg [oO 2 (.mov (.c (.bool false)))]) (.seq (rg [oM 3 0, oO 4 (.nilChk (.t 3)), oF 5 1 4, oL 6 5, oM 7 6, oG 8 (.mov (.t 0)) 7 false, oG 9 (.nilChk (.t 8)) 7 false, oG 10 (.fieldAddr 0 (.t 9)) 7 false, oG 11 (.load none (.t 10)) 7 false, oG 12 (.lenSl (.t 11)) 7 false, oG 13 (.bin .gtr (.t 12) (ci 0)) 7 false, oO 14 (.pick (.t 7) (.c (.bool true)) (.t 13)), oM 2 14]) .ret))
theorem A_codec_reader_left_ok : Tryz.f72.body.bind (cCode Tryz.prog) = some A_codec_reader_left := by kernel_rfl
theorem A_codec_reader_left_res : cRes Tryz.prog Tryz.f72.results.toList = some [(.tmp 2)] := by kernel_rfl
theorem A_codec_reader_left_nt : Tryz.f72.ntmps = 15 := by kernel_rfl
def A_codec_ToRecord_L0 : ACode := (.seq (rg [oO 42 (.bin .lss (.t 41) (.t 40))]) (.seq (.cond (.t 42) .skip (.exit 1)) (.seq (.block 2 (.region [(1, 3)] [oF 43 46 5, oL 44 43, oM 45 4, oO 46 (.call 70 [(.t 45)]), oO 47 (.buildSl 42 1 zVlt [(0, (42, (.t 46)))]), oO 48 (.append 42 96 (.t 44) (.t 47)), oF 49 46 5, oN (.store 1 (.t 49) (.t 48))])) (rg [oO 50 (.bin .add (.t 41) (ci 1)), oM 41 50]))))
def A_codec_ToRecord : ACode := (.seq (rg [oO 2 (.alloc zRec), oO 3 (.mov (ci 0))]) (.seq (rg [oM 6 0, oO 7 (.build zRd [(0, (1, (.t 6)))]), oO 8 (.box (.t 7)), oM 4 8]) (.seq (rg [oM 9 4, oO 10 (.call 69 [(.t 9)]), oO 11 (.build zRec [(0, (1, (.t 10)))]), oO 5 (.alloc zRec), oN (.store 47 (.t 5) (.t 11))]) (.seq (.seq (rg [oF 12 0 5, oL 13 12]) (.block 0 (.seq (rg [oO 15 (.bin .eql (.t 13) (ci 1)), oM 14 15]) (.cond (.t 14) (rg [oM 16 4, oO 17 (.call 70 [(.t 16)]), oF 18 4 5, oN (.store 42 (.t 18) (.t 17))]) (.seq (rg [oO 20 (.bin .eql (.t 13) (ci 2)), oM 19 20]) (.cond (.t 19) (.seq (rg [oM 21 4, oO 22 (.call 69 [(.t 21)]), oM 23 4, oO 24 (.call 69 [(.t 23)]), oF 25 1 5, oN (.store 1 (.t 25) (.t 22)), oF 26 2 5, oN (.store 1 (.t 26) (.t 24))]) (rg [oM 27 4, oO 28 (.call 71 [(.t 27)]), oF 29 3 5, oN (.store 1 (.t 29) (.t 28))])) (.seq (rg [oO 31 (.bin .eql (.t 13) (ci 3)), oM 30 31]) (.cond (.t 30) (.seq (rg [oM 32 4, oO 33 (.call 69 [(.t 32)]), oF 34 1 5, oN (.store 1 (.t 34) (.t 33))]) (.seq (rg [oM 35 4, oO 36 (.call 71 [(.t 35)]), oF 37 3 5, oN (.store 1 (.t 37) (.t 36))]) (.seq (rg [oM 38 4, oO 39 (.call 69 [(.t 38)]), oO 40 (.minmax false [(.t 39), (ci 5)]), oO 41 (.mov (ci 0))]) (.block 1 (.loop A_codec_ToRecord_L0))))) (.seq (rg [oO 52 (.bin .eql (.t 13) (ci 4)), oM 51 52]) (.cond (.t 51) (.seq (rg [oM 53 4, oO 54 (.call 69 [(.t 53)]), oF 55 1 5, oN (.store 1 (.t 55) (.t 54))]) (rg [oM 56 4, oO 57 (.call 71 [(.t 56)]), oF 58 3 5, oN (.store 1 (.t 58) (.t 57))])) .skip)))))))))) (.seq (.seq (rg [oM 59 4, oO 60 (.call 72 [(.t 59)]), oM 61 60, oG 62 (.load (some 47) (.t 5)) 61 false, oG 63 (.call 58 [(.t 62)]) 61 false, oG 64 (.un .not (.t 63)) 61 false, oO 65 (.pick (.t 61) (.c (.bool true)) (.t 64))]) (.cond (.t 65) (.seq (rg [oO 66 (.build zRec []), oN (.store 47 (.t 2) (.t 66)), oO 3 (.mov (ci 12))]) .ret) .skip)) (.seq (rg [oO 67 (.load (some 47) (.t 5)), oN (.store 47 (.t 2) (.t 67)), oO 3 (.mov (ci 0))]) .ret))))))
def K_codec_ToRecord_L0 : Kt := (.blk 1 (.blk 0 (.seq (.seq (.seq (rg [oM 59 4, oO 60 (.call 72 [(.t 59)]), oM 61 60, oG 62 (.load (some 47) (.t 5)) 61 false, oG 63 (.call 58 [(.t 62)]) 61 false, oG 64 (.un .not (.t 63)) 61 false, oO 65 (.pick (.t 61) (.c (.bool true)) (.t 64))]) (.cond (.t 65) (.seq (rg [oO 66 (.build zRec []), oN (.store 47 (.t 2) (.t 66)), oO 3 (.mov (ci 12))]) .ret) .skip)) (.seq (rg [oO 67 (.load (some 47) (.t 5)), oN (.store 47 (.t 2) (.t 67)), oO 3 (.mov (ci 0))]) .ret)) .fin)))
theorem A_codec_ToRecord_ok : Tryz.f50.body.bind (cCode Tryz.prog) = some A_codec_ToRecord := by kernel_rfl
theorem A_codec_ToRecord_res : cRes Tryz.prog Tryz.f50.results.toList = some [(.cell 2 (some 47)), (.tmp 3)] := by kernel_rfl
theorem A_codec_ToRecord_nt : Tryz.f50.ntmps = 68 := by kernel_rfl
def A_bytes_Compare : ACode := (.seq (rg [oO 4 (.mov (ci 0))]) (.seq (rg [oM 5 0, oM 6 1, oO 7 (.ext 101 [(.t 5), (.t 6)]), oM 4 7]) .ret))
theorem A_bytes_Compare_ok : Tryz.f94.body.bind (cCode Tryz.prog) = some A_bytes_Compare := by kernel_rfl
theorem A_bytes_Compare_res : cRes Tryz.prog Tryz.f94.results.toList = some [(.tmp 4)] := by kernel_rfl
theorem A_bytes_Compare_nt : Tryz.f94.ntmps = 8 := by kernel_rfl
end
end Go.Proofs.YtfpoebmihjbknaaGreat.VA

/- Values that are right: the program's. -/
set_option linter.unusedVariables false
set_option linter.unusedSimpArgs false
set_option maxRecDepth 100000
namespace Go.Proofs.YtfpoebmihjbknaaGreat.VA
open Go
attribute [local irreducible] WK NK XK TK RK FK CK CFK CallRel C
def RightV (x : Vlt) : Prop := 1 ≤ x.gen ∧ x.gen ≤ 1099511627776 ∧ (if x.gone = true then x.pin = Bn.zero 16 ∧ x.owner = Bn.zero 16 ∧ x.secret.l.length = 0 ∧ x.limit = 0 ∧ x.used = 0 else x.wiped = false ∧ 1 ≤ x.limit ∧ x.limit ≤ 32 ∧ 0 ≤ x.used ∧ x.used < x.limit ∧ x.secret.l.length ≤ 64)
instance (x : Vlt) : Decidable (RightV x) := by unfold RightV; infer_instance
def whoP (c n : Int) : Prop := 0 ≤ c ∧ c < 4 ∧ n ≤ 1099511627776
instance (c n : Int) : Decidable (whoP c n) := by unfold whoP; infer_instance
def RightQ (q : Req) : Prop := whoP q.client q.num ∧ ((q.op = 1 ∨ q.op = 3) ∧ 1 ≤ q.limit ∧ q.limit ≤ 32 ∧ q.secret.l.length ≤ 64 ∨ q.op = 2 ∧ q.limit = 0 ∧ q.owner = Bn.zero 16 ∧ q.secret.l.length = 0 ∨ q.op = 4 ∧ q.limit = 0 ∧ q.pin = Bn.zero 16 ∧ q.secret.l.length = 0)
instance (q : Req) : Decidable (RightQ q) := by unfold RightQ; infer_instance
def RightP (r : Rpl) : Prop := whoP r.client r.num ∧ 0 ≤ r.why ∧ r.why ≤ 255 ∧ r.gen ≤ 1099511627776 ∧ 0 ≤ r.left ∧ r.left ≤ 32 ∧ r.secret.l.length ≤ 64
instance (r : Rpl) : Decidable (RightP r) := by unfold RightP; infer_instance
def sameV (a b : Vlt) : Prop := a.id = b.id ∧ a.gen = b.gen ∧ a.pin = b.pin ∧ a.secret.l = b.secret.l ∧ a.limit = b.limit ∧ a.used = b.used ∧ a.owner = b.owner ∧ a.gone = b.gone ∧ a.wiped = b.wiped
instance (a b : Vlt) : Decidable (sameV a b) := by unfold sameV; infer_instance
set_option maxHeartbeats 4000000 in
theorem rightV_C (x : Vlt) : C Tryz.prog 77 [.agg (cVlt x)] [] (vb (decide (RightV x))) [] := by
  refine C_of mixed Tryz.func77 A_codec_RightVault_ok A_codec_RightVault_res _ A_codec_RightVault_nt ?_
  (repeat' (first | simp (maxSteps := 2000000) -implicitDefEqProofs only [A_codec_RightVault, len_lst, rk_ext, fk_ext, lr_api, lr, lr2, oO, oN, oG, oNG, oM, oF, oL, rg, ci, seval, resAll, resL, resV, blkAt, undef, fillV, evParts, footOp, wrOp, chk, disj] | split))
  all_goals (refine out_vb (Bool.eq_iff_iff.2 ?_); (try simp only [decide_eq_true_eq, Bool.false_eq_true, true_iff, false_iff]); (try simp only [RightV, RightQ, RightP, whoP, sameV] at *); first | done | (simp_all; done) | (simp_all; omega) | omega | grind)
theorem sameV_C (a b : Vlt) : C Tryz.prog 93 [.agg (cVlt a), .agg (cVlt b)] [] (vb (decide (sameV a b))) [] := by
  refine C_of mixed Tryz.func93 A_codec_Same_ok A_codec_Same_res _ A_codec_Same_nt ?_
  (repeat' (first | simp (maxSteps := 2000000) -implicitDefEqProofs only [A_codec_Same, len_lst, rk_ext, fk_ext, lr_api, lr, lr2, oO, oN, oG, oNG, oM, oF, oL, rg, ci, seval, resAll, resL, resV, blkAt, undef, fillV, evParts, footOp, wrOp, chk, disj] | split | ((first | apply ck_call | apply cfk_call); (first | (apply call_pure (equal_C a.secret b.secret) cll cl)))))
  all_goals (refine out_vb (Bool.eq_iff_iff.2 ?_); (try simp only [decide_eq_true_eq, Bool.false_eq_true, true_iff, false_iff]); (try simp only [RightV, RightQ, RightP, whoP, sameV] at *); first | done | (simp_all; done) | (simp_all; omega) | omega | grind)
theorem noneV_C (a : Vlt) : C Tryz.prog 76 [.agg (cVlt a)] [] (vb (decide (sameV a Vlt.zero))) [] := by
  refine C_of mixed Tryz.func76 A_codec_none_ok A_codec_none_res _ A_codec_none_nt ?_
  (repeat' (first | simp (maxSteps := 2000000) -implicitDefEqProofs only [A_codec_none, len_lst, rk_ext, fk_ext, lr_api, lr, lr2, oO, oN, oG, oNG, oM, oF, oL, rg, ci, seval, resAll, resL, resV, blkAt, undef, fillV, evParts, footOp, wrOp, chk, disj] | split | ((first | apply ck_call | apply cfk_call); (first | (apply call_pure (sameV_C a Vlt.zero) cll cl)))))
  all_goals (refine out_vb (Bool.eq_iff_iff.2 ?_); (try simp only [decide_eq_true_eq, Bool.false_eq_true, true_iff, false_iff]); (try simp only [RightV, RightQ, RightP, whoP, sameV] at *); first | done | (simp_all; done) | (simp_all; omega) | omega | grind)
theorem loadBytes_run (P : Program) {w : World} : ∀ (l : List UInt8) (a : Addr) (acc : ByteArray), (∀ j x, l[j]? = some x → w.cell? (a.add j) = some (.int .u8 x.toNat)) →
    (Extern.Bytes.loadBytes a l.length acc).run P w = .ok ⟨acc.data ++ l.toArray⟩ w
  | [], a, acc, _ => by simp [Extern.Bytes.loadBytes]
  | x :: l, a, acc, h => by
    have h0 : w.cell? a = some (.int .u8 x.toNat) := by
      have := h 0 x rfl
      simpa [Addr.add] using this
    have ih := loadBytes_run P l (a.add 1) (acc.push x) (fun j y hy => by
      have := h (j + 1) y (by simpa using hy)
      rw [add_add, Nat.add_comm 1 j]; exact this)
    have hx : ((x.toNat : Int).toNat).toUInt8 = x := by simp
    simp only [List.length_cons, Extern.Bytes.loadBytes, Sem.run_bind, run_load, h0, Result.andThen, hx]
    rw [ih]
    congr 1
    apply ByteArray.ext
    simp [ByteArray.push]
theorem bytesOf_row {P : Program} {K : Cx} (r : Row) {c : Value} (h : Rep K (rowV r) c) : (Extern.Bytes.bytesOf c).run P K.w = .ok ⟨r.l.toArray⟩ K.w := by
  cases r with
  | nil =>
    rw [rep_sc (v := .slice none 0 0) h]
    rfl
  | of l =>
    simp only [rowV, Rep] at h
    obtain ⟨a, cap, rfl, _, _, hc⟩ := h
    have hl := loadBytes_run P (w := K.w) l a .empty (fun j x hx => by
      obtain ⟨c, hcell, _, hr⟩ := hc.get j (u8V x) (by rw [bs_get, hx]; rfl)
      rw [rep_sc (v := .int .u8 x.toNat) hr] at hcell
      simpa using hcell)
    show (Extern.Bytes.loadBytes a l.length .empty).run P K.w = _
    rw [hl]
    simp [Row.l]
def cmpL : List UInt8 → List UInt8 → Int
  | [], [] => 0
  | [], _ :: _ => -1
  | _ :: _, [] => 1
  | x :: xs, y :: ys => if x = y then cmpL xs ys else if x < y then -1 else 1
theorem cmp_find (n : Nat) : ∀ (a b : List UInt8), n = min a.length b.length →
    (match (List.range n).find? (fun i => a.getD i 0 != b.getD i 0) with
      | some i => if a.getD i 0 < b.getD i 0 then (-1 : Int) else 1
      | none => if a.length < b.length then -1 else if a.length > b.length then 1 else 0) = cmpL a b := by
  induction n with
  | zero =>
    intro a b h
    cases a <;> cases b <;> simp [cmpL] at h ⊢
  | succ n ih =>
    intro a b h
    cases a with
    | nil => simp at h
    | cons x xs =>
      cases b with
      | nil => simp at h
      | cons y ys =>
        have hn : n = min xs.length ys.length := by simp at h; omega
        have := ih xs ys hn
        rw [List.range_succ_eq_map, List.find?_cons]
        simp only [List.getD_cons_zero, cmpL, ← this]
        by_cases hxy : x = y
        · subst hxy
          simp only [bne_self_eq_false, Bool.false_eq_true, if_true, List.find?_map, Function.comp_def, List.getD_cons_succ, List.length_cons]
          cases (List.range n).find? (fun i => xs.getD i 0 != ys.getD i 0) <;> simp
        · have e : (x != y) = true := by simpa using hxy
          simp [e, hxy]
theorem cmp_eq (a b : List UInt8) : Extern.BytealgCompare.cmp ⟨a.toArray⟩ ⟨b.toArray⟩ = cmpL a b := by
  have key := cmp_find (min a.length b.length) a b rfl
  have hg : ∀ (l : List UInt8) (i : Nat), (ByteArray.mk l.toArray)[i]! = l.getD i 0 := fun l i => by
    by_cases h : i < l.length
    · rw [getElem!_pos _ _ (by simpa [ByteArray.size] using h)]
      simp [ByteArray.getElem_eq_getElem_data, h]
    · rw [getElem!_neg _ _ (by simpa [ByteArray.size] using h)]
      simp [h]
      rfl
  have hs : ∀ l : List UInt8, (ByteArray.mk l.toArray).size = l.length := fun l => by
    show l.toArray.size = _
    simp
  unfold Extern.BytealgCompare.cmp
  simp only [hg, hs]
  exact key
theorem compare_X (a b : Row) : ExtRel Tryz.prog 101 [rowV a, rowV b] (vi .i64 (cmpL a.l b.l)) := by
  intro K vs h
  simp only [RepL] at h
  obtain ⟨c1, l1, rfl, h1, c2, l2, rfl, h2, rfl⟩ := h
  refine ⟨.int .i64 (cmpL a.l b.l), ?_, by simp [Rep]⟩
  rw [run_callFunc_extern (e := Extern.BytealgCompare.compare) Tryz.func101 (by kernel_rfl) (by kernel_rfl) (by kernel_rfl) (by kernel_rfl)]
  show (((do pure (goInt (Extern.BytealgCompare.cmp (← Extern.Bytes.bytesOf c1) (← Extern.Bytes.bytesOf c2)))) : Sem Value).run _ K.w).andThen _ = _
  simp only [Sem.run_bind, bytesOf_row a h1, bytesOf_row b h2, Result.andThen_ok, Sem.run_pure, cmp_eq]
  rfl
theorem compare_C (a b : Row) : C Tryz.prog 94 [rowV a, rowV b] [] (vi .i64 (cmpL a.l b.l)) [] := by
  refine C_of mixed Tryz.func94 A_bytes_Compare_ok A_bytes_Compare_res _ A_bytes_Compare_nt ?_
  simp (maxSteps := 2000000) -implicitDefEqProofs only [A_bytes_Compare, len_lst, rk_ext, fk_ext, lr_api, lr, lr2, oO, oN, oG, oNG, oM, oF, oL, rg, ci, seval, resAll, resL, resV, blkAt, undef, fillV, evParts, footOp, wrOp, chk, disj]
  refine xck_ext _ (compare_X a b) ?_
  simp (maxSteps := 2000000) -implicitDefEqProofs only [len_lst, rk_ext, fk_ext, lr_api, lr, lr2, oO, oN, oG, oNG, oM, oF, oL, rg, ci, seval, resAll, resL, resV, blkAt, undef, fillV, evParts, footOp, wrOp, chk, disj]
  exact out_eq rfl trivial
end Go.Proofs.YtfpoebmihjbknaaGreat.VA

/- Vaults, requests, replies, records are written: the program's. -/
set_option linter.unusedVariables false
set_option linter.unusedSimpArgs false
set_option maxRecDepth 100000
namespace Go.Proofs.YtfpoebmihjbknaaGreat.VA
open Go
attribute [local irreducible] WK NK XK TK RK FK CK CFK CallRel C
def numI (i : Int) : List UInt8 := numF i.toNat
theorem numI_len (i : Int) : (numI i).length = 8 := rfl
theorem numberI_C (i : Int) (h : 0 ≤ i) : C Tryz.prog 35 [vi .u64 i] [] (rowV (.of (numI i))) [] := by
  have := C_shut (number_C i.toNat) rfl
  rwa [Int.toNat_of_nonneg h] at this
def flagF (x : Vlt) : UInt8 := if x.wiped = true then by8 3 else if x.gone = true then by8 1 else by8 0
def b8 (i : Int) : UInt8 := by8 (IntKind.u8.wrap i)
def vltRows (x : Vlt) : List Row := [.of x.id.1, .of (numI x.gen), .of [flagF x, b8 x.limit, b8 x.used], .of x.pin.1, .of x.owner.1, .of [UInt8.ofNat x.secret.l.length], x.secret]
def putV (x : Vlt) : List UInt8 := joinF (vltRows x)
theorem putV_len (x : Vlt) : (putV x).length = 48 + x.secret.l.length := by
  simp only [putV, vltRows, joinF, Row.l, List.length_append, numI_len, bn_len, List.length_cons, List.length_nil]
  omega
theorem putV_C (x : Vlt) (h : 0 ≤ x.gen) (hs : x.secret.l.length ≤ 1000000) : C Tryz.prog 59 [.agg (cVlt x)] [] (.sref 0 0 (putV x).length 1) [some (bs (putV x))] := by
  refine C_of mixed Tryz.func59 A_codec_putVault_ok A_codec_putVault_res _ A_codec_putVault_nt ?_
  have ln := putV_len x
  have cc := concat_C (vltRows x) (by simp [vltRows]) (by unfold putV at ln; omega) (by unfold putV at ln; omega)
  rw [show joinF (vltRows x) = putV x from rfl] at cc
  generalize hr : putV x = r at cc ln ⊢
  have d0 : (0 : Int) ≤ x.secret.l.length := by omega
  by_cases h1 : x.wiped = true
  · simp only [vltRows, flagF, b8, h1, if_true] at cc
    (repeat' (first | simp (maxSteps := 2000000) -implicitDefEqProofs only [A_codec_putVault, d0, h1, len_lst, rk_ext, fk_ext, lr_api, lr, lr2, oO, oN, oG, oNG, oM, oF, oL, rg, ci, seval, resAll, resL, resV, blkAt, undef, fillV, evParts, footOp, wrOp, chk, disj] | split | ((first | apply ck_call | apply cfk_call); (first | (apply call_pure (numberI_C x.gen h) cll cl)))))
    ((first | apply ck_call | apply cfk_call); (apply call_rows_new (cc); rfl; rfl; rfl; (simp [ids_nil, ids_cons, ids_sc, ids_agg, ids_dg, ids_bs, ids_row, ids_ints, ids_sref, ids_ref, ids_sl, blkAt] <;> fail); (repeat' (first | exact seen_n | refine seen_c ?_ ?_ | (first | exact seen_rowV _ | (refine seen_rowA rfl ?_ ?_; (simp [ids_nil, ids_cons, ids_sc, ids_agg, ids_dg, ids_bs, ids_row, ids_ints, ids_sref, ids_ref, ids_sl] <;> fail); (first | rfl | omega | (simp [bn_len] <;> fail) | (simp [bn_len]; omega) | fail)) | (refine seen_row rfl ?_ ?_; (simp [ids_nil, ids_cons, ids_sc, ids_agg, ids_dg, ids_bs, ids_row, ids_ints, ids_sref, ids_ref, ids_sl] <;> fail); (first | rfl | omega | (simp [bn_len] <;> fail) | (simp [bn_len]; omega) | fail)) | (refine seen_fld ?_ ?_ ?_; (simp [ids_nil, ids_cons, ids_sc, ids_agg, ids_dg, ids_bs, ids_row, ids_ints, ids_sref, ids_ref, ids_sl] <;> fail); (first | rfl | omega | (simp [bn_len] <;> fail) | (simp [bn_len]; omega) | fail); (simp only [len_lst, rk_ext, fk_ext, lr_api, blkAt, List.getD_cons_zero, List.getD_cons_succ, Option.bind_some, rd_sE] <;> fail))))); (first | exact cl | exact cll); exact nrl))
    simp (maxSteps := 2000000) -implicitDefEqProofs only [len_lst, rk_ext, fk_ext, lr_api, lr, lr2, oO, oN, oG, oNG, oM, oF, oL, rg, ci, seval, resAll, resL, resV, blkAt, undef, fillV, evParts, footOp, wrOp, chk, disj]
    exact out_row rfl (bs_closed _)
  by_cases h2 : x.gone = true
  · simp only [vltRows, flagF, b8, h1, h2, if_true, if_false, Bool.false_eq_true] at cc
    (repeat' (first | simp (maxSteps := 2000000) -implicitDefEqProofs only [A_codec_putVault, d0, h1, h2, len_lst, rk_ext, fk_ext, lr_api, lr, lr2, oO, oN, oG, oNG, oM, oF, oL, rg, ci, seval, resAll, resL, resV, blkAt, undef, fillV, evParts, footOp, wrOp, chk, disj] | split | ((first | apply ck_call | apply cfk_call); (first | (apply call_pure (numberI_C x.gen h) cll cl)))))
    ((first | apply ck_call | apply cfk_call); (apply call_rows_new (cc); rfl; rfl; rfl; (simp [ids_nil, ids_cons, ids_sc, ids_agg, ids_dg, ids_bs, ids_row, ids_ints, ids_sref, ids_ref, ids_sl, blkAt] <;> fail); (repeat' (first | exact seen_n | refine seen_c ?_ ?_ | (first | exact seen_rowV _ | (refine seen_rowA rfl ?_ ?_; (simp [ids_nil, ids_cons, ids_sc, ids_agg, ids_dg, ids_bs, ids_row, ids_ints, ids_sref, ids_ref, ids_sl] <;> fail); (first | rfl | omega | (simp [bn_len] <;> fail) | (simp [bn_len]; omega) | fail)) | (refine seen_row rfl ?_ ?_; (simp [ids_nil, ids_cons, ids_sc, ids_agg, ids_dg, ids_bs, ids_row, ids_ints, ids_sref, ids_ref, ids_sl] <;> fail); (first | rfl | omega | (simp [bn_len] <;> fail) | (simp [bn_len]; omega) | fail)) | (refine seen_fld ?_ ?_ ?_; (simp [ids_nil, ids_cons, ids_sc, ids_agg, ids_dg, ids_bs, ids_row, ids_ints, ids_sref, ids_ref, ids_sl] <;> fail); (first | rfl | omega | (simp [bn_len] <;> fail) | (simp [bn_len]; omega) | fail); (simp only [len_lst, rk_ext, fk_ext, lr_api, blkAt, List.getD_cons_zero, List.getD_cons_succ, Option.bind_some, rd_sE] <;> fail))))); (first | exact cl | exact cll); exact nrl))
    simp (maxSteps := 2000000) -implicitDefEqProofs only [len_lst, rk_ext, fk_ext, lr_api, lr, lr2, oO, oN, oG, oNG, oM, oF, oL, rg, ci, seval, resAll, resL, resV, blkAt, undef, fillV, evParts, footOp, wrOp, chk, disj]
    exact out_row rfl (bs_closed _)
  · simp only [vltRows, flagF, b8, h1, h2, if_true, if_false, Bool.false_eq_true] at cc
    (repeat' (first | simp (maxSteps := 2000000) -implicitDefEqProofs only [A_codec_putVault, d0, h1, h2, len_lst, rk_ext, fk_ext, lr_api, lr, lr2, oO, oN, oG, oNG, oM, oF, oL, rg, ci, seval, resAll, resL, resV, blkAt, undef, fillV, evParts, footOp, wrOp, chk, disj] | split | ((first | apply ck_call | apply cfk_call); (first | (apply call_pure (numberI_C x.gen h) cll cl)))))
    ((first | apply ck_call | apply cfk_call); (apply call_rows_new (cc); rfl; rfl; rfl; (simp [ids_nil, ids_cons, ids_sc, ids_agg, ids_dg, ids_bs, ids_row, ids_ints, ids_sref, ids_ref, ids_sl, blkAt] <;> fail); (repeat' (first | exact seen_n | refine seen_c ?_ ?_ | (first | exact seen_rowV _ | (refine seen_rowA rfl ?_ ?_; (simp [ids_nil, ids_cons, ids_sc, ids_agg, ids_dg, ids_bs, ids_row, ids_ints, ids_sref, ids_ref, ids_sl] <;> fail); (first | rfl | omega | (simp [bn_len] <;> fail) | (simp [bn_len]; omega) | fail)) | (refine seen_row rfl ?_ ?_; (simp [ids_nil, ids_cons, ids_sc, ids_agg, ids_dg, ids_bs, ids_row, ids_ints, ids_sref, ids_ref, ids_sl] <;> fail); (first | rfl | omega | (simp [bn_len] <;> fail) | (simp [bn_len]; omega) | fail)) | (refine seen_fld ?_ ?_ ?_; (simp [ids_nil, ids_cons, ids_sc, ids_agg, ids_dg, ids_bs, ids_row, ids_ints, ids_sref, ids_ref, ids_sl] <;> fail); (first | rfl | omega | (simp [bn_len] <;> fail) | (simp [bn_len]; omega) | fail); (simp only [len_lst, rk_ext, fk_ext, lr_api, blkAt, List.getD_cons_zero, List.getD_cons_succ, Option.bind_some, rd_sE] <;> fail))))); (first | exact cl | exact cll); exact nrl))
    simp (maxSteps := 2000000) -implicitDefEqProofs only [len_lst, rk_ext, fk_ext, lr_api, lr, lr2, oO, oN, oG, oNG, oM, oF, oL, rg, ci, seval, resAll, resL, resV, blkAt, undef, fillV, evParts, footOp, wrOp, chk, disj]
    exact out_row rfl (bs_closed _)
def RisingP (l : List Vlt) : Prop := l.length ≤ 4 ∧ ∀ i, i < l.length → RightV (l.getD i default) ∧ (0 < i → cmpL (l.getD (i - 1) default).id.1 (l.getD i default).id.1 < 0)
instance (l : List Vlt) : Decidable (RisingP l) := by unfold RisingP; infer_instance
theorem rising_C (r : Lst Vlt) : C Tryz.prog 78 [lstV cVlt r] [] (vb (decide (RisingP r.l))) [] := by
  refine C_of mixed Tryz.func78 A_codec_rising_ok A_codec_rising_res _ A_codec_rising_nt ?_
  by_cases h4 : (r.l.length : Int) > 4
  · (repeat' (first | simp (maxSteps := 2000000) -implicitDefEqProofs only [A_codec_rising, h4, len_lst, len_lst, rk_ext, fk_ext, lr_api, lr, lr2, oO, oN, oG, oNG, oM, oF, oL, rg, ci, seval, resAll, resL, resV, blkAt, undef, fillV, evParts, footOp, wrOp, chk, disj] | split))
    refine out_vb (Eq.symm (decide_eq_false ?_))
    rintro ⟨h, _⟩; omega
  (repeat' (first | simp (maxSteps := 2000000) -implicitDefEqProofs only [A_codec_rising, h4, len_lst, len_lst, rk_ext, fk_ext, lr_api, lr, lr2, oO, oN, oG, oNG, oM, oF, oL, rg, ci, seval, resAll, resL, resV, blkAt, undef, fillV, evParts, footOp, wrOp, chk, disj] | split))
  refine wk_loop (fun m S H => ∃ i : Nat, i ≤ r.l.length ∧ (∀ j, j < i → RightV (r.l.getD j default) ∧ (0 < j → cmpL (r.l.getD (j - 1) default).id.1 (r.l.getD j default).id.1 < 0)) ∧ m = r.l.length - i ∧ S = (lstV cVlt r :: .dead :: .dead :: .dead :: .dead :: .dead :: .dead :: .dead :: lstV cVlt r :: vi .i64 r.l.length :: vi .i64 i :: .dead :: .dead :: .dead :: .dead :: .dead :: .dead :: .dead :: .dead :: .dead :: .dead :: .dead :: .dead :: .dead :: .dead :: .dead :: .dead :: .dead :: .dead :: .dead :: .dead :: .dead :: .dead :: .dead :: .dead :: []) ∧ H = []) r.l.length ⟨0, Nat.zero_le _, by omega, rfl, rfl, rfl⟩ (by refine .ren _ _ _ [] (by decide) (by intro k h; first | exact absurd h (Nat.not_lt_zero k) | (simp at h; done) | (rcases k with _ | _ | _ | k <;> first | rfl | (exfalso; omega) | (simp at h; done))) ?_ ?_ <;> simp [KeepS, KeepH, ArgRel, ArgRelL, argL_cl, arg_cl, row_l_of, row_l_nil, bn_len, blkAt]) ?_
  rintro m S H ⟨i, hi, hok, rfl, rfl, rfl⟩ J hJ
  have d0 : (0 : Int) ≤ i := by omega
  by_cases hil : i < r.l.length
  · have d1 : (i : Int) < r.l.length := by omega
    have w1 : IntKind.i64.wrap ((i : Int) + 1) = ((i + 1 : Nat) : Int) := by rw [wrap_id _ (by omega) (by omega)]; omega
    have g1 := rd_flat cVlt_len r.l i hil
    obtain ⟨v, hv⟩ : ∃ v, v = r.l.getD i default := ⟨_, rfl⟩
    rw [← hv] at g1
    by_cases hr : RightV v
    · by_cases hi0 : i = 0
      · have d2 : ¬ (0 : Int) < i := by omega
        (repeat' (first | simp (maxSteps := 2000000) -implicitDefEqProofs only [A_codec_rising_L0, d0, d1, d2, w1, g1, hr, idx_lst cVlt_len, len_lst, rk_ext, fk_ext, lr_api, lr, lr2, oO, oN, oG, oNG, oM, oF, oL, rg, ci, seval, resAll, resL, resV, blkAt, undef, fillV, evParts, footOp, wrOp, chk, disj] | split | ((first | apply ck_call | apply cfk_call); (first | (apply call_pure (rightV_C v) cll cl)))))
        exact hJ _ _ _ _ _ (by omega) ⟨i + 1, by omega, fun j hj => by
          have : j = i := by omega
          subst this
          exact ⟨by rw [← hv]; exact hr, fun h => absurd h (by omega)⟩, rfl, rfl, rfl⟩ (by refine .ren _ _ _ [] (by decide) (by intro k h; first | exact absurd h (Nat.not_lt_zero k) | (simp at h; done) | (rcases k with _ | _ | _ | k <;> first | rfl | (exfalso; omega) | (simp at h; done))) ?_ ?_ <;> simp [KeepS, KeepH, ArgRel, ArgRelL, argL_cl, arg_cl, row_l_of, row_l_nil, bn_len, blkAt])
      · have d2 : (0 : Int) < i := by omega
        have w2 : IntKind.i64.wrap ((i : Int) - 1) = ((i - 1 : Nat) : Int) := by rw [wrap_id _ (by omega) (by omega)]; omega
        have d3 : (0 : Int) ≤ ((i - 1 : Nat) : Int) := by omega
        have d4 : ((i - 1 : Nat) : Int) < r.l.length := by omega
        obtain ⟨u, hu⟩ : ∃ u, u = r.l.getD (i - 1) default := ⟨_, rfl⟩
        obtain ⟨b1, b2⟩ := box_part cVlt_len r.l (i - 1) 0 4 (r.l.getD (i - 1) default).id (by omega) (by decide) (rd_Vlt_id _)
        rw [← hu, List.drop_zero] at b2
        rw [Nat.zero_add] at b1
        by_cases hc : cmpL u.id.1 v.id.1 < 0
        · have hc' : ¬ cmpL u.id.1 v.id.1 ≥ 0 := by omega
          have hc2 : ¬ 0 ≤ cmpL u.id.1 v.id.1 := by omega
          (repeat' (first | simp (maxSteps := 2000000) -implicitDefEqProofs only [A_codec_rising_L0, d0, d1, d2, d3, d4, w1, w2, g1, hr, b1, b2, hc2, idx_lst cVlt_len, len_lst, rk_ext, fk_ext, lr_api, lr, lr2, oO, oN, oG, oNG, oM, oF, oL, rg, ci, seval, resAll, resL, resV, blkAt, undef, fillV, evParts, footOp, wrOp, chk, disj] | split | ((first | apply ck_call | apply cfk_call); (first | (apply call_pure (rightV_C v) cll cl) | (apply call_roA (compare_C (.of u.id.1) (.of v.id.1)); (simp [ids_nil, ids_cons, ids_sc, ids_agg, ids_dg, ids_bs, ids_row, ids_ints, ids_sref, ids_ref, ids_sl, blkAt] <;> fail); (repeat' (first | exact args_n | apply args_c | (first | exact arg_closed _ cl | (refine arg_rowA rfl mem ?_; (first | rfl | omega | (simp [bn_len] <;> fail) | (simp [bn_len]; omega))) | (refine arg_row rfl mem ?_; (first | rfl | omega | (simp [bn_len] <;> fail) | (simp [bn_len]; omega))) | (refine arg_fld mem ?_ ?_; (first | rfl | omega | (simp [bn_len] <;> fail) | (simp [bn_len]; omega)); (simp only [len_lst, rk_ext, fk_ext, lr_api, blkAt, List.getD_cons_zero, List.getD_cons_succ, Option.bind_some, rd_sE] <;> fail))))); (first | exact cl | exact cll); (first | exact nr | exact nrl))))))
          exact hJ _ _ _ _ _ (by omega) ⟨i + 1, by omega, fun j hj => by
            by_cases hji : j = i
            · subst hji; exact ⟨by rw [← hv]; exact hr, fun _ => by rw [← hv, ← hu]; exact hc⟩
            · exact hok j (by omega), rfl, rfl, rfl⟩ (by refine .ren _ _ _ [] (by decide) (by intro k h; first | exact absurd h (Nat.not_lt_zero k) | (simp at h; done) | (rcases k with _ | _ | _ | k <;> first | rfl | (exfalso; omega) | (simp at h; done))) ?_ ?_ <;> simp [KeepS, KeepH, ArgRel, ArgRelL, argL_cl, arg_cl, row_l_of, row_l_nil, bn_len, blkAt])
        · have hc2 : 0 ≤ cmpL u.id.1 v.id.1 := by omega
          (repeat' (first | simp (maxSteps := 2000000) -implicitDefEqProofs only [A_codec_rising_L0, d0, d1, d2, d3, d4, w1, w2, g1, hr, b1, b2, hc2, idx_lst cVlt_len, len_lst, rk_ext, fk_ext, lr_api, lr, lr2, oO, oN, oG, oNG, oM, oF, oL, rg, ci, seval, resAll, resL, resV, blkAt, undef, fillV, evParts, footOp, wrOp, chk, disj] | split | ((first | apply ck_call | apply cfk_call); (first | (apply call_pure (rightV_C v) cll cl) | (apply call_roA (compare_C (.of u.id.1) (.of v.id.1)); (simp [ids_nil, ids_cons, ids_sc, ids_agg, ids_dg, ids_bs, ids_row, ids_ints, ids_sref, ids_ref, ids_sl, blkAt] <;> fail); (repeat' (first | exact args_n | apply args_c | (first | exact arg_closed _ cl | (refine arg_rowA rfl mem ?_; (first | rfl | omega | (simp [bn_len] <;> fail) | (simp [bn_len]; omega))) | (refine arg_row rfl mem ?_; (first | rfl | omega | (simp [bn_len] <;> fail) | (simp [bn_len]; omega))) | (refine arg_fld mem ?_ ?_; (first | rfl | omega | (simp [bn_len] <;> fail) | (simp [bn_len]; omega)); (simp only [len_lst, rk_ext, fk_ext, lr_api, blkAt, List.getD_cons_zero, List.getD_cons_succ, Option.bind_some, rd_sE] <;> fail))))); (first | exact cl | exact cll); (first | exact nr | exact nrl))))))
          refine out_vb (Eq.symm (decide_eq_false ?_))
          rintro ⟨_, h⟩
          have := (h i hil).2 (by omega)
          rw [← hv, ← hu] at this
          exact hc this
    · (repeat' (first | simp (maxSteps := 2000000) -implicitDefEqProofs only [A_codec_rising_L0, d0, d1, w1, g1, hr, idx_lst cVlt_len, len_lst, rk_ext, fk_ext, lr_api, lr, lr2, oO, oN, oG, oNG, oM, oF, oL, rg, ci, seval, resAll, resL, resV, blkAt, undef, fillV, evParts, footOp, wrOp, chk, disj] | split | ((first | apply ck_call | apply cfk_call); (first | (apply call_pure (rightV_C v) cll cl)))))
      refine out_vb (Eq.symm (decide_eq_false ?_))
      rintro ⟨_, h⟩
      have := (h i hil).1
      rw [← hv] at this
      exact hr this
  · obtain rfl : i = r.l.length := by omega
    have d1 : ¬ ((r.l.length : Nat) : Int) < r.l.length := by omega
    (repeat' (first | simp (maxSteps := 2000000) -implicitDefEqProofs only [A_codec_rising_L0, K_codec_rising_L0, d1, len_lst, rk_ext, fk_ext, lr_api, lr, lr2, oO, oN, oG, oNG, oM, oF, oL, rg, ci, seval, resAll, resL, resV, blkAt, undef, fillV, evParts, footOp, wrOp, chk, disj] | split))
    exact out_vb (Eq.symm (decide_eq_true ⟨by omega, hok⟩))
def EpochP (r : Rec) : Prop := 1 ≤ r.epoch ∧ r.epoch ≤ 1099511627776 ∧ 0 ≤ r.shard ∧ r.shard < 16 ∧ sameV r.vault Vlt.zero
instance (r : Rec) : Decidable (EpochP r) := by unfold EpochP; infer_instance
def RightR (r : Rec) : Prop := r.kind = 1 ∧ RightV r.vault ∧ r.shard = 0 ∧ r.to = 0 ∧ r.epoch = 0 ∧ r.vaults.l.length = 0 ∨
  EpochP r ∧ (r.kind = 2 ∧ 0 ≤ r.to ∧ r.to < 8 ∧ r.vaults.l.length = 0 ∨ r.kind = 3 ∧ r.to = 0 ∧ RisingP r.vaults.l ∨ r.kind = 4 ∧ r.to = 0 ∧ r.vaults.l.length = 0)
instance (r : Rec) : Decidable (RightR r) := by unfold RightR; infer_instance
set_option maxHeartbeats 4000000 in
theorem rightR_C (r : Rec) : C Tryz.prog 58 [.agg (cRec r)] [] (vb (decide (RightR r))) [] := by
  refine C_of mixed Tryz.func58 A_codec_RightRecord_ok A_codec_RightRecord_res _ A_codec_RightRecord_nt ?_
  (repeat' (first | simp (maxSteps := 2000000) -implicitDefEqProofs only [A_codec_RightRecord, len_lst, len_lst, rk_ext, fk_ext, lr_api, lr, lr2, oO, oN, oG, oNG, oM, oF, oL, rg, ci, seval, resAll, resL, resV, blkAt, undef, fillV, evParts, footOp, wrOp, chk, disj] | split | ((first | apply ck_call | apply cfk_call); (first | (apply call_pure (noneV_C r.vault) cll cl) | (apply call_pure (rightV_C r.vault) cll cl) | (apply call_pure (rising_C r.vaults) cll cl)))))
  all_goals (refine out_vb (Bool.eq_iff_iff.2 ?_); (try simp only [decide_eq_true_eq, Bool.false_eq_true, true_iff, false_iff]); (try simp only [RightR, EpochP] at *); first | done | (simp_all; done) | (simp_all; omega) | omega | grind)
end Go.Proofs.YtfpoebmihjbknaaGreat.VA

/- Vaults, requests, replies, records are written: the program's exported functions. -/
set_option linter.unusedVariables false
set_option linter.unusedSimpArgs false
set_option maxRecDepth 100000
namespace Go.Proofs.YtfpoebmihjbknaaGreat.VA
open Go
attribute [local irreducible] WK NK XK TK RK FK CK CFK CallRel C
theorem right_gen {x : Vlt} (h : RightV x) : 0 ≤ x.gen := by have := h.1; omega
theorem right_sec {x : Vlt} (h : RightV x) : x.secret.l.length ≤ 64 := by
  obtain ⟨_, _, h⟩ := h
  split at h
  · have := h.2.2.1; omega
  · exact h.2.2.2.2.2
theorem putVR_C (x : Vlt) (h : RightV x) : C Tryz.prog 59 [.agg (cVlt x)] [] (rowV (.of (putV x))) [] := C_shut (putV_C x (right_gen h) (by have := right_sec h; omega)) rfl
def putR (r : Rec) : List UInt8 :=
  if r.kind = 1 then [b8 r.kind] ++ putV r.vault
  else if r.kind = 2 then [b8 r.kind] ++ [b8 r.shard, b8 r.to] ++ numI r.epoch
  else if r.kind = 3 then [b8 r.kind] ++ [b8 r.shard] ++ numI r.epoch ++ [UInt8.ofNat r.vaults.l.length] ++ r.vaults.l.flatMap putV
  else [b8 r.kind] ++ [b8 r.shard] ++ numI r.epoch
theorem flat_le : ∀ l : List Vlt, (∀ i, i < l.length → RightV (l.getD i default)) → (l.flatMap putV).length ≤ 112 * l.length
  | [], _ => by simp
  | x :: l, h => by
    have h0 := h 0 (by simp)
    have ih := flat_le l fun i hi => by have := h (i + 1) (by simpa using hi); simpa using this
    have := right_sec h0
    rw [List.flatMap_cons, List.length_append, List.length_cons, putV_len]
    simp only [List.getD_cons_zero] at this
    omega
theorem take_snoc {α : Type} [Inhabited α] (l : List α) (i : Nat) (h : i < l.length) : l.take (i + 1) = l.take i ++ [l.getD i default] := by
  rw [List.take_add_one]; simp [List.getElem?_eq_getElem h]
theorem rightR_kind {r : Rec} (h : RightR r) : r.kind = 1 ∨ r.kind = 2 ∨ r.kind = 3 ∨ r.kind = 4 := by
  rcases h with h | ⟨_, h | h | h⟩
  · exact .inl h.1
  · exact .inr (.inl h.1)
  · exact .inr (.inr (.inl h.1))
  · exact .inr (.inr (.inr h.1))
theorem recordN_C (r : Rec) (h : ¬ RightR r) : C Tryz.prog 29 [.agg (cRec r)] [] (.tup [vnil, vi .i64 1]) [] := by
  refine C_of mixed Tryz.func29 A_codec_Record_ok A_codec_Record_res _ A_codec_Record_nt ?_
  (repeat' (first | simp (maxSteps := 2000000) -implicitDefEqProofs only [A_codec_Record, h, len_lst, rk_ext, fk_ext, sm_c, sm_a, numI_len, lr_api, lr, lr2, oO, oN, oG, oNG, oM, oF, oL, rg, ci, seval, resAll, resL, resV, blkAt, undef, fillV, evParts, footOp, wrOp, chk, disj] | split | ((first | apply ck_call | apply cfk_call); (first | (apply call_pure (rightR_C r) cll cl)))))
  all_goals (refine out_eq ?_ (cl); first | rfl | (simp_all []; done) | (simp_all []; intros; omega) | (simp []; (repeat' split) <;> first | rfl | omega | (simp_all; done) | (simp_all; intros; omega)))
theorem record_C (r : Rec) (h : RightR r) (he : 0 ≤ r.epoch) : C Tryz.prog 29 [.agg (cRec r)] [] (.tup [rowV (.of (putR r)), vi .i64 0]) [] := by
  refine C_shutT (n := (putR r).length) ?_ rfl trivial
  refine C_of mixed Tryz.func29 A_codec_Record_ok A_codec_Record_res _ A_codec_Record_nt ?_
  have hk := rightR_kind h
  have sI : ∀ k, k ≤ 1000 → Sm (numI r.epoch) k := fun k hk => by simp only [Sm, numI_len]; omega
  by_cases k1 : r.kind = 1
  · have hv : RightV r.vault := by rcases h with h | ⟨_, h | h | h⟩ <;> first | exact h.2.1 | omega
    have hs : (putV r.vault).length + 1 ≤ 140737488355328 := by have := right_sec hv; rw [putV_len]; omega
    have e : putR r = by8 (IntKind.u8.wrap 1) :: putV r.vault := by rw [putR, if_pos k1, b8, k1]; rfl
    rw [e]
    (repeat' (first | simp (maxSteps := 2000000) -implicitDefEqProofs only [A_codec_Record, h, k1, hs, len_lst, rk_ext, fk_ext, sm_c, sm_a, numI_len, lr_api, lr, lr2, oO, oN, oG, oNG, oM, oF, oL, rg, ci, seval, resAll, resL, resV, blkAt, undef, fillV, evParts, footOp, wrOp, chk, disj] | split | ((first | apply ck_call | apply cfk_call); (first | (apply call_pure (rightR_C r) cll cl) | (apply call_pure (putVR_C r.vault hv) cll cl)))))
    exact out_rowT rfl trivial (bs_closed _)
  by_cases k2 : r.kind = 2
  · have e : putR r = by8 (IntKind.u8.wrap 2) :: by8 (IntKind.u8.wrap r.shard) :: by8 (IntKind.u8.wrap r.to) :: numI r.epoch := by rw [putR, if_neg k1, if_pos k2, b8, b8, b8, k2]; rfl
    rw [e]
    (repeat' (first | simp (maxSteps := 2000000) -implicitDefEqProofs only [A_codec_Record, h, k1, k2, len_lst, rk_ext, fk_ext, sm_c, sm_a, numI_len, lr_api, lr, lr2, oO, oN, oG, oNG, oM, oF, oL, rg, ci, seval, resAll, resL, resV, blkAt, undef, fillV, evParts, footOp, wrOp, chk, disj] | split | ((first | apply ck_call | apply cfk_call); (first | (apply call_pure (rightR_C r) cll cl) | (apply call_pure (numberI_C r.epoch he) cll cl)))))
    exact out_rowT rfl trivial (bs_closed _)
  by_cases k3 : r.kind = 3
  · have hr : RisingP r.vaults.l := by rcases h with h | ⟨_, h | h | h⟩ <;> first | exact h.2.2 | omega
    obtain ⟨l4, hvs⟩ := hr
    have d0 : (0 : Int) ≤ r.vaults.l.length := by omega
    have fl := flat_le r.vaults.l fun i hi => (hvs i hi).1
    obtain ⟨pre, hpre⟩ : ∃ pre, pre = by8 3 :: by8 (IntKind.u8.wrap r.shard) :: (numI r.epoch ++ [UInt8.ofNat r.vaults.l.length]) := ⟨_, rfl⟩
    have lp : pre.length = 11 := by rw [hpre]; simp [numI_len]
    have e : putR r = pre ++ r.vaults.l.flatMap putV := by rw [putR, if_neg k1, if_neg k2, if_pos k3, b8, b8, k3, hpre, show IntKind.u8.wrap 3 = 3 from rfl]; simp
    rw [e]
    (repeat' (first | simp (maxSteps := 2000000) -implicitDefEqProofs only [A_codec_Record, h, k1, k2, k3, d0, sI, len_lst, rk_ext, fk_ext, sm_c, sm_a, numI_len, lr_api, lr, lr2, oO, oN, oG, oNG, oM, oF, oL, rg, ci, seval, resAll, resL, resV, blkAt, undef, fillV, evParts, footOp, wrOp, chk, disj] | split | ((first | apply ck_call | apply cfk_call); (first | (apply call_pure (rightR_C r) cll cl) | (apply call_pure (numberI_C r.epoch he) cll cl)))))
    refine wk_loop (fun m S H => ∃ (i n : Nat) (B : List UInt8), i ≤ r.vaults.l.length ∧ n = B.length ∧ B = pre ++ (r.vaults.l.take i).flatMap putV ∧ m = r.vaults.l.length - i ∧ S = (.dead :: .ref 0 0 :: .dead :: .dead :: .sref 1 0 n 1 :: .dead :: .dead :: .dead :: .dead :: .dead :: .dead :: .dead :: .dead :: .dead :: .dead :: .dead :: .dead :: .dead :: .dead :: .dead :: .dead :: .dead :: .dead :: .dead :: .dead :: .dead :: .dead :: .dead :: .dead :: .dead :: .dead :: .dead :: .dead :: .dead :: .dead :: .dead :: .dead :: .dead :: .dead :: .dead :: .dead :: .dead :: .dead :: .dead :: .dead :: .dead :: .dead :: .dead :: .dead :: .dead :: .dead :: .dead :: .dead :: .dead :: .dead :: .dead :: .dead :: .dead :: .dead :: .dead :: .dead :: .dead :: .dead :: .dead :: .dead :: .dead :: .dead :: lstV cVlt r.vaults :: vi .i64 r.vaults.l.length :: vi .i64 i :: .dead :: .dead :: .dead :: .dead :: .dead :: .dead :: .dead :: .dead :: .dead :: []) ∧ H = [some (cRec r), some (bs B)]) r.vaults.l.length ⟨0, 11, by8 3 :: by8 (IntKind.u8.wrap r.shard) :: (numI r.epoch ++ [UInt8.ofNat r.vaults.l.length]), Nat.zero_le _, by rw [← hpre, lp], by simp [hpre], rfl, rfl, rfl⟩ (by refine .ren _ _ _ [0, 6] (by decide) (by intro k h; first | exact absurd h (Nat.not_lt_zero k) | (simp at h; done) | (rcases k with _ | _ | _ | k <;> first | rfl | (exfalso; omega) | (simp at h; done))) ?_ ?_ <;> simp [KeepS, KeepH, ArgRel, ArgRelL, argL_cl, arg_cl, row_l_of, row_l_nil, bn_len, blkAt, numI_len]) ?_
    rintro m S H ⟨i, n, B, hi, rfl, hB, rfl, rfl, rfl⟩ J hJ
    have c0 : (0 : Int) ≤ i := by omega
    by_cases hil : i < r.vaults.l.length
    · have c1 : (i : Int) < r.vaults.l.length := by omega
      have w1 : IntKind.i64.wrap ((i : Int) + 1) = ((i + 1 : Nat) : Int) := by rw [wrap_id _ (by omega) (by omega)]; omega
      have g1 := rd_flat cVlt_len r.vaults.l i hil
      have hv := (hvs i hil).1
      have e1 : B ++ putV (r.vaults.l.getD i default) = pre ++ (r.vaults.l.take (i + 1)).flatMap putV := by
        rw [hB, take_snoc _ _ hil, List.flatMap_append, List.append_assoc]; simp
      have ft : ((r.vaults.l.take i).flatMap putV).length ≤ 112 * 4 := by
        have := flat_le (r.vaults.l.take i) fun j hj => by
          rw [List.length_take] at hj
          have := (hvs j (by omega)).1
          rw [List.getD_eq_getElem?_getD, List.getElem?_take_of_lt (by omega), ← List.getD_eq_getElem?_getD]
          exact this
        rw [List.length_take] at this
        omega
      have hs : Sm B (putV (r.vaults.l.getD i default)).length := by
        have := right_sec hv
        rw [hB]
        simp only [Sm, List.length_append, lp, putV_len]; omega
      generalize r.vaults.l.getD i default = x at *
      (repeat' (first | simp (maxSteps := 2000000) -implicitDefEqProofs only [A_codec_Record_L0, c0, c1, w1, g1, hs, idx_lst cVlt_len, len_lst, rk_ext, fk_ext, sm_c, sm_a, numI_len, lr_api, lr, lr2, oO, oN, oG, oNG, oM, oF, oL, rg, ci, seval, resAll, resL, resV, blkAt, undef, fillV, evParts, footOp, wrOp, chk, disj] | split | ((first | apply ck_call | apply cfk_call); (first | (apply call_pure (putVR_C _ hv) cll cl)))))
      exact hJ _ _ _ _ _ (by omega) ⟨i + 1, (B ++ putV x).length, B ++ putV x, by omega, rfl, e1, rfl, rfl, rfl⟩ (by refine .ren _ _ _ [0, 3] (by decide) (by intro k h; first | exact absurd h (Nat.not_lt_zero k) | (simp at h; done) | (rcases k with _ | _ | _ | k <;> first | rfl | (exfalso; omega) | (simp at h; done))) ?_ ?_ <;> simp [KeepS, KeepH, ArgRel, ArgRelL, argL_cl, arg_cl, row_l_of, row_l_nil, bn_len, blkAt])
    · obtain rfl : i = r.vaults.l.length := by omega
      have c1 : ¬ ((r.vaults.l.length : Nat) : Int) < r.vaults.l.length := by omega
      rw [List.take_length] at hB
      (repeat' (first | simp (maxSteps := 2000000) -implicitDefEqProofs only [A_codec_Record_L0, K_codec_Record_L0, c1, len_lst, rk_ext, fk_ext, sm_c, sm_a, numI_len, lr_api, lr, lr2, oO, oN, oG, oNG, oM, oF, oL, rg, ci, seval, resAll, resL, resV, blkAt, undef, fillV, evParts, footOp, wrOp, chk, disj] | split))
      rw [hB]
      exact out_rowT rfl trivial (bs_closed _)
  · have k4 : r.kind = 4 := by omega
    have e : putR r = by8 (IntKind.u8.wrap 4) :: by8 (IntKind.u8.wrap r.shard) :: numI r.epoch := by rw [putR, if_neg k1, if_neg k2, if_neg k3, b8, b8, k4]; rfl
    rw [e]
    (repeat' (first | simp (maxSteps := 2000000) -implicitDefEqProofs only [A_codec_Record, h, k1, k2, k3, k4, len_lst, rk_ext, fk_ext, sm_c, sm_a, numI_len, lr_api, lr, lr2, oO, oN, oG, oNG, oM, oF, oL, rg, ci, seval, resAll, resL, resV, blkAt, undef, fillV, evParts, footOp, wrOp, chk, disj] | split | ((first | apply ck_call | apply cfk_call); (first | (apply call_pure (rightR_C r) cll cl) | (apply call_pure (numberI_C r.epoch he) cll cl)))))
    exact out_rowT rfl trivial (bs_closed _)
end Go.Proofs.YtfpoebmihjbknaaGreat.VA

/- Values are read: the program's reader. -/
set_option linter.unusedVariables false
set_option linter.unusedSimpArgs false
set_option maxRecDepth 100000
namespace Go.Proofs.YtfpoebmihjbknaaGreat.VA
open Go
attribute [local irreducible] WK NK XK TK RK FK CK CFK CallRel C
def takeL (n : Nat) (l : List UInt8) : List UInt8 := if l.length < n then List.replicate n 0 else l.take n
theorem takeL_len (n : Nat) (l : List UInt8) : (takeL n l).length = n := by
  unfold takeL
  split
  · simp
  · rw [List.length_take]; omega
def bnT (n : Nat) (l : List UInt8) : Bn n := ⟨takeL n l, takeL_len n l⟩
def dropS (n : Nat) (r : Rd) : Rd := if r.b.l.length < n then ⟨.nil, true⟩ else ⟨r.b.cut n r.b.l.length, r.bad⟩
theorem take_C (n : Nat) (h1 : 1 ≤ n) (h2 : n ≤ 1000000) (r : Rd) : C Tryz.prog 88 [.ref 0 0, vi .i64 n] [cRd r] (rowV (.of (takeL n r.b.l))) [some (cRd (dropS n r))] := by
  refine C_of mixed Tryz.func88 A_codec_reader_take_ok A_codec_reader_take_res _ A_codec_reader_take_nt ?_
  have d0 : (0 : Int) ≤ n := by omega
  have d1 : (n : Int) ≤ 140737488355328 := by omega
  by_cases h : r.b.l.length < n
  · have c1 : (r.b.l.length : Int) < n := by omega
    rw [takeL, if_pos h, dropS, if_pos h]
    (repeat' (first | simp (maxSteps := 2000000) -implicitDefEqProofs only [A_codec_reader_take, c1, d0, d1, zc_z1, len_lst, rk_ext, fk_ext, sm_c, sm_a, numI_len, lr_api, lr, lr2, oO, oN, oG, oNG, oM, oF, oL, rg, ci, seval, resAll, resL, resV, blkAt, undef, fillV, evParts, footOp, wrOp, chk, disj] | split))
    exact out_updS rfl rfl (by simp) (by decide) (cRd_closed _)
  · have c1 : ¬ (r.b.l.length : Int) < n := by omega
    have c2 : (n : Int) ≤ r.b.l.length := by omega
    rw [takeL, if_neg h, dropS, if_neg h]
    have e : rowV (.of (r.b.l.take n)) = rowV (r.b.cut 0 n) := by
      cases hb : r.b with
      | nil => rw [hb] at h; simp [Row.l] at h; omega
      | of l => simp [Row.cut, Row.l]
    rw [e]
    (repeat' (first | simp (maxSteps := 2000000) -implicitDefEqProofs only [A_codec_reader_take, c1, c2, d0, d1, len_lst, rk_ext, fk_ext, sm_c, sm_a, numI_len, lr_api, lr, lr2, oO, oN, oG, oNG, oM, oF, oL, rg, ci, seval, resAll, resL, resV, blkAt, undef, fillV, evParts, footOp, wrOp, chk, disj] | split))
    exact out_updE rfl rfl rfl (cRd_closed _) (row_closed _)
theorem take0_C (r : Rd) : C Tryz.prog 88 [.ref 0 0, vi .i64 0] [cRd r] (rowV (r.b.cut 0 0)) [some (cRd r)] := by
  refine C_of mixed Tryz.func88 A_codec_reader_take_ok A_codec_reader_take_res _ A_codec_reader_take_nt ?_
  have c1 : ¬ (r.b.l.length : Int) < 0 := by omega
  have d1 : (0 : Int) ≤ r.b.l.length := by omega
  (repeat' (first | simp (maxSteps := 2000000) -implicitDefEqProofs only [A_codec_reader_take, c1, d1, len_lst, rk_ext, fk_ext, sm_c, sm_a, numI_len, lr_api, lr, lr2, oO, oN, oG, oNG, oM, oF, oL, rg, ci, seval, resAll, resL, resV, blkAt, undef, fillV, evParts, footOp, wrOp, chk, disj] | split))
  exact out_updE rfl (by rw [cut_all]) rfl (cRd_closed _) (row_closed _)
def oneV (r : Rd) : Int := ((takeL 1 r.b.l).getD 0 0).toNat
theorem oneV_range (r : Rd) : 0 ≤ oneV r ∧ oneV r ≤ 255 := by
  have := ((takeL 1 r.b.l).getD 0 0).toNat_lt
  unfold oneV; omega
theorem one_C (r : Rd) : C Tryz.prog 69 [.ref 0 0] [cRd r] (vi .i64 (oneV r)) [some (cRd (dropS 1 r))] := by
  refine C_of mixed Tryz.func69 A_codec_reader_one_ok A_codec_reader_one_res _ A_codec_reader_one_nt ?_
  have hl := takeL_len 1 r.b.l
  (repeat' (first | simp (maxSteps := 2000000) -implicitDefEqProofs only [A_codec_reader_one, hl, rd_bs, w64_b, len_lst, rk_ext, fk_ext, sm_c, sm_a, numI_len, lr_api, lr, lr2, oO, oN, oG, oNG, oM, oF, oL, rg, ci, seval, resAll, resL, resV, blkAt, undef, fillV, evParts, footOp, wrOp, chk, disj] | split | ((first | apply ck_call | apply cfk_call); (first | (apply call_upd (take_C 1 (by decide) (by decide) r) rfl cll cll cll cl)))))
  exact out_updE rfl rfl rfl (cRd_closed _) trivial
theorem number_walk (r : Rd) : C Tryz.prog 71 [.ref 0 0] [cRd r] (vi .u64 (numB (takeL 8 r.b.l))) [some (cRd (dropS 8 r))] := by
  refine C_of mixed Tryz.func71 A_codec_reader_number_ok A_codec_reader_number_res _ A_codec_reader_number_nt ?_
  have hl := takeL_len 8 r.b.l
  (repeat' (first | simp (maxSteps := 2000000) -implicitDefEqProofs only [A_codec_reader_number, hl, len_lst, rk_ext, fk_ext, sm_c, sm_a, numI_len, lr_api, lr, lr2, oO, oN, oG, oNG, oM, oF, oL, rg, ci, seval, resAll, resL, resV, blkAt, undef, fillV, evParts, footOp, wrOp, chk, disj] | split | ((first | apply ck_call | apply cfk_call); (first | (apply call_upd (take_C 8 (by decide) (by decide) r) rfl cll cll cll cl)))))
  generalize takeL 8 r.b.l = l at hl ⊢
  refine wk_loop (fun m S H => ∃ i : Nat, i ≤ 8 ∧ m = 8 - i ∧ S = (.ref 0 0 :: .dead :: .dead :: vi .u64 (numB (l.take i)) :: .dead :: .dead :: .dead :: rowV (.of l) :: vi .i64 8 :: vi .i64 i :: .dead :: .dead :: .dead :: .dead :: .dead :: .dead :: .dead :: .dead :: .dead :: .dead :: []) ∧ H = [some (cRd (dropS 8 r))]) 8 ⟨0, Nat.zero_le _, rfl, rfl, rfl⟩ (by refine .ren _ _ _ [0] (by decide) (by intro k h; first | exact absurd h (Nat.not_lt_zero k) | (simp at h; done) | (rcases k with _ | _ | _ | k <;> first | rfl | (exfalso; omega) | (simp at h; done))) ?_ ?_ <;> simp [KeepS, KeepH, ArgRel, ArgRelL, argL_cl, arg_cl, row_l_of, row_l_nil, bn_len, blkAt, numB_nil]) ?_
  rintro m S H ⟨i, hi, rfl, rfl, rfl⟩ J hJ
  have d0 : (0 : Int) ≤ i := by omega
  by_cases hi8 : i < 8
  · have d1 : (i : Int) < 8 := by omega
    have w1 : IntKind.i64.wrap ((i : Int) + 1) = ((i + 1 : Nat) : Int) := by rw [wrap_id _ (by omega) (by omega)]; omega
    have e : l.take (i + 1) = l.take i ++ [l.getD i 0] := by rw [List.take_add_one]; simp [List.getElem?_eq_getElem (show i < l.length by omega)]
    have lt := numB_lt (l.take i)
    have hlt : numB (l.take i) * 256 < 18446744073709551616 := by
      have h7 : (256 : Nat) ^ (l.take i).length ≤ 256 ^ 7 := Nat.pow_le_pow_right (by decide) (by rw [List.length_take]; omega)
      have : (256 : Nat) ^ 7 = 72057594037927936 := by decide
      omega
    have sh : evBin .shl (.sc (.int .u64 (numB (l.take i) : Int))) (.sc (.int .u64 8)) = some (.sc (.int .u64 ((numB (l.take i) * 256 % 18446744073709551616 : Nat) : Int))) := shl_u64 .u64 (numB (l.take i)) 8 (by decide) (by decide)
    have wb : IntKind.u64.wrap ((l.getD i 0).toNat : Int) = ((l.getD i 0).toNat : Int) := by
      have := (l.getD i 0).toNat_lt
      exact IntWalk.u64_in _ ⟨by omega, by omega⟩
    have eo : numB (l.take i) * 256 % 18446744073709551616 + (l.getD i 0).toNat = numB (l.take (i + 1)) := by rw [Nat.mod_eq_of_lt hlt, e, numB_snoc]
    have og := or64 (numB (l.take i)) (l.getD i 0)
    rw [eo] at og
    (repeat' (first | simp (maxSteps := 2000000) -implicitDefEqProofs only [A_codec_reader_number_L0, d0, d1, hl, w1, sh, wb, og, hi8, rd_bs_drop, len_lst, rk_ext, fk_ext, sm_c, sm_a, numI_len, lr_api, lr, lr2, oO, oN, oG, oNG, oM, oF, oL, rg, ci, seval, resAll, resL, resV, blkAt, undef, fillV, evParts, footOp, wrOp, chk, disj] | split))
    exact hJ _ _ _ _ _ (by omega) ⟨i + 1, by omega, rfl, rfl, rfl⟩ (by refine .ren _ _ _ [0] (by decide) (by intro k h; first | exact absurd h (Nat.not_lt_zero k) | (simp at h; done) | (rcases k with _ | _ | _ | k <;> first | rfl | (exfalso; omega) | (simp at h; done))) ?_ ?_ <;> simp [KeepS, KeepH, ArgRel, ArgRelL, argL_cl, arg_cl, row_l_of, row_l_nil, bn_len, blkAt])
  · obtain rfl : i = 8 := by omega
    rw [List.take_of_length_le (by omega)]
    (repeat' (first | simp (maxSteps := 2000000) -implicitDefEqProofs only [A_codec_reader_number_L0, K_codec_reader_number_L0, len_lst, rk_ext, fk_ext, sm_c, sm_a, numI_len, lr_api, lr, lr2, oO, oN, oG, oNG, oM, oF, oL, rg, ci, seval, resAll, resL, resV, blkAt, undef, fillV, evParts, footOp, wrOp, chk, disj] | split))
    exact out_updE rfl rfl rfl (cRd_closed _) trivial
theorem id_C (r : Rd) : C Tryz.prog 89 [.ref 0 0] [cRd r] (.agg (dg (bnT 4 r.b.l))) [some (cRd (dropS 4 r))] := by
  refine C_of mixed Tryz.func89 A_codec_reader_id_ok A_codec_reader_id_res _ A_codec_reader_id_nt ?_
  have hl := takeL_len 4 r.b.l
  have e : bs (takeL 4 r.b.l) = dg (bnT 4 r.b.l) := rfl
  have e2 : rd (some 4) (dg (bnT 4 r.b.l)) 0 = some (.agg (dg (bnT 4 r.b.l))) := rd_sE _ _ (dg_len _)
  (repeat' (first | simp (maxSteps := 2000000) -implicitDefEqProofs only [A_codec_reader_id, hl, e, e2, len_lst, rk_ext, fk_ext, sm_c, sm_a, numI_len, lr_api, lr, lr2, oO, oN, oG, oNG, oM, oF, oL, rg, ci, seval, resAll, resL, resV, blkAt, undef, fillV, evParts, footOp, wrOp, chk, disj] | split | ((first | apply ck_call | apply cfk_call); (first | (apply call_upd (take_C 4 (by decide) (by decide) r) rfl cll cll cll cl)))))
  exact out_updE rfl rfl rfl (cRd_closed _) (dg_closed _)
theorem digest_C (r : Rd) : C Tryz.prog 90 [.ref 0 0] [cRd r] (.agg (dg (bnT 16 r.b.l))) [some (cRd (dropS 16 r))] := by
  refine C_of mixed Tryz.func90 A_codec_reader_digest_ok A_codec_reader_digest_res _ A_codec_reader_digest_nt ?_
  have hl := takeL_len 16 r.b.l
  have e : bs (takeL 16 r.b.l) = dg (bnT 16 r.b.l) := rfl
  have e2 : rd (some 16) (dg (bnT 16 r.b.l)) 0 = some (.agg (dg (bnT 16 r.b.l))) := rd_sE _ _ (dg_len _)
  (repeat' (first | simp (maxSteps := 2000000) -implicitDefEqProofs only [A_codec_reader_digest, hl, e, e2, len_lst, rk_ext, fk_ext, sm_c, sm_a, numI_len, lr_api, lr, lr2, oO, oN, oG, oNG, oM, oF, oL, rg, ci, seval, resAll, resL, resV, blkAt, undef, fillV, evParts, footOp, wrOp, chk, disj] | split | ((first | apply ck_call | apply cfk_call); (first | (apply call_upd (take_C 16 (by decide) (by decide) r) rfl cll cll cll cl)))))
  exact out_updE rfl rfl rfl (cRd_closed _) (dg_closed _)
theorem cloneR_C (r : Row) (h : r.l.length ≤ 1000000) : C Tryz.prog 92 [rowV r] [] (rowV r) [] := by
  cases r with
  | nil => exact cloneN_C
  | of l => exact C_shut (clone_C l (by simp only [Row.l] at h; omega)) rfl
def textR (r : Rd) : Row := if oneV r = 0 then (dropS 1 r).b.cut 0 0 else .of (takeL (oneV r).toNat (dropS 1 r).b.l)
def textS (r : Rd) : Rd := if oneV r = 0 then dropS 1 r else dropS (oneV r).toNat (dropS 1 r)
theorem text_C (r : Rd) : C Tryz.prog 91 [.ref 0 0] [cRd r] (rowV (textR r)) [some (cRd (textS r))] := by
  refine C_of mixed Tryz.func91 A_codec_reader_text_ok A_codec_reader_text_res _ A_codec_reader_text_nt ?_
  have hr := oneV_range r
  unfold textR textS
  by_cases h : oneV r = 0
  · rw [if_pos h, if_pos h]
    (repeat' (first | simp (maxSteps := 2000000) -implicitDefEqProofs only [A_codec_reader_text, h, len_lst, rk_ext, fk_ext, sm_c, sm_a, numI_len, lr_api, lr, lr2, oO, oN, oG, oNG, oM, oF, oL, rg, ci, seval, resAll, resL, resV, blkAt, undef, fillV, evParts, footOp, wrOp, chk, disj] | split | ((first | apply ck_call | apply cfk_call); (first | (apply call_upd (one_C r) rfl cll cll cll cl) | (apply call_upd (take0_C (dropS 1 r)) rfl cll cll cll cl) | (apply call_pure (cloneR_C ((dropS 1 r).b.cut 0 0) (by rw [cut_l]; simp)) cll cl)))))
    exact out_updE rfl rfl rfl (cRd_closed _) (row_closed _)
  · rw [if_neg h, if_neg h]
    obtain ⟨n, hn⟩ : ∃ n : Nat, oneV r = n := ⟨(oneV r).toNat, by omega⟩
    have hn1 : 1 ≤ n := by omega
    have hn2 : n ≤ 255 := by omega
    rw [hn, Int.toNat_natCast]
    (repeat' (first | simp (maxSteps := 2000000) -implicitDefEqProofs only [A_codec_reader_text, hn, len_lst, rk_ext, fk_ext, sm_c, sm_a, numI_len, lr_api, lr, lr2, oO, oN, oG, oNG, oM, oF, oL, rg, ci, seval, resAll, resL, resV, blkAt, undef, fillV, evParts, footOp, wrOp, chk, disj] | split | ((first | apply ck_call | apply cfk_call); (first | (apply call_upd (one_C r) rfl cll cll cll cl) | (apply call_upd (take_C n hn1 (by omega) (dropS 1 r)) rfl cll cll cll cl) | (apply call_pure (cloneR_C (.of (takeL n (dropS 1 r).b.l)) (by rw [row_l_of, takeL_len]; omega)) cll cl)))))
    exact out_updE rfl rfl rfl (cRd_closed _) (row_closed _)
theorem left_C (r : Rd) : C Tryz.prog 72 [.ref 0 0] [cRd r] (vb (r.bad || decide (0 < r.b.l.length))) [some (cRd r)] := by
  refine C_of mixed Tryz.func72 A_codec_reader_left_ok A_codec_reader_left_res _ A_codec_reader_left_nt ?_
  (repeat' (first | simp (maxSteps := 2000000) -implicitDefEqProofs only [A_codec_reader_left, len_lst, rk_ext, fk_ext, sm_c, sm_a, numI_len, lr_api, lr, lr2, oO, oN, oG, oNG, oM, oF, oL, rg, ci, seval, resAll, resL, resV, blkAt, undef, fillV, evParts, footOp, wrOp, chk, disj] | split))
  all_goals (refine out_updE rfl rfl ?_ (cRd_closed _) trivial; simp_all)
def badF (f : Int) : Bool := decide (f ≠ 0 ∧ f ≠ 1 ∧ f ≠ 3)
structure VltS where
  s1 : Rd
  s2 : Rd
  s3 : Rd
  s4 : Rd
  s5 : Rd
  s6 : Rd
  s7 : Rd
  s8 : Rd
def vltS (r : Rd) : VltS :=
  let s1 := dropS 4 r
  let s2 := dropS 8 s1
  let s3 : Rd := { dropS 1 s2 with bad := (dropS 1 s2).bad || badF (oneV s2) }
  let s4 := dropS 1 s3
  let s5 := dropS 1 s4
  let s6 := dropS 16 s5
  let s7 := dropS 16 s6
  ⟨s1, s2, s3, s4, s5, s6, s7, textS s7⟩
def vltV (r : Rd) : Vlt :=
  ⟨bnT 4 r.b.l, numB (takeL 8 (vltS r).s1.b.l), bnT 16 (vltS r).s5.b.l, textR (vltS r).s7, oneV (vltS r).s3, oneV (vltS r).s4, bnT 16 (vltS r).s6.b.l, oneV (vltS r).s2 != 0, oneV (vltS r).s2 == 3⟩
def vltE (r : Rd) : Rd := { (vltS r).s8 with bad := (vltS r).s8.bad || !decide (RightV (vltV r)) }
end Go.Proofs.YtfpoebmihjbknaaGreat.VA

/- A vault is read: the program's. -/
set_option linter.unusedVariables false
set_option linter.unusedSimpArgs false
set_option maxRecDepth 100000
namespace Go.Proofs.YtfpoebmihjbknaaGreat.VA
open Go
attribute [local irreducible] WK NK XK TK RK FK CK CFK CallRel C
theorem bad0 : badF 0 = false := by decide
theorem bad1 : badF 1 = false := by decide
theorem bad3 : badF 3 = false := by decide
attribute [local irreducible] dropS textS textR oneV takeL bnT numB RightV badF
theorem s3_of {q s : Rd} {f : Int} {b : Bool} (h : s = ⟨q.b, q.bad || badF f⟩) (hb : (q.bad || badF f) = b) : (⟨q.b, b⟩ : Rd) = s := by rw [h, hb]
set_option maxHeartbeats 4000000 in
theorem vault_C (r : Rd) : C Tryz.prog 70 [.ref 0 0] [cRd r] (.agg (cVlt (vltV r))) [some (cRd (vltE r))] := by
  refine C_of mixed Tryz.func70 A_codec_reader_vault_ok A_codec_reader_vault_res _ A_codec_reader_vault_nt ?_
  have hE : vltE r = ⟨(vltS r).s8.b, (vltS r).s8.bad || !decide (RightV (vltV r))⟩ := rfl
  have hx : vltV r = ⟨bnT 4 r.b.l, numB (takeL 8 (vltS r).s1.b.l), bnT 16 (vltS r).s5.b.l, textR (vltS r).s7, oneV (vltS r).s3, oneV (vltS r).s4, bnT 16 (vltS r).s6.b.l, oneV (vltS r).s2 != 0, oneV (vltS r).s2 == 3⟩ := rfl
  have h3 : (vltS r).s3 = ⟨(dropS 1 (vltS r).s2).b, (dropS 1 (vltS r).s2).bad || badF (oneV (vltS r).s2)⟩ := rfl
  have c1 : C Tryz.prog 89 [.ref 0 0] [cRd r] (.agg (dg (bnT 4 r.b.l))) [some (cRd (vltS r).s1)] := id_C r
  have c2 : C Tryz.prog 71 [.ref 0 0] [cRd (vltS r).s1] (vi .u64 (numB (takeL 8 (vltS r).s1.b.l))) [some (cRd (vltS r).s2)] := number_walk _
  have c3 := one_C (vltS r).s2
  have c4 : C Tryz.prog 69 [.ref 0 0] [cRd (vltS r).s3] (vi .i64 (oneV (vltS r).s3)) [some (cRd (vltS r).s4)] := one_C _
  have c5 : C Tryz.prog 69 [.ref 0 0] [cRd (vltS r).s4] (vi .i64 (oneV (vltS r).s4)) [some (cRd (vltS r).s5)] := one_C _
  have c6 : C Tryz.prog 90 [.ref 0 0] [cRd (vltS r).s5] (.agg (dg (bnT 16 (vltS r).s5.b.l))) [some (cRd (vltS r).s6)] := digest_C _
  have c7 : C Tryz.prog 90 [.ref 0 0] [cRd (vltS r).s6] (.agg (dg (bnT 16 (vltS r).s6.b.l))) [some (cRd (vltS r).s7)] := digest_C _
  have c8 : C Tryz.prog 91 [.ref 0 0] [cRd (vltS r).s7] (rowV (textR (vltS r).s7)) [some (cRd (vltS r).s8)] := text_C _
  generalize vltV r = X at hE hx ⊢
  generalize vltE r = E at hE ⊢
  generalize vltS r = z at *
  obtain ⟨s1, s2, s3, s4, s5, s6, s7, s8⟩ := z
  simp only [] at hE hx h3 c1 c2 c3 c4 c5 c6 c7 c8
  generalize dropS 1 s2 = q at h3 c3
  generalize bnT 4 r.b.l = xid at *
  generalize numB (takeL 8 s1.b.l) = xgen at *
  generalize bnT 16 s5.b.l = xpin at *
  generalize textR s7 = xsec at *
  generalize oneV s3 = xlim at *
  generalize oneV s4 = xus at *
  generalize bnT 16 s6.b.l = xown at *
  by_cases hb : q.bad = true
  · have e3 := s3_of h3 (b := true) (by simp [hb])
    (repeat' (first | simp (maxSteps := 2000000) -implicitDefEqProofs only [A_codec_reader_vault, hb, e3, len_lst, rk_ext, fk_ext, sm_c, sm_a, numI_len, lr_api, lr, lr2, oO, oN, oG, oNG, oM, oF, oL, rg, ci, seval, resAll, resL, resV, blkAt, undef, fillV, evParts, footOp, wrOp, chk, disj] | split | ((first | apply ck_call | apply cfk_call); (first | (apply call_upd (c1) rfl cll cll cll cl) | (apply call_upd (c2) rfl cll cll cll cl) | (apply call_upd (c3) rfl cll cll cll cl) | (apply call_upd (c4) rfl cll cll cll cl) | (apply call_upd (c5) rfl cll cll cll cl) | (apply call_upd (c6) rfl cll cll cll cl) | (apply call_upd (c7) rfl cll cll cll cl) | (apply call_upd (c8) rfl cll cll cll cl) | (apply call_pure (rightV_C _) cll cl)))))
    all_goals (refine out_updE rfl (congrArg cRd ?_) (congrArg V.agg (congrArg cVlt hx.symm)) (cRd_closed _) (cVlt_closed _); rw [hE, hx]; simp [*])
  have hb' : q.bad = false := by simpa using hb
  have fin : ∀ (f : Int) (g w b : Bool), oneV s2 = f → (f != 0) = g → (f == 3) = w → badF f = b → (⟨q.b, b⟩ : Rd) = s3 ∧ X = ⟨xid, xgen, xpin, xsec, xlim, xus, xown, g, w⟩ := fun f g w b h1 h2 h4 h5 => by
    subst h1
    exact ⟨s3_of h3 (by rw [hb', h5]; rfl), by rw [hx, h2, h4]⟩
  by_cases f0 : oneV s2 = 0
  · obtain ⟨e3, ex⟩ := fin 0 false false false f0 rfl rfl bad0
    (repeat' (first | simp (maxSteps := 2000000) -implicitDefEqProofs only [A_codec_reader_vault, hb', f0, e3, len_lst, rk_ext, fk_ext, sm_c, sm_a, numI_len, lr_api, lr, lr2, oO, oN, oG, oNG, oM, oF, oL, rg, ci, seval, resAll, resL, resV, blkAt, undef, fillV, evParts, footOp, wrOp, chk, disj] | split | ((first | apply ck_call | apply cfk_call); (first | (apply call_upd (c1) rfl cll cll cll cl) | (apply call_upd (c2) rfl cll cll cll cl) | (apply call_upd (c3) rfl cll cll cll cl) | (apply call_upd (c4) rfl cll cll cll cl) | (apply call_upd (c5) rfl cll cll cll cl) | (apply call_upd (c6) rfl cll cll cll cl) | (apply call_upd (c7) rfl cll cll cll cl) | (apply call_upd (c8) rfl cll cll cll cl) | (apply call_pure (rightV_C _) cll cl)))))
    all_goals (refine out_updE rfl (congrArg cRd ?_) (congrArg V.agg (congrArg cVlt ex.symm)) (cRd_closed _) (cVlt_closed _); rw [hE, ex]; simp [*])
  by_cases f1 : oneV s2 = 1
  · obtain ⟨e3, ex⟩ := fin 1 true false false f1 rfl rfl bad1
    (repeat' (first | simp (maxSteps := 2000000) -implicitDefEqProofs only [A_codec_reader_vault, hb', f1, e3, len_lst, rk_ext, fk_ext, sm_c, sm_a, numI_len, lr_api, lr, lr2, oO, oN, oG, oNG, oM, oF, oL, rg, ci, seval, resAll, resL, resV, blkAt, undef, fillV, evParts, footOp, wrOp, chk, disj] | split | ((first | apply ck_call | apply cfk_call); (first | (apply call_upd (c1) rfl cll cll cll cl) | (apply call_upd (c2) rfl cll cll cll cl) | (apply call_upd (c3) rfl cll cll cll cl) | (apply call_upd (c4) rfl cll cll cll cl) | (apply call_upd (c5) rfl cll cll cll cl) | (apply call_upd (c6) rfl cll cll cll cl) | (apply call_upd (c7) rfl cll cll cll cl) | (apply call_upd (c8) rfl cll cll cll cl) | (apply call_pure (rightV_C _) cll cl)))))
    all_goals (refine out_updE rfl (congrArg cRd ?_) (congrArg V.agg (congrArg cVlt ex.symm)) (cRd_closed _) (cVlt_closed _); rw [hE, ex]; simp [*])
  by_cases f3 : oneV s2 = 3
  · obtain ⟨e3, ex⟩ := fin 3 true true false f3 rfl rfl bad3
    (repeat' (first | simp (maxSteps := 2000000) -implicitDefEqProofs only [A_codec_reader_vault, hb', f3, e3, len_lst, rk_ext, fk_ext, sm_c, sm_a, numI_len, lr_api, lr, lr2, oO, oN, oG, oNG, oM, oF, oL, rg, ci, seval, resAll, resL, resV, blkAt, undef, fillV, evParts, footOp, wrOp, chk, disj] | split | ((first | apply ck_call | apply cfk_call); (first | (apply call_upd (c1) rfl cll cll cll cl) | (apply call_upd (c2) rfl cll cll cll cl) | (apply call_upd (c3) rfl cll cll cll cl) | (apply call_upd (c4) rfl cll cll cll cl) | (apply call_upd (c5) rfl cll cll cll cl) | (apply call_upd (c6) rfl cll cll cll cl) | (apply call_upd (c7) rfl cll cll cll cl) | (apply call_upd (c8) rfl cll cll cll cl) | (apply call_pure (rightV_C _) cll cl)))))
    all_goals (refine out_updE rfl (congrArg cRd ?_) (congrArg V.agg (congrArg cVlt ex.symm)) (cRd_closed _) (cVlt_closed _); rw [hE, ex]; simp [*])
  · have n0 : (oneV s2 != 0) = true := by simpa using f0
    have n1 : (oneV s2 != 1) = true := by simpa using f1
    have n4 : (oneV s2 != 3) = true := by simpa using f3
    have n3 : (oneV s2 == 3) = false := by simpa using f3
    obtain ⟨e3, ex⟩ := fin (oneV s2) true false true rfl n0 n3 (by unfold badF; simp [f0, f1, f3])
    (repeat' (first | simp (maxSteps := 2000000) -implicitDefEqProofs only [A_codec_reader_vault, hb', f0, f1, f3, n0, n1, n4, n3, e3, len_lst, rk_ext, fk_ext, sm_c, sm_a, numI_len, lr_api, lr, lr2, oO, oN, oG, oNG, oM, oF, oL, rg, ci, seval, resAll, resL, resV, blkAt, undef, fillV, evParts, footOp, wrOp, chk, disj] | split | ((first | apply ck_call | apply cfk_call); (first | (apply call_upd (c1) rfl cll cll cll cl) | (apply call_upd (c2) rfl cll cll cll cl) | (apply call_upd (c3) rfl cll cll cll cl) | (apply call_upd (c4) rfl cll cll cll cl) | (apply call_upd (c5) rfl cll cll cll cl) | (apply call_upd (c6) rfl cll cll cll cl) | (apply call_upd (c7) rfl cll cll cll cl) | (apply call_upd (c8) rfl cll cll cll cl) | (apply call_pure (rightV_C _) cll cl)))))
    all_goals (refine out_updE rfl (congrArg cRd ?_) (congrArg V.agg (congrArg cVlt ex.symm)) (cRd_closed _) (cVlt_closed _); rw [hE, ex]; simp [*])
end Go.Proofs.YtfpoebmihjbknaaGreat.VA

/- Vaults, requests, replies are read: the program's. -/
set_option linter.unusedVariables false
set_option linter.unusedSimpArgs false
set_option maxRecDepth 100000
namespace Go.Proofs.YtfpoebmihjbknaaGreat.VA
open Go
attribute [local irreducible] WK NK XK TK RK FK CK CFK CallRel C
def rd0 (b : Row) : Rd := ⟨b, false⟩
theorem rd0_of (b : Row) : (⟨b, Rd.zero.bad⟩ : Rd) = rd0 b := rfl
attribute [local irreducible] dropS textS textR oneV takeL bnT numB RightV RightQ RightP badF vltV vltE rd0
def endP (r : Rd) : Prop := r.bad = false ∧ r.b.l.length = 0
instance (r : Rd) : Decidable (endP r) := by unfold endP; infer_instance
theorem endP_left (r : Rd) : (r.bad || decide (0 < r.b.l.length)) = !decide (endP r) := by
  obtain ⟨b, bad⟩ := r
  cases bad <;> simp [endP]
  rw [Bool.eq_iff_iff]
  simp only [decide_eq_true_eq, Bool.not_eq_true', decide_eq_false_iff_not]
  cases b.l <;> simp
theorem leftE_C (r : Rd) : C Tryz.prog 72 [.ref 0 0] [cRd r] (vb (!decide (endP r))) [some (cRd r)] := by
  have := left_C r
  rwa [endP_left] at this
end Go.Proofs.YtfpoebmihjbknaaGreat.VA

/- Replies, records are read: the program's. -/
set_option linter.unusedVariables false
set_option linter.unusedSimpArgs false
set_option maxRecDepth 100000
namespace Go.Proofs.YtfpoebmihjbknaaGreat.VA
open Go
attribute [local irreducible] WK NK XK TK RK FK CK CFK CallRel C
attribute [local irreducible] dropS textS textR oneV takeL bnT numB RightV RightQ RightP RightR badF vltV vltE rd0
def seqV : Nat → Rd → List Vlt × Rd
  | 0, r => ([], r)
  | n + 1, r => ((seqV n r).1 ++ [vltV (seqV n r).2], vltE (seqV n r).2)
theorem seqV_len (r : Rd) : ∀ n, (seqV n r).1.length = n
  | 0 => rfl
  | n + 1 => by simp [seqV, seqV_len r n]
def lstOf (l : List Vlt) : Lst Vlt := if l = [] then .nil else .of l
theorem lstOf_l (l : List Vlt) : (lstOf l).l = l := by
  unfold lstOf; split
  · rename_i h; rw [h]; rfl
  · rfl
structure RecS where
  x : Rec
  e : Rd
def recS (r : Rd) : RecS :=
  if oneV r = 1 then ⟨⟨1, 0, 0, 0, vltV (dropS 1 r), .nil⟩, vltE (dropS 1 r)⟩
  else if oneV r = 2 then ⟨⟨2, oneV (dropS 1 r), oneV (dropS 1 (dropS 1 r)), numB (takeL 8 (dropS 1 (dropS 1 (dropS 1 r))).b.l), Vlt.zero, .nil⟩, dropS 8 (dropS 1 (dropS 1 (dropS 1 r)))⟩
  else if oneV r = 3 then
    ⟨⟨3, oneV (dropS 1 r), 0, numB (takeL 8 (dropS 1 (dropS 1 r)).b.l), Vlt.zero, lstOf (seqV (min (oneV (dropS 8 (dropS 1 (dropS 1 r)))) 5).toNat (dropS 1 (dropS 8 (dropS 1 (dropS 1 r))))).1⟩,
      (seqV (min (oneV (dropS 8 (dropS 1 (dropS 1 r)))) 5).toNat (dropS 1 (dropS 8 (dropS 1 (dropS 1 r))))).2⟩
  else if oneV r = 4 then ⟨⟨4, oneV (dropS 1 r), 0, numB (takeL 8 (dropS 1 (dropS 1 r)).b.l), Vlt.zero, .nil⟩, dropS 8 (dropS 1 (dropS 1 r))⟩
  else ⟨⟨oneV r, 0, 0, 0, Vlt.zero, .nil⟩, dropS 1 r⟩
def recOut (s : RecS) : V := if endP s.e ∧ RightR s.x then .tup [.agg (cRec s.x), vi .i64 0] else .tup [.agg (cRec Rec.zero), vi .i64 12]
theorem zr_shard : Rec.zero.shard = 0 := rfl
theorem zr_to : Rec.zero.to = 0 := rfl
theorem zr_epoch : Rec.zero.epoch = 0 := rfl
theorem zr_vault : Rec.zero.vault = Vlt.zero := rfl
theorem zr_vaults : Rec.zero.vaults = .nil := rfl
theorem gRec_ids (x : Rec) (i o n z : Nat) : idsInL (gRec_vaults x (.sref i o n z)) = [i] := by
  simp only [gRec_vaults, idsInL, ids_app, idsL_closed _ (cVlt_closed _), idsIn, List.nil_append, List.append_nil]
theorem argGG_Rec {H : Heap} {ids : List Nat} {x : Rec} {id k n z : Nat} (h : ids[k]? = some id) : ArgRelL H ids [] (gRec_vaults x (.sref id 0 n z)) (gRec_vaults x (.sref k 0 n z)) ↔ True := by
  refine ⟨fun _ => trivial, fun _ => ?_⟩
  have hs : ArgRel H ids [] (.sref id 0 n z) (.sref k 0 n z) := by simp only [ArgRel]; exact .inl ⟨k, h, rfl⟩
  exact argL_cons (arg_closed _ trivial) (argL_cons (arg_closed _ trivial) (argL_cons (arg_closed _ trivial) (argL_cons (arg_closed _ trivial) (argL_app (argL_closed _ (cVlt_closed _)) (argL_cons hs argL_nil)))))
theorem blk_zVlt (cs : List V) : blkOf zVlt cs = cs := rfl
set_option maxHeartbeats 4000000 in
theorem toRecord3_C (b : Row) (r : Rd) (e0 : (⟨b, Rd.zero.bad⟩ : Rd) = r) (hk : oneV r = 3) : C Tryz.prog 50 [rowV b] []
    (recOut ⟨⟨3, oneV (dropS 1 r), 0, numB (takeL 8 (dropS 1 (dropS 1 r)).b.l), Vlt.zero, lstOf (seqV (min (oneV (dropS 8 (dropS 1 (dropS 1 r)))) 5).toNat (dropS 1 (dropS 8 (dropS 1 (dropS 1 r))))).1⟩,
      (seqV (min (oneV (dropS 8 (dropS 1 (dropS 1 r)))) 5).toNat (dropS 1 (dropS 8 (dropS 1 (dropS 1 r))))).2⟩) [] := by
  refine C_of mixed Tryz.func50 A_codec_ToRecord_ok A_codec_ToRecord_res _ A_codec_ToRecord_nt ?_
  have c1 := one_C r
  rw [hk] at c1
  have c2 := one_C (dropS 1 r)
  have c3 := number_walk (dropS 1 (dropS 1 r))
  have c4 := one_C (dropS 8 (dropS 1 (dropS 1 r)))
  have hr4 := oneV_range (dropS 8 (dropS 1 (dropS 1 r)))
  generalize oneV (dropS 1 r) = xs at *
  generalize numB (takeL 8 (dropS 1 (dropS 1 r)).b.l) = xe at *
  generalize oneV (dropS 8 (dropS 1 (dropS 1 r))) = xm at *
  generalize dropS 1 (dropS 8 (dropS 1 (dropS 1 r))) = s4 at *
  generalize dropS 8 (dropS 1 (dropS 1 r)) = s3 at *
  generalize dropS 1 (dropS 1 r) = s2 at *
  generalize dropS 1 r = s1 at *
  obtain ⟨n, hn⟩ : ∃ n : Nat, min xm 5 = n := ⟨(min xm 5).toNat, by omega⟩
  have hn5 : n ≤ 5 := by omega
  rw [hn, Int.toNat_natCast]
  (repeat' (first | simp (maxSteps := 2000000) -implicitDefEqProofs only [A_codec_ToRecord, e0, hn, zr_shard, zr_to, zr_epoch, zr_vault, zr_vaults, len_lst, rk_ext, fk_ext, sm_c, sm_a, numI_len, lr_api, lr, lr2, oO, oN, oG, oNG, oM, oF, oL, rg, ci, seval, resAll, resL, resV, blkAt, undef, fillV, evParts, footOp, wrOp, chk, disj] | split | ((first | apply ck_call | apply cfk_call); (first | (apply call_upd (c1) rfl cll cll cll cl) | (apply call_upd (c2) rfl cll cll cll cl) | (apply call_upd (c3) rfl cll cll cll cl) | (apply call_upd (c4) rfl cll cll cll cl)))))
  refine wk_loop (fun m S H => ∃ i : Nat, i ≤ n ∧ m = n - i ∧ S = (.dead :: .dead :: .ref 0 0 :: vi .i64 0 :: .ref 1 0 :: .ref 2 0 :: .dead :: .dead :: .dead :: .dead :: .dead :: .dead :: .dead :: .dead :: .dead :: .dead :: .dead :: .dead :: .dead :: .dead :: .dead :: .dead :: .dead :: .dead :: .dead :: .dead :: .dead :: .dead :: .dead :: .dead :: .dead :: .dead :: .dead :: .dead :: .dead :: .dead :: .dead :: .dead :: .dead :: .dead :: vi .i64 n :: vi .i64 i :: .dead :: .dead :: .dead :: .dead :: .dead :: .dead :: .dead :: .dead :: .dead :: .dead :: .dead :: .dead :: .dead :: .dead :: .dead :: .dead :: .dead :: .dead :: .dead :: .dead :: .dead :: .dead :: .dead :: .dead :: .dead :: .dead :: []) ∧
      (i = 0 ∧ H = [some (cRec Rec.zero), some (cRd s4), some (cRec ⟨3, xs, 0, xe, Vlt.zero, .nil⟩)] ∨
       0 < i ∧ H = [some (cRec Rec.zero), some (cRd (seqV i s4).2), some (gRec_vaults ⟨3, xs, 0, xe, Vlt.zero, .nil⟩ (.sref 3 0 i 42)), some ((seqV i s4).1.flatMap cVlt)])) n ⟨0, Nat.zero_le _, rfl, rfl, .inl ⟨rfl, rfl⟩⟩ (by refine .ren _ _ _ [0, 1, 2] (by decide) (by intro k h; first | exact absurd h (Nat.not_lt_zero k) | (simp at h; done) | (rcases k with _ | _ | _ | k <;> first | rfl | (exfalso; omega) | (simp at h; done))) ?_ ?_ <;> simp [KeepS, KeepH, ArgRel, ArgRelL, argL_cl, arg_cl, row_l_of, row_l_nil, bn_len, blkAt]) ?_
  rintro m S H ⟨i, hi, rfl, rfl, hH⟩ J hJ
  have d0 : (0 : Int) ≤ i := by omega
  by_cases hin : i < n
  · have d1 : (i : Int) < n := by omega
    have w1 : IntKind.i64.wrap ((i : Int) + 1) = ((i + 1 : Nat) : Int) := by rw [wrap_id _ (by omega) (by omega)]; omega
    rcases hH with ⟨hi0, rfl⟩ | ⟨hi0, rfl⟩
    · have cv := vault_C s4
      have hs : seqV 1 s4 = ([vltV s4], vltE s4) := rfl
      (repeat' (first | simp (maxSteps := 2000000) -implicitDefEqProofs only [A_codec_ToRecord_L0, d1, w1, blk_zVlt, slB_st, lstV_nil, zr_shard, zr_to, zr_epoch, zr_vault, zr_vaults, len_lst, rk_ext, fk_ext, sm_c, sm_a, numI_len, lr_api, lr, lr2, oO, oN, oG, oNG, oM, oF, oL, rg, ci, seval, resAll, resL, resV, blkAt, undef, fillV, evParts, footOp, wrOp, chk, disj] | split | ((first | apply ck_call | apply cfk_call); (first | (apply call_upd (cv) rfl cll cll cll cl)))))
      have e1 : i + 1 = 1 := by omega
      exact hJ _ _ _ _ _ (by omega) ⟨i + 1, by omega, rfl, rfl, .inr ⟨by omega, rfl⟩⟩ (by refine .ren _ _ _ [0, 1, 2, 4] (by decide) (by intro k h; first | exact absurd h (Nat.not_lt_zero k) | (simp at h; done) | (rcases k with _ | _ | _ | k <;> first | rfl | (exfalso; omega) | (simp at h; done))) ?_ ?_ <;> simp [KeepS, KeepH, ArgRel, ArgRelL, argL_cl, arg_cl, row_l_of, row_l_nil, bn_len, blkAt, argGG_Rec, hs, e1])
    · have cv := vault_C (seqV i s4).2
      have ln := seqV_len s4 i
      have af := fun H id => app_fl cVlt_len H (seqV i s4).1 (vltV (seqV i s4).2) id i 96 ln.symm (by omega) (by decide)
      (repeat' (first | simp (maxSteps := 2000000) -implicitDefEqProofs only [A_codec_ToRecord_L0, d1, w1, blk_zVlt, slB_st, af, zr_shard, zr_to, zr_epoch, zr_vault, zr_vaults, len_lst, rk_ext, fk_ext, sm_c, sm_a, numI_len, lr_api, lr, lr2, oO, oN, oG, oNG, oM, oF, oL, rg, ci, seval, resAll, resL, resV, blkAt, undef, fillV, evParts, footOp, wrOp, chk, disj] | split | ((first | apply ck_call | apply cfk_call); (first | (apply call_upd (cv) rfl cll cll cll cl)))))
      exact hJ _ _ _ _ _ (by omega) ⟨i + 1, by omega, rfl, rfl, .inr ⟨by omega, rfl⟩⟩ (by refine .ren _ _ _ [0, 1, 2, 5] (by decide) (by intro k h; first | exact absurd h (Nat.not_lt_zero k) | (simp at h; done) | (rcases k with _ | _ | _ | k <;> first | rfl | (exfalso; omega) | (simp at h; done))) ?_ ?_ <;> simp [KeepS, KeepH, ArgRel, ArgRelL, argL_cl, arg_cl, row_l_of, row_l_nil, bn_len, blkAt, argGG_Rec, seqV, flat_closed cVlt_closed])
  · obtain rfl : i = n := by omega
    have d1 : ¬ (i : Int) < i := by omega
    rcases hH with ⟨rfl, rfl⟩ | ⟨hi0, rfl⟩
    · simp only [seqV, lstOf, if_true]
      unfold recOut
      simp only []
      by_cases he : endP s4
      · by_cases hr : RightR ⟨3, xs, 0, xe, Vlt.zero, .nil⟩
        · rw [if_pos ⟨he, hr⟩]
          (repeat' (first | simp (maxSteps := 2000000) -implicitDefEqProofs only [A_codec_ToRecord_L0, K_codec_ToRecord_L0, d1, he, hr, zr_shard, zr_to, zr_epoch, zr_vault, zr_vaults, len_lst, rk_ext, fk_ext, sm_c, sm_a, numI_len, lr_api, lr, lr2, oO, oN, oG, oNG, oM, oF, oL, rg, ci, seval, resAll, resL, resV, blkAt, undef, fillV, evParts, footOp, wrOp, chk, disj] | split | ((first | apply ck_call | apply cfk_call); (first | (apply call_upd (leftE_C s4) rfl cll cll cll cl) | (apply call_pure (rightR_C ⟨3, xs, 0, xe, Vlt.zero, .nil⟩) cll cl)))))
          all_goals (refine out_eq ?_ ?_; rfl; simp [Closed, ClosedL, cRec_closed])
        · rw [if_neg (fun h => hr h.2)]
          (repeat' (first | simp (maxSteps := 2000000) -implicitDefEqProofs only [A_codec_ToRecord_L0, K_codec_ToRecord_L0, d1, he, hr, zr_shard, zr_to, zr_epoch, zr_vault, zr_vaults, len_lst, rk_ext, fk_ext, sm_c, sm_a, numI_len, lr_api, lr, lr2, oO, oN, oG, oNG, oM, oF, oL, rg, ci, seval, resAll, resL, resV, blkAt, undef, fillV, evParts, footOp, wrOp, chk, disj] | split | ((first | apply ck_call | apply cfk_call); (first | (apply call_upd (leftE_C s4) rfl cll cll cll cl) | (apply call_pure (rightR_C ⟨3, xs, 0, xe, Vlt.zero, .nil⟩) cll cl)))))
          all_goals (refine out_eq ?_ ?_; rfl; simp [Closed, ClosedL, cRec_closed])
      · rw [if_neg (fun h => he h.1)]
        (repeat' (first | simp (maxSteps := 2000000) -implicitDefEqProofs only [A_codec_ToRecord_L0, K_codec_ToRecord_L0, d1, he, zr_shard, zr_to, zr_epoch, zr_vault, zr_vaults, len_lst, rk_ext, fk_ext, sm_c, sm_a, numI_len, lr_api, lr, lr2, oO, oN, oG, oNG, oM, oF, oL, rg, ci, seval, resAll, resL, resV, blkAt, undef, fillV, evParts, footOp, wrOp, chk, disj] | split | ((first | apply ck_call | apply cfk_call); (first | (apply call_upd (leftE_C s4) rfl cll cll cll cl)))))
        all_goals (refine out_eq ?_ ?_; rfl; simp [Closed, ClosedL, cRec_closed])
    · have ln := seqV_len s4 i
      have hne : (seqV i s4).1 ≠ [] := by intro h; rw [h] at ln; simp at ln; omega
      rw [show lstOf (seqV i s4).1 = .of (seqV i s4).1 from if_neg hne]
      generalize (seqV i s4).1 = rv at *
      generalize (seqV i s4).2 = E at *
      have hag : ∀ {H : Heap} {bs' : List Nat}, blkAt H 3 = some (rv.flatMap cVlt) → 3 ∈ bs' → ArgRel H [] bs' (.agg (gRec_vaults ⟨3, xs, 0, xe, Vlt.zero, .nil⟩ (.sref 3 0 i 42))) (.agg (cRec ⟨3, xs, 0, xe, Vlt.zero, .of rv⟩)) := fun hb hm =>
        arg_agg (argG_Rec_vaults _ (arg_lst cVlt_len cVlt_closed hb hm ln.symm))
      unfold recOut
      simp only []
      by_cases he : endP E
      · by_cases hr : RightR ⟨3, xs, 0, xe, Vlt.zero, .of rv⟩
        · rw [if_pos ⟨he, hr⟩]
          (repeat' (first | simp (maxSteps := 2000000) -implicitDefEqProofs only [A_codec_ToRecord_L0, K_codec_ToRecord_L0, d1, he, zr_shard, zr_to, zr_epoch, zr_vault, zr_vaults, len_lst, rk_ext, fk_ext, sm_c, sm_a, numI_len, lr_api, lr, lr2, oO, oN, oG, oNG, oM, oF, oL, rg, ci, seval, resAll, resL, resV, blkAt, undef, fillV, evParts, footOp, wrOp, chk, disj] | split | ((first | apply ck_call | apply cfk_call); (first | (apply call_upd (leftE_C E) rfl cll cll cll cl)))))
          refine ck_call _ _ (call_roA (rightR_C ⟨3, xs, 0, xe, Vlt.zero, .of rv⟩) ?_ (args_c (hag rfl ?_) args_n) trivial trivial) ?_
          · intro id hid; simp only [ids_cons, ids_nil, ids_agg, gRec_ids] at hid; simp at hid; subst hid; exact ⟨_, rfl⟩
          · simp only [ids_cons, ids_nil, ids_agg, gRec_ids]; simp
          simp (maxSteps := 2000000) -implicitDefEqProofs only [hr, zr_shard, zr_to, zr_epoch, zr_vault, zr_vaults, len_lst, rk_ext, fk_ext, sm_c, sm_a, numI_len, lr_api, lr, lr2, oO, oN, oG, oNG, oM, oF, oL, rg, ci, seval, resAll, resL, resV, blkAt, undef, fillV, evParts, footOp, wrOp, chk, disj]
          exact out_show [3] (fun id h => by simp at h; subst h; exact ⟨_, rfl⟩) (arg_tup (argL_cons (hag rfl (by simp)) (argL_cons (arg_closed _ trivial) argL_nil)))
        · rw [if_neg (fun h => hr h.2)]
          (repeat' (first | simp (maxSteps := 2000000) -implicitDefEqProofs only [A_codec_ToRecord_L0, K_codec_ToRecord_L0, d1, he, zr_shard, zr_to, zr_epoch, zr_vault, zr_vaults, len_lst, rk_ext, fk_ext, sm_c, sm_a, numI_len, lr_api, lr, lr2, oO, oN, oG, oNG, oM, oF, oL, rg, ci, seval, resAll, resL, resV, blkAt, undef, fillV, evParts, footOp, wrOp, chk, disj] | split | ((first | apply ck_call | apply cfk_call); (first | (apply call_upd (leftE_C E) rfl cll cll cll cl)))))
          refine ck_call _ _ (call_roA (rightR_C ⟨3, xs, 0, xe, Vlt.zero, .of rv⟩) ?_ (args_c (hag rfl ?_) args_n) trivial trivial) ?_
          · intro id hid; simp only [ids_cons, ids_nil, ids_agg, gRec_ids] at hid; simp at hid; subst hid; exact ⟨_, rfl⟩
          · simp only [ids_cons, ids_nil, ids_agg, gRec_ids]; simp
          simp (maxSteps := 2000000) -implicitDefEqProofs only [hr, zr_shard, zr_to, zr_epoch, zr_vault, zr_vaults, len_lst, rk_ext, fk_ext, sm_c, sm_a, numI_len, lr_api, lr, lr2, oO, oN, oG, oNG, oM, oF, oL, rg, ci, seval, resAll, resL, resV, blkAt, undef, fillV, evParts, footOp, wrOp, chk, disj]
          all_goals (refine out_eq ?_ ?_; rfl; simp [Closed, ClosedL, cRec_closed])
      · rw [if_neg (fun h => he h.1)]
        (repeat' (first | simp (maxSteps := 2000000) -implicitDefEqProofs only [A_codec_ToRecord_L0, K_codec_ToRecord_L0, d1, he, zr_shard, zr_to, zr_epoch, zr_vault, zr_vaults, len_lst, rk_ext, fk_ext, sm_c, sm_a, numI_len, lr_api, lr, lr2, oO, oN, oG, oNG, oM, oF, oL, rg, ci, seval, resAll, resL, resV, blkAt, undef, fillV, evParts, footOp, wrOp, chk, disj] | split | ((first | apply ck_call | apply cfk_call); (first | (apply call_upd (leftE_C E) rfl cll cll cll cl)))))
        all_goals (refine out_eq ?_ ?_; rfl; simp [Closed, ClosedL, cRec_closed])
set_option maxHeartbeats 4000000 in
theorem toRecord_C (b : Row) : C Tryz.prog 50 [rowV b] [] (recOut (recS (rd0 b))) [] := by
  have e0 : (⟨b, Rd.zero.bad⟩ : Rd) = rd0 b := rd0_of b
  generalize rd0 b = r at *
  by_cases k3 : oneV r = 3
  · have h := toRecord3_C b r e0 k3
    unfold recS
    rw [k3, if_neg (by decide), if_neg (by decide), if_pos rfl]
    exact h
  refine C_of mixed Tryz.func50 A_codec_ToRecord_ok A_codec_ToRecord_res _ A_codec_ToRecord_nt ?_
  have c1 := one_C r
  obtain ⟨k, hk⟩ : ∃ k, k = oneV r := ⟨_, rfl⟩
  rw [← hk] at c1
  unfold recS
  rw [← hk]
  by_cases k1 : k = 1
  · rw [if_pos k1]
    subst k1
    have c2 := vault_C (dropS 1 r)
    generalize vltV (dropS 1 r) = X at *
    generalize vltE (dropS 1 r) = E at *
    generalize dropS 1 r = s1 at *
    unfold recOut
    simp only []
    by_cases he : endP E
    · by_cases hr : RightR ⟨1, 0, 0, 0, X, .nil⟩
      · rw [if_pos ⟨he, hr⟩]
        (repeat' (first | simp (maxSteps := 2000000) -implicitDefEqProofs only [A_codec_ToRecord, e0, he, hr, zr_shard, zr_to, zr_epoch, zr_vault, zr_vaults, len_lst, rk_ext, fk_ext, sm_c, sm_a, numI_len, lr_api, lr, lr2, oO, oN, oG, oNG, oM, oF, oL, rg, ci, seval, resAll, resL, resV, blkAt, undef, fillV, evParts, footOp, wrOp, chk, disj] | split | ((first | apply ck_call | apply cfk_call); (first | (apply call_upd (c1) rfl cll cll cll cl) | (apply call_upd (c2) rfl cll cll cll cl) | (apply call_upd (leftE_C E) rfl cll cll cll cl) | (apply call_pure (rightR_C ⟨1, 0, 0, 0, X, .nil⟩) cll cl)))))
        all_goals (refine out_eq ?_ ?_; rfl; simp [Closed, ClosedL, cRec_closed])
      · rw [if_neg (fun h => hr h.2)]
        (repeat' (first | simp (maxSteps := 2000000) -implicitDefEqProofs only [A_codec_ToRecord, e0, he, hr, zr_shard, zr_to, zr_epoch, zr_vault, zr_vaults, len_lst, rk_ext, fk_ext, sm_c, sm_a, numI_len, lr_api, lr, lr2, oO, oN, oG, oNG, oM, oF, oL, rg, ci, seval, resAll, resL, resV, blkAt, undef, fillV, evParts, footOp, wrOp, chk, disj] | split | ((first | apply ck_call | apply cfk_call); (first | (apply call_upd (c1) rfl cll cll cll cl) | (apply call_upd (c2) rfl cll cll cll cl) | (apply call_upd (leftE_C E) rfl cll cll cll cl) | (apply call_pure (rightR_C ⟨1, 0, 0, 0, X, .nil⟩) cll cl)))))
        all_goals (refine out_eq ?_ ?_; rfl; simp [Closed, ClosedL, cRec_closed])
    · rw [if_neg (fun h => he h.1)]
      (repeat' (first | simp (maxSteps := 2000000) -implicitDefEqProofs only [A_codec_ToRecord, e0, he, zr_shard, zr_to, zr_epoch, zr_vault, zr_vaults, len_lst, rk_ext, fk_ext, sm_c, sm_a, numI_len, lr_api, lr, lr2, oO, oN, oG, oNG, oM, oF, oL, rg, ci, seval, resAll, resL, resV, blkAt, undef, fillV, evParts, footOp, wrOp, chk, disj] | split | ((first | apply ck_call | apply cfk_call); (first | (apply call_upd (c1) rfl cll cll cll cl) | (apply call_upd (c2) rfl cll cll cll cl) | (apply call_upd (leftE_C E) rfl cll cll cll cl)))))
      all_goals (refine out_eq ?_ ?_; rfl; simp [Closed, ClosedL, cRec_closed])
  rw [if_neg k1]
  by_cases k2 : k = 2
  · rw [if_pos k2]
    subst k2
    have c2 := one_C (dropS 1 r)
    have c3 := one_C (dropS 1 (dropS 1 r))
    have c4 := number_walk (dropS 1 (dropS 1 (dropS 1 r)))
    generalize oneV (dropS 1 r) = xs at *
    generalize oneV (dropS 1 (dropS 1 r)) = xt at *
    generalize numB (takeL 8 (dropS 1 (dropS 1 (dropS 1 r))).b.l) = xe at *
    generalize dropS 8 (dropS 1 (dropS 1 (dropS 1 r))) = E at *
    generalize dropS 1 (dropS 1 (dropS 1 r)) = s3 at *
    generalize dropS 1 (dropS 1 r) = s2 at *
    generalize dropS 1 r = s1 at *
    unfold recOut
    simp only []
    by_cases he : endP E
    · by_cases hr : RightR ⟨2, xs, xt, xe, Vlt.zero, .nil⟩
      · rw [if_pos ⟨he, hr⟩]
        (repeat' (first | simp (maxSteps := 2000000) -implicitDefEqProofs only [A_codec_ToRecord, e0, he, hr, zr_shard, zr_to, zr_epoch, zr_vault, zr_vaults, len_lst, rk_ext, fk_ext, sm_c, sm_a, numI_len, lr_api, lr, lr2, oO, oN, oG, oNG, oM, oF, oL, rg, ci, seval, resAll, resL, resV, blkAt, undef, fillV, evParts, footOp, wrOp, chk, disj] | split | ((first | apply ck_call | apply cfk_call); (first | (apply call_upd (c1) rfl cll cll cll cl) | (apply call_upd (c2) rfl cll cll cll cl) | (apply call_upd (c3) rfl cll cll cll cl) | (apply call_upd (c4) rfl cll cll cll cl) | (apply call_upd (leftE_C E) rfl cll cll cll cl) | (apply call_pure (rightR_C ⟨2, xs, xt, xe, Vlt.zero, .nil⟩) cll cl)))))
        all_goals (refine out_eq ?_ ?_; rfl; simp [Closed, ClosedL, cRec_closed])
      · rw [if_neg (fun h => hr h.2)]
        (repeat' (first | simp (maxSteps := 2000000) -implicitDefEqProofs only [A_codec_ToRecord, e0, he, hr, zr_shard, zr_to, zr_epoch, zr_vault, zr_vaults, len_lst, rk_ext, fk_ext, sm_c, sm_a, numI_len, lr_api, lr, lr2, oO, oN, oG, oNG, oM, oF, oL, rg, ci, seval, resAll, resL, resV, blkAt, undef, fillV, evParts, footOp, wrOp, chk, disj] | split | ((first | apply ck_call | apply cfk_call); (first | (apply call_upd (c1) rfl cll cll cll cl) | (apply call_upd (c2) rfl cll cll cll cl) | (apply call_upd (c3) rfl cll cll cll cl) | (apply call_upd (c4) rfl cll cll cll cl) | (apply call_upd (leftE_C E) rfl cll cll cll cl) | (apply call_pure (rightR_C ⟨2, xs, xt, xe, Vlt.zero, .nil⟩) cll cl)))))
        all_goals (refine out_eq ?_ ?_; rfl; simp [Closed, ClosedL, cRec_closed])
    · rw [if_neg (fun h => he h.1)]
      (repeat' (first | simp (maxSteps := 2000000) -implicitDefEqProofs only [A_codec_ToRecord, e0, he, zr_shard, zr_to, zr_epoch, zr_vault, zr_vaults, len_lst, rk_ext, fk_ext, sm_c, sm_a, numI_len, lr_api, lr, lr2, oO, oN, oG, oNG, oM, oF, oL, rg, ci, seval, resAll, resL, resV, blkAt, undef, fillV, evParts, footOp, wrOp, chk, disj] | split | ((first | apply ck_call | apply cfk_call); (first | (apply call_upd (c1) rfl cll cll cll cl) | (apply call_upd (c2) rfl cll cll cll cl) | (apply call_upd (c3) rfl cll cll cll cl) | (apply call_upd (c4) rfl cll cll cll cl) | (apply call_upd (leftE_C E) rfl cll cll cll cl)))))
      all_goals (refine out_eq ?_ ?_; rfl; simp [Closed, ClosedL, cRec_closed])
  rw [if_neg k2]
  rw [← hk] at k3
  rw [if_neg k3]
  by_cases k4 : k = 4
  · rw [if_pos k4]
    subst k4
    have c2 := one_C (dropS 1 r)
    have c3 := number_walk (dropS 1 (dropS 1 r))
    generalize oneV (dropS 1 r) = xs at *
    generalize numB (takeL 8 (dropS 1 (dropS 1 r)).b.l) = xe at *
    generalize dropS 8 (dropS 1 (dropS 1 r)) = E at *
    generalize dropS 1 (dropS 1 r) = s2 at *
    generalize dropS 1 r = s1 at *
    unfold recOut
    simp only []
    by_cases he : endP E
    · by_cases hr : RightR ⟨4, xs, 0, xe, Vlt.zero, .nil⟩
      · rw [if_pos ⟨he, hr⟩]
        (repeat' (first | simp (maxSteps := 2000000) -implicitDefEqProofs only [A_codec_ToRecord, e0, he, hr, zr_shard, zr_to, zr_epoch, zr_vault, zr_vaults, len_lst, rk_ext, fk_ext, sm_c, sm_a, numI_len, lr_api, lr, lr2, oO, oN, oG, oNG, oM, oF, oL, rg, ci, seval, resAll, resL, resV, blkAt, undef, fillV, evParts, footOp, wrOp, chk, disj] | split | ((first | apply ck_call | apply cfk_call); (first | (apply call_upd (c1) rfl cll cll cll cl) | (apply call_upd (c2) rfl cll cll cll cl) | (apply call_upd (c3) rfl cll cll cll cl) | (apply call_upd (leftE_C E) rfl cll cll cll cl) | (apply call_pure (rightR_C ⟨4, xs, 0, xe, Vlt.zero, .nil⟩) cll cl)))))
        all_goals (refine out_eq ?_ ?_; rfl; simp [Closed, ClosedL, cRec_closed])
      · rw [if_neg (fun h => hr h.2)]
        (repeat' (first | simp (maxSteps := 2000000) -implicitDefEqProofs only [A_codec_ToRecord, e0, he, hr, zr_shard, zr_to, zr_epoch, zr_vault, zr_vaults, len_lst, rk_ext, fk_ext, sm_c, sm_a, numI_len, lr_api, lr, lr2, oO, oN, oG, oNG, oM, oF, oL, rg, ci, seval, resAll, resL, resV, blkAt, undef, fillV, evParts, footOp, wrOp, chk, disj] | split | ((first | apply ck_call | apply cfk_call); (first | (apply call_upd (c1) rfl cll cll cll cl) | (apply call_upd (c2) rfl cll cll cll cl) | (apply call_upd (c3) rfl cll cll cll cl) | (apply call_upd (leftE_C E) rfl cll cll cll cl) | (apply call_pure (rightR_C ⟨4, xs, 0, xe, Vlt.zero, .nil⟩) cll cl)))))
        all_goals (refine out_eq ?_ ?_; rfl; simp [Closed, ClosedL, cRec_closed])
    · rw [if_neg (fun h => he h.1)]
      (repeat' (first | simp (maxSteps := 2000000) -implicitDefEqProofs only [A_codec_ToRecord, e0, he, zr_shard, zr_to, zr_epoch, zr_vault, zr_vaults, len_lst, rk_ext, fk_ext, sm_c, sm_a, numI_len, lr_api, lr, lr2, oO, oN, oG, oNG, oM, oF, oL, rg, ci, seval, resAll, resL, resV, blkAt, undef, fillV, evParts, footOp, wrOp, chk, disj] | split | ((first | apply ck_call | apply cfk_call); (first | (apply call_upd (c1) rfl cll cll cll cl) | (apply call_upd (c2) rfl cll cll cll cl) | (apply call_upd (c3) rfl cll cll cll cl) | (apply call_upd (leftE_C E) rfl cll cll cll cl)))))
      all_goals (refine out_eq ?_ ?_; rfl; simp [Closed, ClosedL, cRec_closed])
  · rw [if_neg k4]
    generalize dropS 1 r = E at *
    clear hk
    unfold recOut
    simp only []
    by_cases he : endP E
    · by_cases hr : RightR ⟨k, 0, 0, 0, Vlt.zero, .nil⟩
      · rw [if_pos ⟨he, hr⟩]
        (repeat' (first | simp (maxSteps := 2000000) -implicitDefEqProofs only [A_codec_ToRecord, e0, he, hr, k1, k2, k3, k4, zr_shard, zr_to, zr_epoch, zr_vault, zr_vaults, len_lst, rk_ext, fk_ext, sm_c, sm_a, numI_len, lr_api, lr, lr2, oO, oN, oG, oNG, oM, oF, oL, rg, ci, seval, resAll, resL, resV, blkAt, undef, fillV, evParts, footOp, wrOp, chk, disj] | split | ((first | apply ck_call | apply cfk_call); (first | (apply call_upd (c1) rfl cll cll cll cl) | (apply call_upd (leftE_C E) rfl cll cll cll cl) | (apply call_pure (rightR_C ⟨k, 0, 0, 0, Vlt.zero, .nil⟩) cll cl)))))
        all_goals (refine out_eq ?_ ?_; rfl; simp [Closed, ClosedL, cRec_closed])
      · rw [if_neg (fun h => hr h.2)]
        (repeat' (first | simp (maxSteps := 2000000) -implicitDefEqProofs only [A_codec_ToRecord, e0, he, hr, k1, k2, k3, k4, zr_shard, zr_to, zr_epoch, zr_vault, zr_vaults, len_lst, rk_ext, fk_ext, sm_c, sm_a, numI_len, lr_api, lr, lr2, oO, oN, oG, oNG, oM, oF, oL, rg, ci, seval, resAll, resL, resV, blkAt, undef, fillV, evParts, footOp, wrOp, chk, disj] | split | ((first | apply ck_call | apply cfk_call); (first | (apply call_upd (c1) rfl cll cll cll cl) | (apply call_upd (leftE_C E) rfl cll cll cll cl) | (apply call_pure (rightR_C ⟨k, 0, 0, 0, Vlt.zero, .nil⟩) cll cl)))))
        all_goals (refine out_eq ?_ ?_; rfl; simp [Closed, ClosedL, cRec_closed])
    · rw [if_neg (fun h => he h.1)]
      (repeat' (first | simp (maxSteps := 2000000) -implicitDefEqProofs only [A_codec_ToRecord, e0, he, k1, k2, k3, k4, zr_shard, zr_to, zr_epoch, zr_vault, zr_vaults, len_lst, rk_ext, fk_ext, sm_c, sm_a, numI_len, lr_api, lr, lr2, oO, oN, oG, oNG, oM, oF, oL, rg, ci, seval, resAll, resL, resV, blkAt, undef, fillV, evParts, footOp, wrOp, chk, disj] | split | ((first | apply ck_call | apply cfk_call); (first | (apply call_upd (c1) rfl cll cll cll cl) | (apply call_upd (leftE_C E) rfl cll cll cll cl)))))
      all_goals (refine out_eq ?_ ?_; rfl; simp [Closed, ClosedL, cRec_closed])
end Go.Proofs.YtfpoebmihjbknaaGreat.VA
