/- What the operations of the compact code answer, a rule each. -/
import Derived.Test.YtlahigboaeadmaaV17
import Derived.IntWalk
set_option linter.unusedVariables false
set_option linter.unusedSimpArgs false
namespace Go.Proofs.Ytlahigboaeadmaa.VA
open Go
noncomputable section

abbrev vi (k : IntKind) (n : Int) : V := .sc (.int k n)
abbrev vb (b : Bool) : V := .sc (.bool b)
abbrev vnil : V := .sc (.slice none 0 0)

theorem ev_t (S : List V) (i : Nat) : Od.ev S (.t i) = S.getD i .dead := rfl
theorem ev_ci (S : List V) (k : IntKind) (n : Int) : Od.ev S (.c (.int k n)) = .sc (.int k n) := rfl
theorem ev_cb (S : List V) (b : Bool) : Od.ev S (.c (.bool b)) = .sc (.bool b) := rfl
theorem ev_cs (S : List V) (s : ByteArray) : Od.ev S (.c (.string s)) = .sc (.string s) := rfl
theorem ev_csl (S : List V) (a : Option Addr) (n c : Nat) : Od.ev S (.c (.slice a n c)) = .sc (.slice a n c) := rfl
theorem ev_ca (S : List V) (cs : Array Value) : Od.ev S (.c (.agg cs)) = .agg (cs.toList.map .sc) := rfl
theorem ev_cf (S : List V) (f : Nat) : Od.ev S (.c (.func (.func f) #[] #[])) = .fn f [] := rfl

theorem putS_some (S : List V) (d : Nat) (v : V) : putS S (some d) v = S.set d v := rfl
theorem putS_none (S : List V) (v : V) : putS S none v = S := rfl

theorem bin_add (k : IntKind) (a b : Int) : evBin .add (.sc (.int k a)) (.sc (.int k b)) = some (.sc (.int k (k.wrap (a + b)))) := by simp [evBin, binOp, Op.intArith, pureV, pure]
theorem bin_sub (k : IntKind) (a b : Int) : evBin .sub (.sc (.int k a)) (.sc (.int k b)) = some (.sc (.int k (k.wrap (a - b)))) := by simp [evBin, binOp, Op.intArith, pureV, pure]
theorem bin_mul (k : IntKind) (a b : Int) : evBin .mul (.sc (.int k a)) (.sc (.int k b)) = some (.sc (.int k (k.wrap (a * b)))) := by simp [evBin, binOp, Op.intArith, pureV, pure]
theorem bin_quo (k : IntKind) (a b : Int) (h : b ≠ 0) : evBin .quo (.sc (.int k a)) (.sc (.int k b)) = some (.sc (.int k (k.wrap (a.tdiv b)))) := by simp [evBin, binOp, Op.intDiv, pureV, pure, h]
theorem bin_rem (k : IntKind) (a b : Int) (h : b ≠ 0) : evBin .rem (.sc (.int k a)) (.sc (.int k b)) = some (.sc (.int k (a.tmod b))) := by simp [evBin, binOp, Op.intDiv, pureV, pure, h]
theorem bin_and (k : IntKind) (a b : Int) : evBin .and (.sc (.int k a)) (.sc (.int k b)) = some (.sc (.int k (k.wrap (BitVec.ofInt k.bits a &&& BitVec.ofInt k.bits b).toNat))) := by simp [evBin, binOp, Op.intBits, pureV, pure]
theorem bin_or (k : IntKind) (a b : Int) : evBin .or (.sc (.int k a)) (.sc (.int k b)) = some (.sc (.int k (k.wrap (BitVec.ofInt k.bits a ||| BitVec.ofInt k.bits b).toNat))) := by simp [evBin, binOp, Op.intBits, pureV, pure]
theorem bin_xor (k : IntKind) (a b : Int) : evBin .xor (.sc (.int k a)) (.sc (.int k b)) = some (.sc (.int k (k.wrap (BitVec.ofInt k.bits a ^^^ BitVec.ofInt k.bits b).toNat))) := by simp [evBin, binOp, Op.intBits, pureV, pure]
theorem bin_shl (k yk : IntKind) (a b : Int) (h : 0 ≤ b) : evBin .shl (.sc (.int k a)) (.sc (.int yk b)) = some (.sc (.int k (k.wrap (a * 2 ^ (min b.toNat k.bits))))) := by simp [evBin, binOp, Op.shift, pureV, pure, Int.not_lt.2 h]
theorem bin_shr (k yk : IntKind) (a b : Int) (h : 0 ≤ b) : evBin .shr (.sc (.int k a)) (.sc (.int yk b)) = some (.sc (.int k (a.fdiv (2 ^ (min b.toNat k.bits))))) := by simp [evBin, binOp, Op.shift, pureV, pure, Int.not_lt.2 h]
theorem bin_eql (k : IntKind) (a b : Int) : evBin .eql (.sc (.int k a)) (.sc (.int k b)) = some (.sc (.bool (a == b))) := by simp [evBin, binOp, Op.intCmp, pureV, pure]
theorem bin_neq (k : IntKind) (a b : Int) : evBin .neq (.sc (.int k a)) (.sc (.int k b)) = some (.sc (.bool (a != b))) := by simp [evBin, binOp, Op.intCmp, pureV, pure]
theorem bin_lss (k : IntKind) (a b : Int) : evBin .lss (.sc (.int k a)) (.sc (.int k b)) = some (.sc (.bool (decide (a < b)))) := by simp [evBin, binOp, Op.intCmp, pureV, pure]
theorem bin_leq (k : IntKind) (a b : Int) : evBin .leq (.sc (.int k a)) (.sc (.int k b)) = some (.sc (.bool (decide (a ≤ b)))) := by simp [evBin, binOp, Op.intCmp, pureV, pure]
theorem bin_gtr (k : IntKind) (a b : Int) : evBin .gtr (.sc (.int k a)) (.sc (.int k b)) = some (.sc (.bool (decide (a > b)))) := by simp [evBin, binOp, Op.intCmp, pureV, pure]
theorem bin_geq (k : IntKind) (a b : Int) : evBin .geq (.sc (.int k a)) (.sc (.int k b)) = some (.sc (.bool (decide (a ≥ b)))) := by simp [evBin, binOp, Op.intCmp, pureV, pure]

/-! A step, a rule each. -/
section
variable {P : Program} {m0 : Nat} {Q : AExit → List V → Heap → Prop} {S : List V} {H : Heap} {k : Kt} {d : Option Nat} {os : List AOper} {pairs : List (Nat × Nat)} {FW : List (List Nat × List Nat)}

theorem rk_mov (x : Od) : RK P m0 Q (⟨d, .mov x, none⟩ :: os) k S H = RK P m0 Q os k (putS S d (x.ev S)) H := propext Iff.rfl
theorem fk_mov (x : Od) : FK P m0 Q pairs (⟨d, .mov x, none⟩ :: os) k S H FW = FK P m0 Q pairs os k (putS S d (x.ev S)) H (FW ++ [([], [])]) := propext Iff.rfl
theorem rk_pick (c a b : Od) : RK P m0 Q (⟨d, .pick c a b, none⟩ :: os) k S H = (match evOp S H (.pick c a b) with | some (v, H') => RK P m0 Q os k (putS S d v) H' | none => False) := propext Iff.rfl
theorem fk_pick (c a b : Od) : FK P m0 Q pairs (⟨d, .pick c a b, none⟩ :: os) k S H FW = (match evOp S H (.pick c a b) with | some (v, H') => FK P m0 Q pairs os k (putS S d v) H' (FW ++ [(footOp S (.pick c a b), wrOp S (.pick c a b))]) | none => False) := propext Iff.rfl
theorem rk_alloc (zs : List Value) : RK P m0 Q (⟨d, .alloc zs, none⟩ :: os) k S H = (match evOp S H (.alloc zs) with | some (v, H') => RK P m0 Q os k (putS S d v) H' | none => False) := propext Iff.rfl
theorem fk_alloc (zs : List Value) : FK P m0 Q pairs (⟨d, .alloc zs, none⟩ :: os) k S H FW = (match evOp S H (.alloc zs) with | some (v, H') => FK P m0 Q pairs os k (putS S d v) H' (FW ++ [(footOp S (.alloc zs), wrOp S (.alloc zs))]) | none => False) := propext Iff.rfl
theorem rk_box (x : Od) : RK P m0 Q (⟨d, .box x, none⟩ :: os) k S H = (match evOp S H (.box x) with | some (v, H') => RK P m0 Q os k (putS S d v) H' | none => False) := propext Iff.rfl
theorem fk_box (x : Od) : FK P m0 Q pairs (⟨d, .box x, none⟩ :: os) k S H FW = (match evOp S H (.box x) with | some (v, H') => FK P m0 Q pairs os k (putS S d v) H' (FW ++ [(footOp S (.box x), wrOp S (.box x))]) | none => False) := propext Iff.rfl
theorem rk_build (zs : List Value) (parts : List (Nat × Nat × Od)) : RK P m0 Q (⟨d, .build zs parts, none⟩ :: os) k S H = (match evOp S H (.build zs parts) with | some (v, H') => RK P m0 Q os k (putS S d v) H' | none => False) := propext Iff.rfl
theorem fk_build (zs : List Value) (parts : List (Nat × Nat × Od)) : FK P m0 Q pairs (⟨d, .build zs parts, none⟩ :: os) k S H FW = (match evOp S H (.build zs parts) with | some (v, H') => FK P m0 Q pairs os k (putS S d v) H' (FW ++ [(footOp S (.build zs parts), wrOp S (.build zs parts))]) | none => False) := propext Iff.rfl
theorem rk_buildSl (sz n : Nat) (zs : List Value) (parts : List (Nat × Nat × Od)) : RK P m0 Q (⟨d, .buildSl sz n zs parts, none⟩ :: os) k S H = (match evOp S H (.buildSl sz n zs parts) with | some (v, H') => RK P m0 Q os k (putS S d v) H' | none => False) := propext Iff.rfl
theorem fk_buildSl (sz n : Nat) (zs : List Value) (parts : List (Nat × Nat × Od)) : FK P m0 Q pairs (⟨d, .buildSl sz n zs parts, none⟩ :: os) k S H FW = (match evOp S H (.buildSl sz n zs parts) with | some (v, H') => FK P m0 Q pairs os k (putS S d v) H' (FW ++ [(footOp S (.buildSl sz n zs parts), wrOp S (.buildSl sz n zs parts))]) | none => False) := propext Iff.rfl
theorem rk_load (kd : Option Nat) (x : Od) : RK P m0 Q (⟨d, .load kd x, none⟩ :: os) k S H = (match evOp S H (.load kd x) with | some (v, H') => RK P m0 Q os k (putS S d v) H' | none => False) := propext Iff.rfl
theorem fk_load (kd : Option Nat) (x : Od) : FK P m0 Q pairs (⟨d, .load kd x, none⟩ :: os) k S H FW = (match evOp S H (.load kd x) with | some (v, H') => FK P m0 Q pairs os k (putS S d v) H' (FW ++ [(footOp S (.load kd x), wrOp S (.load kd x))]) | none => False) := propext Iff.rfl
theorem rk_store (n : Nat) (a x : Od) : RK P m0 Q (⟨d, .store n a x, none⟩ :: os) k S H = (match evOp S H (.store n a x) with | some (v, H') => RK P m0 Q os k (putS S d v) H' | none => False) := propext Iff.rfl
theorem fk_store (n : Nat) (a x : Od) : FK P m0 Q pairs (⟨d, .store n a x, none⟩ :: os) k S H FW = (match evOp S H (.store n a x) with | some (v, H') => FK P m0 Q pairs os k (putS S d v) H' (FW ++ [(footOp S (.store n a x), wrOp S (.store n a x))]) | none => False) := propext Iff.rfl
theorem rk_nilChk (x : Od) : RK P m0 Q (⟨d, .nilChk x, none⟩ :: os) k S H = (match evOp S H (.nilChk x) with | some (v, H') => RK P m0 Q os k (putS S d v) H' | none => False) := propext Iff.rfl
theorem fk_nilChk (x : Od) : FK P m0 Q pairs (⟨d, .nilChk x, none⟩ :: os) k S H FW = (match evOp S H (.nilChk x) with | some (v, H') => FK P m0 Q pairs os k (putS S d v) H' (FW ++ [(footOp S (.nilChk x), wrOp S (.nilChk x))]) | none => False) := propext Iff.rfl
theorem rk_bin (op : BinOp) (x y : Od) : RK P m0 Q (⟨d, .bin op x y, none⟩ :: os) k S H = (match evOp S H (.bin op x y) with | some (v, H') => RK P m0 Q os k (putS S d v) H' | none => False) := propext Iff.rfl
theorem fk_bin (op : BinOp) (x y : Od) : FK P m0 Q pairs (⟨d, .bin op x y, none⟩ :: os) k S H FW = (match evOp S H (.bin op x y) with | some (v, H') => FK P m0 Q pairs os k (putS S d v) H' (FW ++ [(footOp S (.bin op x y), wrOp S (.bin op x y))]) | none => False) := propext Iff.rfl
theorem rk_eqB (neg : Bool) (x y : Od) : RK P m0 Q (⟨d, .eqB neg x y, none⟩ :: os) k S H = (match evOp S H (.eqB neg x y) with | some (v, H') => RK P m0 Q os k (putS S d v) H' | none => False) := propext Iff.rfl
theorem fk_eqB (neg : Bool) (x y : Od) : FK P m0 Q pairs (⟨d, .eqB neg x y, none⟩ :: os) k S H FW = (match evOp S H (.eqB neg x y) with | some (v, H') => FK P m0 Q pairs os k (putS S d v) H' (FW ++ [(footOp S (.eqB neg x y), wrOp S (.eqB neg x y))]) | none => False) := propext Iff.rfl
theorem rk_eqA (neg : Bool) (sh : List Bool) (x y : Od) : RK P m0 Q (⟨d, .eqA neg sh x y, none⟩ :: os) k S H = (match evOp S H (.eqA neg sh x y) with | some (v, H') => RK P m0 Q os k (putS S d v) H' | none => False) := propext Iff.rfl
theorem fk_eqA (neg : Bool) (sh : List Bool) (x y : Od) : FK P m0 Q pairs (⟨d, .eqA neg sh x y, none⟩ :: os) k S H FW = (match evOp S H (.eqA neg sh x y) with | some (v, H') => FK P m0 Q pairs os k (putS S d v) H' (FW ++ [(footOp S (.eqA neg sh x y), wrOp S (.eqA neg sh x y))]) | none => False) := propext Iff.rfl
theorem rk_eqNil (neg : Bool) (x y : Od) : RK P m0 Q (⟨d, .eqNil neg x y, none⟩ :: os) k S H = (match evOp S H (.eqNil neg x y) with | some (v, H') => RK P m0 Q os k (putS S d v) H' | none => False) := propext Iff.rfl
theorem fk_eqNil (neg : Bool) (x y : Od) : FK P m0 Q pairs (⟨d, .eqNil neg x y, none⟩ :: os) k S H FW = (match evOp S H (.eqNil neg x y) with | some (v, H') => FK P m0 Q pairs os k (putS S d v) H' (FW ++ [(footOp S (.eqNil neg x y), wrOp S (.eqNil neg x y))]) | none => False) := propext Iff.rfl
theorem rk_un (op : UnOp) (x : Od) : RK P m0 Q (⟨d, .un op x, none⟩ :: os) k S H = (match evOp S H (.un op x) with | some (v, H') => RK P m0 Q os k (putS S d v) H' | none => False) := propext Iff.rfl
theorem fk_un (op : UnOp) (x : Od) : FK P m0 Q pairs (⟨d, .un op x, none⟩ :: os) k S H FW = (match evOp S H (.un op x) with | some (v, H') => FK P m0 Q pairs os k (putS S d v) H' (FW ++ [(footOp S (.un op x), wrOp S (.un op x))]) | none => False) := propext Iff.rfl
theorem rk_conv (kd : IntKind) (x : Od) : RK P m0 Q (⟨d, .conv kd x, none⟩ :: os) k S H = (match evOp S H (.conv kd x) with | some (v, H') => RK P m0 Q os k (putS S d v) H' | none => False) := propext Iff.rfl
theorem fk_conv (kd : IntKind) (x : Od) : FK P m0 Q pairs (⟨d, .conv kd x, none⟩ :: os) k S H FW = (match evOp S H (.conv kd x) with | some (v, H') => FK P m0 Q pairs os k (putS S d v) H' (FW ++ [(footOp S (.conv kd x), wrOp S (.conv kd x))]) | none => False) := propext Iff.rfl
theorem rk_same (x : Od) : RK P m0 Q (⟨d, .same x, none⟩ :: os) k S H = (match evOp S H (.same x) with | some (v, H') => RK P m0 Q os k (putS S d v) H' | none => False) := propext Iff.rfl
theorem fk_same (x : Od) : FK P m0 Q pairs (⟨d, .same x, none⟩ :: os) k S H FW = (match evOp S H (.same x) with | some (v, H') => FK P m0 Q pairs os k (putS S d v) H' (FW ++ [(footOp S (.same x), wrOp S (.same x))]) | none => False) := propext Iff.rfl
theorem rk_mark (x : Od) : RK P m0 Q (⟨d, .mark x, none⟩ :: os) k S H = (match evOp S H (.mark x) with | some (v, H') => RK P m0 Q os k (putS S d v) H' | none => False) := propext Iff.rfl
theorem fk_mark (x : Od) : FK P m0 Q pairs (⟨d, .mark x, none⟩ :: os) k S H FW = (match evOp S H (.mark x) with | some (v, H') => FK P m0 Q pairs os k (putS S d v) H' (FW ++ [(footOp S (.mark x), wrOp S (.mark x))]) | none => False) := propext Iff.rfl
theorem rk_toStr (x : Od) : RK P m0 Q (⟨d, .toStr x, none⟩ :: os) k S H = (match evOp S H (.toStr x) with | some (v, H') => RK P m0 Q os k (putS S d v) H' | none => False) := propext Iff.rfl
theorem fk_toStr (x : Od) : FK P m0 Q pairs (⟨d, .toStr x, none⟩ :: os) k S H FW = (match evOp S H (.toStr x) with | some (v, H') => FK P m0 Q pairs os k (putS S d v) H' (FW ++ [(footOp S (.toStr x), wrOp S (.toStr x))]) | none => False) := propext Iff.rfl
theorem rk_toBytes (x : Od) : RK P m0 Q (⟨d, .toBytes x, none⟩ :: os) k S H = (match evOp S H (.toBytes x) with | some (v, H') => RK P m0 Q os k (putS S d v) H' | none => False) := propext Iff.rfl
theorem fk_toBytes (x : Od) : FK P m0 Q pairs (⟨d, .toBytes x, none⟩ :: os) k S H FW = (match evOp S H (.toBytes x) with | some (v, H') => FK P m0 Q pairs os k (putS S d v) H' (FW ++ [(footOp S (.toBytes x), wrOp S (.toBytes x))]) | none => False) := propext Iff.rfl
theorem rk_mkSl (sz bytes : Nat) (zs : List Value) (l c : Od) : RK P m0 Q (⟨d, .mkSl sz bytes zs l c, none⟩ :: os) k S H = (match evOp S H (.mkSl sz bytes zs l c) with | some (v, H') => RK P m0 Q os k (putS S d v) H' | none => False) := propext Iff.rfl
theorem fk_mkSl (sz bytes : Nat) (zs : List Value) (l c : Od) : FK P m0 Q pairs (⟨d, .mkSl sz bytes zs l c, none⟩ :: os) k S H FW = (match evOp S H (.mkSl sz bytes zs l c) with | some (v, H') => FK P m0 Q pairs os k (putS S d v) H' (FW ++ [(footOp S (.mkSl sz bytes zs l c), wrOp S (.mkSl sz bytes zs l c))]) | none => False) := propext Iff.rfl
theorem rk_sliceArr (n sz : Nat) (x : Od) (lo hi : Option Od) : RK P m0 Q (⟨d, .sliceArr n sz x lo hi, none⟩ :: os) k S H = (match evOp S H (.sliceArr n sz x lo hi) with | some (v, H') => RK P m0 Q os k (putS S d v) H' | none => False) := propext Iff.rfl
theorem fk_sliceArr (n sz : Nat) (x : Od) (lo hi : Option Od) : FK P m0 Q pairs (⟨d, .sliceArr n sz x lo hi, none⟩ :: os) k S H FW = (match evOp S H (.sliceArr n sz x lo hi) with | some (v, H') => FK P m0 Q pairs os k (putS S d v) H' (FW ++ [(footOp S (.sliceArr n sz x lo hi), wrOp S (.sliceArr n sz x lo hi))]) | none => False) := propext Iff.rfl
theorem rk_sliceSl (sz : Nat) (x : Od) (lo hi : Option Od) : RK P m0 Q (⟨d, .sliceSl sz x lo hi, none⟩ :: os) k S H = (match evOp S H (.sliceSl sz x lo hi) with | some (v, H') => RK P m0 Q os k (putS S d v) H' | none => False) := propext Iff.rfl
theorem fk_sliceSl (sz : Nat) (x : Od) (lo hi : Option Od) : FK P m0 Q pairs (⟨d, .sliceSl sz x lo hi, none⟩ :: os) k S H FW = (match evOp S H (.sliceSl sz x lo hi) with | some (v, H') => FK P m0 Q pairs os k (putS S d v) H' (FW ++ [(footOp S (.sliceSl sz x lo hi), wrOp S (.sliceSl sz x lo hi))]) | none => False) := propext Iff.rfl
theorem rk_sliceStr (x : Od) (lo hi : Option Od) : RK P m0 Q (⟨d, .sliceStr x lo hi, none⟩ :: os) k S H = (match evOp S H (.sliceStr x lo hi) with | some (v, H') => RK P m0 Q os k (putS S d v) H' | none => False) := propext Iff.rfl
theorem fk_sliceStr (x : Od) (lo hi : Option Od) : FK P m0 Q pairs (⟨d, .sliceStr x lo hi, none⟩ :: os) k S H FW = (match evOp S H (.sliceStr x lo hi) with | some (v, H') => FK P m0 Q pairs os k (putS S d v) H' (FW ++ [(footOp S (.sliceStr x lo hi), wrOp S (.sliceStr x lo hi))]) | none => False) := propext Iff.rfl
theorem rk_fieldAddr (off : Nat) (x : Od) : RK P m0 Q (⟨d, .fieldAddr off x, none⟩ :: os) k S H = (match evOp S H (.fieldAddr off x) with | some (v, H') => RK P m0 Q os k (putS S d v) H' | none => False) := propext Iff.rfl
theorem fk_fieldAddr (off : Nat) (x : Od) : FK P m0 Q pairs (⟨d, .fieldAddr off x, none⟩ :: os) k S H FW = (match evOp S H (.fieldAddr off x) with | some (v, H') => FK P m0 Q pairs os k (putS S d v) H' (FW ++ [(footOp S (.fieldAddr off x), wrOp S (.fieldAddr off x))]) | none => False) := propext Iff.rfl
theorem rk_field (off : Nat) (kd : Option Nat) (x : Od) : RK P m0 Q (⟨d, .field off kd x, none⟩ :: os) k S H = (match evOp S H (.field off kd x) with | some (v, H') => RK P m0 Q os k (putS S d v) H' | none => False) := propext Iff.rfl
theorem fk_field (off : Nat) (kd : Option Nat) (x : Od) : FK P m0 Q pairs (⟨d, .field off kd x, none⟩ :: os) k S H FW = (match evOp S H (.field off kd x) with | some (v, H') => FK P m0 Q pairs os k (putS S d v) H' (FW ++ [(footOp S (.field off kd x), wrOp S (.field off kd x))]) | none => False) := propext Iff.rfl
theorem rk_idxArr (n sz : Nat) (x i : Od) : RK P m0 Q (⟨d, .idxArr n sz x i, none⟩ :: os) k S H = (match evOp S H (.idxArr n sz x i) with | some (v, H') => RK P m0 Q os k (putS S d v) H' | none => False) := propext Iff.rfl
theorem fk_idxArr (n sz : Nat) (x i : Od) : FK P m0 Q pairs (⟨d, .idxArr n sz x i, none⟩ :: os) k S H FW = (match evOp S H (.idxArr n sz x i) with | some (v, H') => FK P m0 Q pairs os k (putS S d v) H' (FW ++ [(footOp S (.idxArr n sz x i), wrOp S (.idxArr n sz x i))]) | none => False) := propext Iff.rfl
theorem rk_idxSl (sz : Nat) (x i : Od) : RK P m0 Q (⟨d, .idxSl sz x i, none⟩ :: os) k S H = (match evOp S H (.idxSl sz x i) with | some (v, H') => RK P m0 Q os k (putS S d v) H' | none => False) := propext Iff.rfl
theorem fk_idxSl (sz : Nat) (x i : Od) : FK P m0 Q pairs (⟨d, .idxSl sz x i, none⟩ :: os) k S H FW = (match evOp S H (.idxSl sz x i) with | some (v, H') => FK P m0 Q pairs os k (putS S d v) H' (FW ++ [(footOp S (.idxSl sz x i), wrOp S (.idxSl sz x i))]) | none => False) := propext Iff.rfl
theorem rk_indexArr (n sz : Nat) (kd : Option Nat) (x i : Od) : RK P m0 Q (⟨d, .indexArr n sz kd x i, none⟩ :: os) k S H = (match evOp S H (.indexArr n sz kd x i) with | some (v, H') => RK P m0 Q os k (putS S d v) H' | none => False) := propext Iff.rfl
theorem fk_indexArr (n sz : Nat) (kd : Option Nat) (x i : Od) : FK P m0 Q pairs (⟨d, .indexArr n sz kd x i, none⟩ :: os) k S H FW = (match evOp S H (.indexArr n sz kd x i) with | some (v, H') => FK P m0 Q pairs os k (putS S d v) H' (FW ++ [(footOp S (.indexArr n sz kd x i), wrOp S (.indexArr n sz kd x i))]) | none => False) := propext Iff.rfl
theorem rk_indexStr (x i : Od) : RK P m0 Q (⟨d, .indexStr x i, none⟩ :: os) k S H = (match evOp S H (.indexStr x i) with | some (v, H') => RK P m0 Q os k (putS S d v) H' | none => False) := propext Iff.rfl
theorem fk_indexStr (x i : Od) : FK P m0 Q pairs (⟨d, .indexStr x i, none⟩ :: os) k S H FW = (match evOp S H (.indexStr x i) with | some (v, H') => FK P m0 Q pairs os k (putS S d v) H' (FW ++ [(footOp S (.indexStr x i), wrOp S (.indexStr x i))]) | none => False) := propext Iff.rfl
theorem rk_extract (x : Od) (i : Nat) : RK P m0 Q (⟨d, .extract x i, none⟩ :: os) k S H = (match evOp S H (.extract x i) with | some (v, H') => RK P m0 Q os k (putS S d v) H' | none => False) := propext Iff.rfl
theorem fk_extract (x : Od) (i : Nat) : FK P m0 Q pairs (⟨d, .extract x i, none⟩ :: os) k S H FW = (match evOp S H (.extract x i) with | some (v, H') => FK P m0 Q pairs os k (putS S d v) H' (FW ++ [(footOp S (.extract x i), wrOp S (.extract x i))]) | none => False) := propext Iff.rfl
theorem rk_lenC (n : Nat) : RK P m0 Q (⟨d, .lenC n, none⟩ :: os) k S H = (match evOp S H (.lenC n) with | some (v, H') => RK P m0 Q os k (putS S d v) H' | none => False) := propext Iff.rfl
theorem fk_lenC (n : Nat) : FK P m0 Q pairs (⟨d, .lenC n, none⟩ :: os) k S H FW = (match evOp S H (.lenC n) with | some (v, H') => FK P m0 Q pairs os k (putS S d v) H' (FW ++ [(footOp S (.lenC n), wrOp S (.lenC n))]) | none => False) := propext Iff.rfl
theorem rk_lenStr (x : Od) : RK P m0 Q (⟨d, .lenStr x, none⟩ :: os) k S H = (match evOp S H (.lenStr x) with | some (v, H') => RK P m0 Q os k (putS S d v) H' | none => False) := propext Iff.rfl
theorem fk_lenStr (x : Od) : FK P m0 Q pairs (⟨d, .lenStr x, none⟩ :: os) k S H FW = (match evOp S H (.lenStr x) with | some (v, H') => FK P m0 Q pairs os k (putS S d v) H' (FW ++ [(footOp S (.lenStr x), wrOp S (.lenStr x))]) | none => False) := propext Iff.rfl
theorem rk_lenSl (x : Od) : RK P m0 Q (⟨d, .lenSl x, none⟩ :: os) k S H = (match evOp S H (.lenSl x) with | some (v, H') => RK P m0 Q os k (putS S d v) H' | none => False) := propext Iff.rfl
theorem fk_lenSl (x : Od) : FK P m0 Q pairs (⟨d, .lenSl x, none⟩ :: os) k S H FW = (match evOp S H (.lenSl x) with | some (v, H') => FK P m0 Q pairs os k (putS S d v) H' (FW ++ [(footOp S (.lenSl x), wrOp S (.lenSl x))]) | none => False) := propext Iff.rfl
theorem rk_minmax (mx : Bool) (xs : List Od) : RK P m0 Q (⟨d, .minmax mx xs, none⟩ :: os) k S H = (match evOp S H (.minmax mx xs) with | some (v, H') => RK P m0 Q os k (putS S d v) H' | none => False) := propext Iff.rfl
theorem fk_minmax (mx : Bool) (xs : List Od) : FK P m0 Q pairs (⟨d, .minmax mx xs, none⟩ :: os) k S H FW = (match evOp S H (.minmax mx xs) with | some (v, H') => FK P m0 Q pairs os k (putS S d v) H' (FW ++ [(footOp S (.minmax mx xs), wrOp S (.minmax mx xs))]) | none => False) := propext Iff.rfl
theorem rk_append (sz bytes : Nat) (x y : Od) : RK P m0 Q (⟨d, .append sz bytes x y, none⟩ :: os) k S H = (match evOp S H (.append sz bytes x y) with | some (v, H') => RK P m0 Q os k (putS S d v) H' | none => False) := propext Iff.rfl
theorem fk_append (sz bytes : Nat) (x y : Od) : FK P m0 Q pairs (⟨d, .append sz bytes x y, none⟩ :: os) k S H FW = (match evOp S H (.append sz bytes x y) with | some (v, H') => FK P m0 Q pairs os k (putS S d v) H' (FW ++ [(footOp S (.append sz bytes x y), wrOp S (.append sz bytes x y))]) | none => False) := propext Iff.rfl
theorem rk_copy (sz : Nat) (x y : Od) : RK P m0 Q (⟨d, .copy sz x y, none⟩ :: os) k S H = (match evOp S H (.copy sz x y) with | some (v, H') => RK P m0 Q os k (putS S d v) H' | none => False) := propext Iff.rfl
theorem fk_copy (sz : Nat) (x y : Od) : FK P m0 Q pairs (⟨d, .copy sz x y, none⟩ :: os) k S H FW = (match evOp S H (.copy sz x y) with | some (v, H') => FK P m0 Q pairs os k (putS S d v) H' (FW ++ [(footOp S (.copy sz x y), wrOp S (.copy sz x y))]) | none => False) := propext Iff.rfl
theorem rk_mkFunc (f : Nat) (caps : List Od) : RK P m0 Q (⟨d, .mkFunc f caps, none⟩ :: os) k S H = (match evOp S H (.mkFunc f caps) with | some (v, H') => RK P m0 Q os k (putS S d v) H' | none => False) := propext Iff.rfl
theorem fk_mkFunc (f : Nat) (caps : List Od) : FK P m0 Q pairs (⟨d, .mkFunc f caps, none⟩ :: os) k S H FW = (match evOp S H (.mkFunc f caps) with | some (v, H') => FK P m0 Q pairs os k (putS S d v) H' (FW ++ [(footOp S (.mkFunc f caps), wrOp S (.mkFunc f caps))]) | none => False) := propext Iff.rfl
end

theorem ex_bool {b : Bool} {p : Bool → Prop} : (∃ t, V.sc (.bool b) = .sc (.bool t) ∧ p t) ↔ p b := by simp

theorem wrap_id (n : Int) (h1 : -9223372036854775808 ≤ n) (h2 : n ≤ 9223372036854775807) : IntKind.i64.wrap n = n := IntWalk.i64_in n ⟨h1, h2⟩

/-! Calls. -/

mutual
theorem renV_closed (ρ : Nat → Nat) : ∀ (v : V), Closed v → renV ρ v = v
  | .sc v, _ => rfl
  | .agg cs, h => by simp only [renV]; rw [renL_closed ρ cs h]
  | .tup cs, h => by simp only [renV]; rw [renL_closed ρ cs h]
  | .sl n cs, h => by simp only [renV]; rw [renL_closed ρ cs h]
  | .box cs, h => by simp only [renV]; rw [renL_closed ρ cs h]
  | .ref id off, h => h.elim
  | .sref id off n sz, h => h.elim
  | .fn f cs, h => by simp only [renV]; rw [renL_closed ρ cs h]
  | .dead, _ => rfl
theorem renL_closed (ρ : Nat → Nat) : ∀ (l : List V), ClosedL l → renL ρ l = l
  | [], _ => rfl
  | v :: vs, h => by
    simp only [renL]
    rw [renV_closed ρ v h.1, renL_closed ρ vs h.2]
end

mutual
theorem arg_closed {H : Heap} {ids bs : List Nat} : ∀ (v : V), Closed v → ArgRel H ids bs v v
  | .sc v, _ => by simp [ArgRel]
  | .agg cs, h => by simp only [ArgRel]; exact ⟨cs, rfl, argL_closed cs h⟩
  | .tup cs, h => by simp only [ArgRel]; exact ⟨cs, rfl, argL_closed cs h⟩
  | .sl n cs, h => by simp only [ArgRel]; exact ⟨trivial, h⟩
  | .box cs, h => by simp only [ArgRel]; exact ⟨trivial, h⟩
  | .ref id off, h => h.elim
  | .sref id off n sz, h => h.elim
  | .fn f cs, h => by simp only [ArgRel]; exact ⟨cs, rfl, argL_closed cs h⟩
  | .dead, _ => by simp [ArgRel]
theorem argL_closed {H : Heap} {ids bs : List Nat} : ∀ (l : List V), ClosedL l → ArgRelL H ids bs l l
  | [], _ => by simp [ArgRelL]
  | v :: vs, h => by
    simp only [ArgRelL]
    exact ⟨v, vs, rfl, arg_closed v h.1, argL_closed vs h.2⟩
end

theorem closedL_sc (l : List Value) : ClosedL (l.map .sc) := ClosedL.mk fun v hv => by
  obtain ⟨x, _, rfl⟩ := List.mem_map.1 hv
  trivial

theorem closedL_u8 (l : List UInt8) : ClosedL (l.map u8V) := ClosedL.mk fun v hv => by
  obtain ⟨x, _, rfl⟩ := List.mem_map.1 hv
  trivial

/-- A call that is handed nothing but values and rows to be read, and gives back values and new blocks. -/
theorem call_in {P : Program} {f : Nat} {args' : List V} {r : V} {Hout : Heap} (hC : C P f args' [] r Hout) {H : Heap} {args : List V} (bs : List Nat) (hbs : ∀ id ∈ bs, id ∈ idsInL args ∧ ∃ cells, blkAt H id = some cells)
    (hrel : ArgRelL H [] bs args args') (hro : bs ≠ [] → NoRO r ∧ NoROH Hout) : CallRel P f H args (renV (fun k => H.length + k) r) (H ++ Hout.map (Option.map (renL fun k => H.length + k))) bs [] := by
  have hρ : ρof [] H.length = fun k => H.length + k := by funext k; simp [ρof]
  refine ⟨[], bs, args', [], r, Hout, hC, List.nodup_nil, rfl, Nat.zero_le _, fun k id h => by simp at h, fun k id h => by simp at h, hbs, hrel, hro, by rw [hρ], ?_, by simp, rfl⟩
  rw [hρ]; rfl

/-- A call of values alone. -/
theorem call_pure {P : Program} {f : Nat} {args : List V} {r : V} (hC : C P f args [] r []) (ha : ClosedL args) (hr : Closed r) {H : Heap} : CallRel P f H args r H [] [] := by
  have := call_in hC (H := H) [] (fun id h => by cases h) (argL_closed args ha) (fun h => absurd rfl h)
  rw [renV_closed _ r hr] at this
  simpa using this

/-- A call of values that gives back a new row. -/
theorem call_new {P : Program} {f : Nat} {args : List V} {n sz : Nat} {cells : List V} (hC : C P f args [] (.sref 0 0 n sz) [some cells]) (ha : ClosedL args) (hc : ClosedL cells) {H : Heap} :
    CallRel P f H args (.sref H.length 0 n sz) (H ++ [some cells]) [] [] := by
  have := call_in hC (H := H) [] (fun id h => by cases h) (argL_closed args ha) (fun h => absurd rfl h)
  simpa [renV, renL_closed _ cells hc] using this

/-- What a function is to leave. -/
def Post (ars : List ARes) (n : Nat) (r : V) (Hout : Heap) (e : AExit) (S : List V) (H : Heap) : Prop := (e = .normal ∨ e = .ret) ∧ ∃ v, resAll S H ars = some v ∧ OutOK n H v r Hout

theorem post_ret {ars : List ARes} {n : Nat} {r : V} {Hout : Heap} {S : List V} {H : Heap} : Post ars n r Hout .ret S H = ∃ v, resAll S H ars = some v ∧ OutOK n H v r Hout := by simp [Post]
theorem post_normal {ars : List ARes} {n : Nat} {r : V} {Hout : Heap} {S : List V} {H : Heap} : Post ars n r Hout .normal S H = ∃ v, resAll S H ars = some v ∧ OutOK n H v r Hout := by simp [Post]
theorem res_one (S : List V) (H : Heap) (t : Nat) : resAll S H [.tmp t] = some (S.getD t .dead) := by simp [resAll, resL, resV]

/-- How a function's contract is shown. -/
theorem C_of {P : Program} (hm : P.follows .mixedOrders = true) {f : Nat} {fn : Func} {A : ACode} {ars : List ARes} (hf : P.funcs[f]? = some fn) (hA : fn.body.bind (cCode P) = some A)
    (hR : cRes P fn.results.toList = some ars) {args : List V} {Hin : List (List V)} {r : V} {Hout : Heap} (nt : Nat) (hnt : fn.ntmps = nt)
    (h : WK P Hin.length (Post ars Hin.length r Hout) A .fin (args ++ List.replicate (nt - args.length) .dead) (Hin.map some)) : C P f args Hin r Hout := by
  simp only [Option.bind_eq_some_iff] at hA
  obtain ⟨c, hb, hA⟩ := hA
  subst hnt
  exact C_of_body hm hf hb hA hR (wpS_sound A _ _ _ h)

/-- What is given back is a value. -/
theorem out_val {H : Heap} {v : V} (hv : Closed v) : OutOK 0 H v v [] := ⟨[], List.nodup_nil, rfl, Nat.le_refl _, fun k h => by omega, arg_closed v hv, fun k c h => by simp at h⟩

/-- What is given back is a new row. -/
theorem out_row {H : Heap} {id n sz : Nat} {cells : List V} (hb : blkAt H id = some cells) (hc : ClosedL cells) : OutOK 0 H (.sref id 0 n sz) (.sref 0 0 n sz) [some cells] := by
  refine ⟨[id], by simp, rfl, Nat.zero_le _, fun k h => by omega, ?_, fun k c h => ?_⟩
  · simp only [ArgRel]
    exact .inl ⟨0, rfl, rfl⟩
  · cases k with
    | zero => simp at h; subst h; exact ⟨id, cells, rfl, hb, argL_closed cells hc⟩
    | succ k => simp at h

end
end Go.Proofs.Ytlahigboaeadmaa.VA
