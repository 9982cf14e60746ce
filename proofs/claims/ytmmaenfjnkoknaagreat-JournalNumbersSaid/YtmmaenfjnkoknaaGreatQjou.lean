/- Two disks that have the same: plain facts. -/
import Derived.Test.YtmmaenfjnkoknaaGreatPjou
import Derived.Test.YtmmaenfjnkoknaaGreatVC
set_option linter.unusedVariables false
set_option linter.unusedSimpArgs false
set_option maxRecDepth 100000
namespace Go.Proofs.YtmmaenfjnkoknaaGreat.VA
open Go
attribute [local irreducible] WK NK XK TK RK FK CK CFK CallRel C
attribute [local irreducible] sealF textF fits sumF rightR frec headF imgR frameF keepR putR RightR
def vwR (m : Rsk) : Dsk := ⟨m.now, m.old, 0, 0, .nil⟩
def sloE (x y : Slo) : Prop := x.has = y.has ∧ x.b.l = y.b.l
theorem sloE.refl (x : Slo) : sloE x x := ⟨rfl, rfl⟩
structure mirr (d : Dsk) (m : Rsk) : Prop where
  same : ∀ n : Nat, sloE (d.now.getD n default) (m.now.getD n default)
  none : ∀ n : Nat, (d.now.getD n default).has = false → (d.now.getD n default).b.l = []
theorem baseO_congr (k : Bn 16) {d e : Dsk} (h : ∀ n : Nat, sloE (d.now.getD n default) (e.now.getD n default)) (b p : Nat) : baseO k d b p = baseO k e b p := by
  unfold baseO
  obtain ⟨h1, h2⟩ := h p
  rw [h1, h2]
theorem ldN_congr (k : Bn 16) {d e : Dsk} (h : ∀ n : Nat, sloE (d.now.getD n default) (e.now.getD n default)) (b : Nat) (h0 : Bn 16) : ∀ n, ldN k d b h0 n = ldN k e b h0 n
  | 0 => rfl
  | n + 1 => by
    unfold ldN
    obtain ⟨h1, h2⟩ := h (2 + n)
    rw [ldN_congr k h b h0 n, h1, h2]
theorem loadF_congr (k : Bn 16) {d e : Dsk} (h : ∀ n : Nat, sloE (d.now.getD n default) (e.now.getD n default)) (r : Rgr) (b p n : Nat) : loadF k d r b p n = loadF k e r b p n := by
  unfold loadF
  rw [baseO_congr k h b p]
  split
  · rfl
  · rw [ldN_congr k h b _ n]
theorem getD_set_all {l : List Slo} {n : Nat} (m : Nat) (x : Slo) : (l.set n x).getD m default = if n = m ∧ n < l.length then x else l.getD m default := by
  by_cases h : n = m
  · subst h
    by_cases h2 : n < l.length
    · rw [if_pos ⟨rfl, h2⟩, getD_set_eq _ h2]
    · rw [if_neg fun h => h2 h.2, List.set_eq_of_length_le (by omega)]
  · rw [if_neg fun h' => h h'.1, getD_set_ne _ h]
theorem mirr_set {d : Dsk} {m : Rsk} (h : mirr d m) (hd : d.now.length = m.now.length) (n : Nat) {x y : Slo} (hxy : sloE x y) (hx : x.has = true) (o1 o2 : List Slo) (a b : Int) (c e : Row) (f g : Int) :
    mirr ⟨d.now.set n x, o1, a, b, c⟩ ⟨m.now.set n y, o2, f, e, g⟩ := by
  refine ⟨fun i => ?_, fun i => ?_⟩
  · show sloE ((d.now.set n x).getD i default) ((m.now.set n y).getD i default)
    rw [getD_set_all, getD_set_all, hd]
    split
    · exact hxy
    · exact h.same i
  · show ((d.now.set n x).getD i default).has = false → ((d.now.set n x).getD i default).b.l = []
    rw [getD_set_all]
    split
    · intro h; rw [hx] at h; cases h
    · exact h.none i
theorem mirr_put {d : Dsk} {m : Rsk} (h : mirr d m) (hd : d.ok) (hm : m.ok) (n : Nat) (x y : Row) (hxy : x.l = y.l) : mirr (putD d n x) (putK m n y) :=
  mirr_set (x := ⟨true, x⟩) (y := ⟨true, .of y.l⟩) h (by rw [hd.1, hm.1]) n ⟨rfl, by show x.l = (Row.of y.l).l; rw [hxy, row_l_of]⟩ rfl _ _ _ _ _ _ _ _
theorem now_zero (m : Nat) : Dsk.zero.now.getD m default = Slo.zero := by
  unfold Dsk.zero
  rw [List.getD_eq_getElem?_getD]
  rcases Nat.lt_or_ge m 10 with h | h
  · rw [List.getElem?_replicate_of_lt h]; rfl
  · rw [List.getElem?_eq_none (by simpa using h)]; rfl
theorem mirr_zero : mirr Dsk.zero rsk0 := ⟨fun n => sloE.refl _, fun n _ => by rw [now_zero]; rfl⟩
theorem mirr_W (k : Bn 16) (l : List KR) : ∀ n, mirr (dkW k l n) (rkW k l n)
  | 0 => mirr_zero
  | n + 1 => by
    have ih := mirr_W k l n
    have h1 := mirr_put ih (dkW_ok k l n) (rkW_ok k l n) (2 + n % 8) (.of (frW k l n)) (.of (frW k l n)) rfl
    unfold dkW rkW
    split
    · exact mirr_put h1 (putD_ok (dkW_ok k l n) _ _) (putK_ok (rkW_ok k l n) _ _) _ _ _ rfl
    · exact h1
def Rsk.fine (m : Rsk) : Prop := m.ok ∧ ∀ n : Nat, (m.now.getD n default).b.l.length ≤ 8192
theorem mirr_fine {d : Dsk} {m : Rsk} (h : mirr d m) (hd : d.fine) (hm : m.ok) : m.fine := ⟨hm, fun n => by rw [← (h.same n).2]; exact hd.2 n⟩
def trnS (x : Slo) (t : Nat) : Slo := ⟨true, .of (x.b.l.set t (x.b.l.getD t 0 ^^^ 1))⟩
def trnD (d : Dsk) (n t : Nat) : Dsk := ⟨d.now.set n (trnS (d.now.getD n default) t), d.old.set n (trnS (d.now.getD n default) t), d.pend, d.at_, d.last⟩
def trnK (m : Rsk) (n t : Nat) : Rsk := ⟨m.now.set n (trnS (m.now.getD n default) t), m.old.set n (trnS (m.now.getD n default) t), m.last, m.put1, m.n⟩
theorem trn_ok {d : Dsk} (h : d.ok) (n t : Nat) : (trnD d n t).ok := ⟨by show (d.now.set n _).length = 10; rw [List.length_set]; exact h.1, by show (d.old.set n _).length = 10; rw [List.length_set]; exact h.2⟩
theorem trnK_ok {d : Rsk} (h : d.ok) (n t : Nat) : (trnK d n t).ok := ⟨by show (d.now.set n _).length = 10; rw [List.length_set]; exact h.1, by show (d.old.set n _).length = 10; rw [List.length_set]; exact h.2⟩
theorem mirr_trn {d : Dsk} {m : Rsk} (h : mirr d m) (hd : d.ok) (hm : m.ok) (n t : Nat) : mirr (trnD d n t) (trnK m n t) :=
  mirr_set (x := trnS (d.now.getD n default) t) (y := trnS (m.now.getD n default) t) h (by rw [hd.1, hm.1]) n ⟨rfl, by unfold trnS; rw [(h.same n).2]⟩ rfl _ _ _ _ _ _ _ _
theorem trn_fine {d : Dsk} (h : d.fine) (n t : Nat) : (trnD d n t).fine := by
  refine ⟨trn_ok h.1 n t, fun i => ?_⟩
  show ((d.now.set n _).getD i default).b.l.length ≤ 8192
  rw [getD_set_all]
  split
  · unfold trnS; rw [row_l_of, List.length_set]; exact h.2 n
  · exact h.2 i
end Go.Proofs.YtmmaenfjnkoknaaGreat.VA
