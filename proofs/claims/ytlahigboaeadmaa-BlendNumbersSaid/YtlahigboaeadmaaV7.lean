/- The soundness of single operations of 'VA': comparisons, conversions, slices, append, copy. -/
import Derived.Test.YtlahigboaeadmaaV6
set_option linter.unusedVariables false
set_option linter.unusedSimpArgs false
namespace Go.Proofs.Ytlahigboaeadmaa.VA
open Go

/-! ## Comparisons -/

theorem eqW_nil {xs ys : List Value} {r : Bool} (h : eqW [] xs ys = some r) : xs = [] ∧ ys = [] ∧ r = true := by
  cases xs with
  | nil => cases ys with
    | nil => simp only [eqW, Option.some.injEq] at h; exact ⟨rfl, rfl, h.symm⟩
    | cons y ys => simp [eqW] at h
  | cons x xs => simp [eqW] at h

theorem eqW_false {s : List Bool} {xs ys : List Value} {r : Bool} (h : eqW (false :: s) xs ys = some r) :
    ∃ k a b xs' ys' r0, xs = .int k a :: xs' ∧ ys = .int k b :: ys' ∧ eqW s xs' ys' = some r0 ∧ r = (a == b && r0) := by
  cases xs with
  | nil => simp [eqW] at h
  | cons x xs =>
    cases ys with
    | nil => cases x <;> simp [eqW] at h
    | cons y ys =>
      cases x with
      | int k a =>
        cases y with
        | int k' b =>
          simp only [eqW] at h
          split at h
          · rename_i hk
            subst hk
            simp only [Option.map_eq_some_iff] at h
            obtain ⟨r0, h0, h1⟩ := h
            exact ⟨k, a, b, xs, ys, r0, rfl, rfl, h0, h1.symm⟩
          · cases h
        | _ => simp [eqW] at h
      | _ => simp [eqW] at h

theorem eqW_true {s : List Bool} {xs ys : List Value} {r : Bool} (h : eqW (true :: s) xs ys = some r) :
    ∃ a b xs' ys' r0, xs = .bool a :: xs' ∧ ys = .bool b :: ys' ∧ eqW s xs' ys' = some r0 ∧ r = (a == b && r0) := by
  cases xs with
  | nil => simp [eqW] at h
  | cons x xs =>
    cases ys with
    | nil => cases x <;> simp [eqW] at h
    | cons y ys =>
      cases x with
      | bool a =>
        cases y with
        | bool b =>
          simp only [eqW, Option.map_eq_some_iff] at h
          obtain ⟨r0, h0, h1⟩ := h
          exact ⟨a, b, xs, ys, r0, rfl, rfl, h0, h1.symm⟩
        | _ => simp [eqW] at h
      | _ => simp [eqW] at h

theorem eqW_append : ∀ (s1 s2 : List Bool) (xs ys : List Value) (r : Bool), eqW (s1 ++ s2) xs ys = some r →
    ∃ r1 r2, eqW s1 (xs.take s1.length) (ys.take s1.length) = some r1 ∧ eqW s2 (xs.drop s1.length) (ys.drop s1.length) = some r2 ∧ r = (r1 && r2)
  | [], s2, xs, ys, r, h => ⟨true, r, by simp [eqW], by simpa using h, by simp⟩
  | false :: s1, s2, xs, ys, r, h => by
    obtain ⟨k, a, b, xs', ys', r0, rfl, rfl, h0, rfl⟩ := eqW_false h
    obtain ⟨r1, r2, h1, h2, rfl⟩ := eqW_append s1 s2 xs' ys' r0 h0
    exact ⟨a == b && r1, r2, by simp [eqW, h1], by simpa using h2, by simp [Bool.and_assoc]⟩
  | true :: s1, s2, xs, ys, r, h => by
    obtain ⟨a, b, xs', ys', r0, rfl, rfl, h0, rfl⟩ := eqW_true h
    obtain ⟨r1, r2, h1, h2, rfl⟩ := eqW_append s1 s2 xs' ys' r0 h0
    exact ⟨a == b && r1, r2, by simp [eqW, h1], by simpa using h2, by simp [Bool.and_assoc]⟩

theorem eqW_len : ∀ (s : List Bool) (xs ys : List Value) (r : Bool), eqW s xs ys = some r → xs.length = s.length ∧ ys.length = s.length
  | [], xs, ys, r, h => by obtain ⟨rfl, rfl, _⟩ := eqW_nil h; simp
  | false :: s, xs, ys, r, h => by
    obtain ⟨k, a, b, xs', ys', r0, rfl, rfl, h0, rfl⟩ := eqW_false h
    have := eqW_len s _ _ _ h0
    simp [this]
  | true :: s, xs, ys, r, h => by
    obtain ⟨a, b, xs', ys', r0, rfl, rfl, h0, rfl⟩ := eqW_true h
    have := eqW_len s _ _ _ h0
    simp [this]

def valK (k : Option Nat) (xs : List Value) : Value := match k with
  | none => xs.headD undef
  | some _ => .agg xs.toArray

theorem part_valK {P : Program} {t : TypeId} {k : Option Nat} (hk : kindOf P t = some k) {n : Nat} (hn : sizeC P t = some n) (xs : List Value) (off : Nat) (h : off + n ≤ xs.length) (w : World) :
    (part t xs.toArray off).run P w = .ok (valK k ((xs.drop off).take n)) w := by
  cases k with
  | none =>
    have h1 := (kind_scalar hk w).2
    rw [hn] at h1; cases h1
    have hlt : off < xs.length := by omega
    have : (xs.drop off).take 1 = [xs[off]] := by
      rw [List.drop_eq_getElem_cons hlt, List.take_succ_cons, List.take_zero]
    simp [part, (kind_scalar hk w).1, valK, hlt, this]
  | some m =>
    have h1 := (kind_agg hk w).2
    rw [hn] at h1; cases h1
    simp [part, (kind_agg hk w).1, info_size hn, valK]

/-- That a flat type is compared cell by cell. -/
def FlatOK (P : Program) (d : Nat) (t : TypeId) (sh : List Bool) : Prop :=
  ∃ k, kindOf P t = some k ∧ sizeC P t = some sh.length ∧ sh ≠ [] ∧ ∀ (xs ys : List Value) (r : Bool) (D : Nat) (w : World), eqW sh xs ys = some r → (Op.equalIn (d + D) t (valK k xs) (valK k ys)).run P w = .ok r w

theorem flatFields_ok {P : Program} {d : Nat} (ft : TypeId → Option (List Bool)) (hft : ∀ t sh, ft t = some sh → FlatOK P d t sh) (D : Nat) (XS YS : List Value) : ∀ (fs : List Field) (n : Nat) (sh : List Bool) (r : Bool) (w : World),
    flatFields P ft fs n = some sh → eqW sh (XS.drop n) (YS.drop n) = some r → (Op.eqFields (d + D) XS.toArray YS.toArray fs).run P w = .ok r w
  | [], n, sh, r, w, h, he => by
    simp only [flatFields] at h; cases h
    obtain ⟨_, _, rfl⟩ := eqW_nil he
    simp [Op.eqFields]
  | f :: fs, n, sh, r, w, h, he => by
    simp only [flatFields] at h
    split at h
    · rename_i hc
      obtain ⟨hoff, hname⟩ := hc
      split at h
      · rename_i l hl
        simp only [Option.map_eq_some_iff] at h
        obtain ⟨rest, hrest, rfl⟩ := h
        obtain ⟨k, hk, hsz, hne, hok⟩ := hft _ _ hl
        obtain ⟨r1, r2, h1, h2, rfl⟩ := eqW_append l rest _ _ r he
        have hlen := eqW_len _ _ _ _ he
        have hpos : 0 < l.length := List.length_pos_iff.2 hne
        simp only [List.length_drop, List.length_append] at hlen
        have hn : f.name ≠ "_" := by simpa using hname
        have ih := flatFields_ok ft hft D XS YS fs (n + l.length) rest r2 w hrest (by simpa [List.drop_drop] using h2)
        have hp1 := part_valK hk hsz XS n (by omega) w
        have hp2 := part_valK hk hsz YS n (by omega) w
        have he1 := hok _ _ r1 D w h1
        simp only [Op.eqFields, hn, ne_eq, not_false_eq_true, if_true, Sem.run_bind, hoff, hp1, hp2, he1, Result.andThen_ok]
        cases r1
        · simp
        · simpa using ih
      · cases h
    · cases h

theorem flatItems_ok {P : Program} {d : Nat} {e : TypeId} {l : List Bool} (hok : FlatOK P d e l) (D : Nat) (XS YS : List Value) : ∀ (m i : Nat) (r : Bool) (w : World),
    eqW (List.replicate m l).flatten (XS.drop (i * l.length)) (YS.drop (i * l.length)) = some r → (Op.eqItems (d + D) e l.length XS.toArray YS.toArray (List.range' i m)).run P w = .ok r w
  | 0, i, r, w, he => by
    simp only [List.replicate_zero, List.flatten_nil] at he
    obtain ⟨_, _, rfl⟩ := eqW_nil he
    simp [Op.eqItems]
  | m + 1, i, r, w, he => by
    obtain ⟨k, hk, hsz, hne, hkk⟩ := hok
    have hok : FlatOK P d e l := ⟨k, hk, hsz, hne, hkk⟩
    rw [List.replicate_succ, List.flatten_cons] at he
    obtain ⟨r1, r2, h1, h2, rfl⟩ := eqW_append l _ _ _ r he
    have hlen := eqW_len _ _ _ _ he
    have hpos : 0 < l.length := List.length_pos_iff.2 hne
    simp only [List.length_drop, List.length_append] at hlen
    rw [List.range'_succ]
    have ih := flatItems_ok hok D XS YS m (i + 1) r2 w (by
      rw [Nat.add_mul, Nat.one_mul]
      simpa [List.drop_drop] using h2)
    have hp1 := part_valK hk hsz XS (i * l.length) (by omega) w
    have hp2 := part_valK hk hsz YS (i * l.length) (by omega) w
    have he1 := hkk _ _ r1 D w h1
    simp only [Op.eqItems, Sem.run_bind, hp1, hp2, he1, Result.andThen_ok]
    cases r1
    · simp
    · simpa using ih

theorem kind_of_scalar {P : Program} {t : TypeId} {d : TypeDesc} (hu : P.underlying t = some d) (hs : sizeC P t = some 1) (hd : (match d with | .struct _ | .array _ _ => true | _ => false) = false) : kindOf P t = some none := by
  cases hi : P.info? t with
  | none => simp [sizeC, hi] at hs
  | some i =>
    simp [sizeC, hi] at hs
    cases d <;> simp_all [kindOf]

theorem kind_of_agg {P : Program} {t : TypeId} {d : TypeDesc} {n : Nat} (hu : P.underlying t = some d) (hs : sizeC P t = some n) (hd : (match d with | .struct _ | .array _ _ => true | _ => false) = true) : kindOf P t = some (some n) := by
  cases hi : P.info? t with
  | none => simp [sizeC, hi] at hs
  | some i =>
    simp [sizeC, hi] at hs
    cases d <;> simp_all [kindOf]

theorem flatSh_ok (P : Program) : ∀ (d : Nat) (t : TypeId) (sh : List Bool), flatSh P d t = some sh → FlatOK P d t sh
  | 0, t, sh, h => by simp [flatSh] at h
  | d + 1, t, sh, h => by
    simp only [flatSh] at h
    split at h
    · rename_i hu
      split at h
      · rename_i hs
        cases h
        refine ⟨none, kind_of_scalar hu hs rfl, hs, by simp, fun xs ys r D w he => ?_⟩
        obtain ⟨a, b, xs', ys', r0, rfl, rfl, h0, rfl⟩ := eqW_true he
        obtain ⟨_, _, rfl⟩ := eqW_nil h0
        simp only [valK, List.headD_cons]
        rw [show d + 1 + D = (d + D) + 1 by omega, run_equalIn_bool' w _ t a b hu]; simp
      · cases h
    · rename_i k0 hu
      split at h
      · rename_i hs
        cases h
        refine ⟨none, kind_of_scalar hu hs rfl, hs, by simp, fun xs ys r D w he => ?_⟩
        obtain ⟨k, a, b, xs', ys', r0, rfl, rfl, h0, rfl⟩ := eqW_false he
        obtain ⟨_, _, rfl⟩ := eqW_nil h0
        simp only [valK, List.headD_cons]
        rw [show d + 1 + D = (d + D) + 1 by omega, run_equalIn_int w _ t k k0 a b hu]; simp
      · cases h
    · rename_i fs hu
      split at h
      · rename_i hst
        split at h
        · rename_i l hl
          split at h
          · rename_i hs
            cases h
            refine ⟨some sh.length, kind_of_agg hu hs.1 rfl, hs.1, hs.2, fun xs ys r D w he => ?_⟩
            have hfo : P.fieldsOf t = fs := by simp [Program.fieldsOf, hu]
            simp only [valK]
            rw [show d + 1 + D = (d + D) + 1 by omega, run_equalIn_struct w (d + D) t _ _ (by rw [hfo]; exact hu) hst, hfo]
            exact flatFields_ok (flatSh P d) (fun t sh h => flatSh_ok P d t sh h) D xs ys fs.toList 0 sh r w hl (by simpa using he)
          · cases h
        · cases h
      · cases h
    · rename_i n e hu
      split at h
      · rename_i l hl
        split at h
        · rename_i hs
          cases h
          have hlenfl : ((List.replicate n l).flatten).length = n * l.length := by rw [List.length_flatten]; simp [Nat.mul_comm]
          refine ⟨some (n * l.length), kind_of_agg hu hs.1 rfl, by rw [hlenfl]; exact hs.1, fun h0 => ?_, fun xs ys r D w he => ?_⟩
          · rw [h0] at hlenfl; simp only [List.length_nil] at hlenfl; omega
          · obtain ⟨k, hk', hsz, hne, hkk⟩ := flatSh_ok P d e l hl
            cases hie : P.info? e with
            | none => simp [sizeC, hie] at hsz
            | some ie =>
              have hco : P.cellsOf e = l.length := by simp [sizeC, hie] at hsz; simp [Program.cellsOf, hie, hsz]
              simp only [valK]
              rw [show d + 1 + D = (d + D) + 1 by omega, run_equalIn_array w (d + D) _ _ hu hie, hco, List.range_eq_range']
              exact flatItems_ok ⟨k, hk', hsz, hne, hkk⟩ D xs ys n 0 r w (by simpa using he)
        · cases h
      · cases h
    · cases h

theorem scs_rep {K : Cx} : ∀ {vs : List V} {l cl : List Value}, scs vs = some l → RepL K vs cl → cl = l
  | [], l, cl, h, hr => by simp only [scs] at h; cases h; simpa [RepL] using hr
  | v :: vs, l, cl, h, hr => by
    simp only [RepL] at hr
    obtain ⟨c, cl', rfl, h1, h2⟩ := hr
    cases v with
    | sc u =>
      simp only [scs, Option.map_eq_some_iff] at h
      obtain ⟨l', hl', rfl⟩ := h
      rw [rep_sc h1, scs_rep hl' h2]
    | _ => simp [scs] at h

theorem snd_eqA {P : Program} {K : Cx} {H : Heap} {D : Nat → Prop} {S : List V} {a : Act} {o : Oper} {neg : Bool} {t ty : TypeId} {x y : Operand} {dx dy : Od} {sh : List Bool} (ho : o.op = .binOp (if neg then .neq else .eql) t x y ty) (hdx : cOd x = some dx) (hdy : cOd y = some dy)
    (hsh : flatSh P 20 t = some sh) (hgd : P.eqGuardType P.depth t = false) (hagg : (∃ fs, P.underlying t = some (.struct fs)) ∨ ∃ n e, P.underlying t = some (.array n e))
    (hK : HeapOK K H D) (hx : OnOd K S a x) (hy : OnOd K S a y) {v : V} {H' : Heap} (he : evOp S H (.eqA neg sh dx dy) = some (v, H')) : OpDone P K H D (execOp a.eval o) v H' := by
  have hrx := od_rep hdx hx
  have hry := od_rep hdy hy
  simp only [evOp, Option.map_eq_some_iff] at he
  obtain ⟨r, hr, he⟩ := he
  cases he
  unfold evEqA at hr
  split at hr
  · rename_i xs ys h1 h2
    split at hr
    · rename_i lx ly hlx hly
      rw [h1] at hrx; rw [h2] at hry
      simp only [Rep] at hrx hry
      obtain ⟨cx, hcx, hrx⟩ := hrx
      obtain ⟨cy, hcy, hry⟩ := hry
      have e1 := scs_rep hlx (RepO.iff.1 hrx).1
      have e2 := scs_rep hly (RepO.iff.1 hry).1
      subst e1; subst e2
      obtain ⟨k, hk, hsz, _, hok⟩ := flatSh_ok P 20 t sh hsh
      have hrun := hok cx cy r 9980 K.w hr
      have hkk : ∃ n, k = some n := by
        rcases hagg with ⟨fs, hu⟩ | ⟨n, e, hu⟩
        · rw [kind_of_agg hu hsz rfl] at hk; cases hk; exact ⟨_, rfl⟩
        · rw [kind_of_agg hu hsz rfl] at hk; cases hk; exact ⟨_, rfl⟩
      obtain ⟨n, rfl⟩ := hkk
      simp only [valK] at hrun
      refine OpDone.same (c := .bool (if neg then !r else r)) hK ?_ (by simp [Rep])
      unfold execOp; rw [ho]
      cases neg
      · simp only [Bool.false_eq_true, if_false, Sem.run_bind, hcx, hcy, run_eqGuard_agg K.w _ t x y _ _ hgd, Result.andThen_ok, run_eql_struct, hrun]; rfl
      · simp only [if_true, Sem.run_bind, hcx, hcy, run_eqGuard_agg K.w _ t x y _ _ hgd, Result.andThen_ok, run_neq_struct, hrun]; rfl
    · cases hr
  · cases hr

theorem snd_eqB {P : Program} {K : Cx} {H : Heap} {D : Nat → Prop} {S : List V} {a : Act} {o : Oper} {neg : Bool} {t ty : TypeId} {x y : Operand} {dx dy : Od} (ho : o.op = .binOp (if neg then .neq else .eql) t x y ty) (hdx : cOd x = some dx) (hdy : cOd y = some dy)
    (hu : P.underlying t = some .bool)
    (hK : HeapOK K H D) (hx : OnOd K S a x) (hy : OnOd K S a y) {v : V} {H' : Heap} (he : evOp S H (.eqB neg dx dy) = some (v, H')) : OpDone P K H D (execOp a.eval o) v H' := by
  have hrx := od_rep hdx hx
  have hry := od_rep hdy hy
  simp only [evOp] at he
  split at he
  · rename_i p q h1 h2
    cases he
    rw [h1] at hrx; rw [h2] at hry
    refine OpDone.same (c := .bool (if neg then !(p == q) else p == q)) hK ?_ (by simp [Rep])
    have hrun : ∀ w, (Op.equal t (.bool p) (.bool q)).run P w = .ok (p == q) w := fun w => run_equalIn_bool' w 9999 t p q hu
    unfold execOp; rw [ho]
    cases neg
    · simp only [Bool.false_eq_true, if_false, Sem.run_bind, rep_sc hrx, rep_sc hry, eqGuard, binOp, hrun, Result.andThen_ok, Sem.run_pure]
      simp [hrun]
    · simp only [if_true, Sem.run_bind, rep_sc hrx, rep_sc hry, eqGuard, binOp, hrun, Result.andThen_ok, Sem.run_pure]
      simp [hrun]
  · cases he

theorem equalIn_nil' {P : Program} {t e : TypeId} (hu : P.underlying t = some (.slice e)) (d : Nat) (ao : Option Addr) (n c n' c' : Nat) (w : World) :
    (Op.equalIn (d + 1) t (.slice ao n c) (.slice none n' c')).run P w = .ok ao.isNone w := by
  cases ao <;> simp [Op.equalIn, run_underlying hu]

theorem equalIn_nil {P : Program} {t e : TypeId} (hu : P.underlying t = some (.slice e)) (ao : Option Addr) (n c n' c' : Nat) (w : World) :
    (Op.equal t (.slice ao n c) (.slice none n' c')).run P w = .ok ao.isNone w := equalIn_nil' hu 9999 ao n c n' c' w

theorem snd_eqNil {P : Program} {K : Cx} {H : Heap} {D : Nat → Prop} {S : List V} {a : Act} {o : Oper} {neg : Bool} {t ty e : TypeId} {x y : Operand} {dx dy : Od} (ho : o.op = .binOp (if neg then .neq else .eql) t x y ty) (hdx : cOd x = some dx) (hdy : cOd y = some dy)
    (hu : P.underlying t = some (.slice e))
    (hK : HeapOK K H D) (hx : OnOd K S a x) (hy : OnOd K S a y) {v : V} {H' : Heap} (he : evOp S H (.eqNil neg dx dy) = some (v, H')) : OpDone P K H D (execOp a.eval o) v H' := by
  have hrx := od_rep hdx hx
  have hry := od_rep hdy hy
  simp only [evOp, Option.map_eq_some_iff] at he
  obtain ⟨r, hr, he⟩ := he
  cases he
  have key : ∀ (ao : Option Addr) (n c n' c' : Nat), a.eval x = .slice ao n c → a.eval y = .slice none n' c' → ao.isNone = r → OpDone P K H D (execOp a.eval o) (.sc (.bool (if neg then !r else r))) H := by
    intro ao n c n' c' h1 h2 h3
    refine OpDone.same (c := .bool (if neg then !r else r)) hK ?_ (by simp [Rep])
    unfold execOp; rw [ho]
    cases neg
    · simp only [Bool.false_eq_true, if_false, Sem.run_bind, h1, h2, eqGuard, binOp, Result.andThen_ok, Sem.run_pure]
      simp [equalIn_nil hu, h3]
    · simp only [if_true, Sem.run_bind, h1, h2, eqGuard, binOp, Result.andThen_ok, Sem.run_pure]
      simp [equalIn_nil hu, h3]
  unfold evEqNil at hr
  split at hr
  · rename_i h2
    rw [h2] at hry
    split at hr
    · rename_i h1; rw [h1] at hrx; cases hr
      exact key _ _ _ _ _ (rep_sc hrx) (rep_sc hry) rfl
    · rename_i h1; rw [h1] at hrx; cases hr
      simp only [Rep] at hrx; obtain ⟨ad, cap, hc, _⟩ := hrx
      exact key _ _ _ _ _ hc (rep_sc hry) rfl
    · rename_i h1; rw [h1] at hrx; cases hr
      simp only [Rep] at hrx; obtain ⟨b, oo, cap, _, hc, _⟩ := hrx
      exact key _ _ _ _ _ hc (rep_sc hry) rfl
    · cases hr
  · cases hr

/-! ## Conversions -/

theorem strOf_spec : ∀ (cs : List V) (l : List UInt8), strOf cs = some l → ∃ ns : List Int, cs = ns.map (fun n => V.sc (.int .u8 n)) ∧ l = ns.map fun n => UInt8.ofNat n.toNat
  | [], l, h => by simp only [strOf] at h; cases h; exact ⟨[], rfl, rfl⟩
  | v :: cs, l, h => by
    unfold strOf at h
    split at h
    · simp_all
    · rename_i n r heq
      simp only [List.cons.injEq] at heq
      obtain ⟨rfl, rfl⟩ := heq
      simp only [Option.map_eq_some_iff] at h
      obtain ⟨l', hl', rfl⟩ := h
      obtain ⟨ns, rfl, rfl⟩ := strOf_spec cs l' hl'
      exact ⟨n :: ns, rfl, rfl⟩
    · cases h

theorem foldl_push (ns : List Int) : ∀ (s : ByteArray), ns.foldl (fun r n => r.push (UInt8.ofNat n.toNat)) s = ⟨s.data ++ (ns.map fun n => UInt8.ofNat n.toNat).toArray⟩ := by
  induction ns with
  | nil => intro s; cases s; simp
  | cons n ns ih =>
    intro s
    simp only [List.foldl_cons]
    rw [ih]
    cases s
    simp [ByteArray.push]

theorem scs_ints {K : Cx} : ∀ {ns : List Int} {l : List Value}, RepL K (ns.map fun n => V.sc (.int .u8 n)) l → l = ns.map (Value.int .u8)
  | [], l, h => by simpa [RepL] using h
  | n :: ns, l, h => by
    simp only [List.map_cons, RepL] at h
    obtain ⟨c, l', rfl, h1, h2⟩ := h
    rw [rep_sc h1, scs_ints h2]; rfl

/-- What can be read of a slice or a string. -/
theorem slCells_run {P : Program} {K : Cx} {H : Heap} {D : Nat → Prop} (hK : HeapOK K H D) {sz : Nat} {v : V} {n : Nat} {cs : List V} (h : slCells H sz v = some (n, cs)) (hD : ∀ i ∈ idV v, D i) {c : Value} (hr : Rep K v c) (hsz : sz ≠ 0) :
    cs.length = n * sz ∧ ∃ ao cap, c = .slice ao n cap ∧ (ao = none → n = 0 ∧ cap = 0) ∧ n ≤ cap ∧ ∀ a, ao = some a → RepC K cs a 0 := by
  unfold slCells at h
  split at h
  · cases h
    exact ⟨by simp, none, 0, rep_sc hr, fun _ => ⟨rfl, rfl⟩, Nat.le_refl _, fun a h => by cases h⟩
  · split at h
    · rename_i hl
      cases h
      simp only [Rep] at hr; obtain ⟨a, cap, hc, hn, _, hcs⟩ := hr
      exact ⟨hl, some a, cap, hc, (fun h => by cases h), hn, (fun a' h => by cases h; exact hcs)⟩
    · cases h
  · rename_i id off n' sz'
    split at h
    · rename_i cells hb
      split at h
      · rename_i hc0
        obtain ⟨rfl, hle⟩ := hc0
        cases h
        simp only [Rep] at hr; obtain ⟨b, o, cap, hb', hc, hn, ho, _⟩ := hr
        obtain ⟨b2, cells2, hb2, hH, hok⟩ := hK.blk id (hD id (by simp [idV]))
        rw [hb'] at hb2; cases hb2
        rw [blkAt_iff, hH] at hb; cases hb
        refine ⟨by simp; omega, some ⟨b, o, none⟩, cap, hc, (fun h => by cases h), hn, fun a h => ?_⟩
        cases h
        by_cases hn0 : n = 0
        · subst hn0; simp [RepC]
        · have : o = off := by rcases ho with ho | ho; · omega
                               · exact ho
          subst this
          have := ((RepC.of_blk hok).drop o).take (n * sz')
          have hadd : (⟨b, 0, none⟩ : Addr).add o = ⟨b, o, none⟩ := by unfold Addr.add; split <;> simp_all
          rwa [hadd] at this
      · cases h
    · cases h
  · cases h

theorem repC_cells {K : Cx} {cs : List V} {a : Addr} (h : RepC K cs a 0) : ∃ l : List Value, RepO K cs l ∧ ∀ (j : Nat) (u : Value), l[j]? = some u → K.w.cell? (a.add j) = some u := by
  let f : Nat → Value := fun j => (K.w.cell? (a.add j)).getD undef
  have hf : ∀ j, j < cs.length → ∃ c, K.w.cell? (a.add j) = some c ∧ c.oneCell' = true ∧ Rep K (cs[j]?.getD .dead) c ∧ f j = c := fun j hj => by
    obtain ⟨c, hcell, h1, hr⟩ := h.get j cs[j] (List.getElem?_eq_getElem hj)
    simp only [Nat.zero_add] at hcell
    exact ⟨c, hcell, h1, by simpa [List.getElem?_eq_getElem hj] using hr, by simp [f, hcell]⟩
  refine ⟨(List.range cs.length).map f, RepO.iff.2 ⟨RepL.mk (by simp) fun i v c hv hc => ?_, fun c hc => ?_⟩, fun j u hu => ?_⟩
  · have hi : i < cs.length := (List.getElem?_eq_some_iff.1 hv).1
    obtain ⟨c', h1, h2, h3, h4⟩ := hf i hi
    rw [List.getElem?_map, List.getElem?_range hi] at hc
    simp only [Option.map_some, Option.some.injEq] at hc
    rw [h4] at hc; subst hc
    rw [hv] at h3; exact h3
  · obtain ⟨j, hj, rfl⟩ := List.mem_map.1 hc
    obtain ⟨c', h1, h2, h3, h4⟩ := hf j (by simpa using hj)
    rw [h4]; exact h2
  · by_cases hj : j < cs.length
    · obtain ⟨c', h1, h2, h3, h4⟩ := hf j hj
      rw [List.getElem?_map, List.getElem?_range hj] at hu
      simp only [Option.map_some, Option.some.injEq] at hu
      rw [← hu, h4]; exact h1
    · rw [List.getElem?_eq_none (by simp; omega)] at hu; cases hu

theorem snd_toStr {P : Program} {K : Cx} {H : Heap} {D : Nat → Prop} {S : List V} {a : Act} {o : Oper} {src dst e : TypeId} {x : Operand} {d : Od} (ho : o.op = .convert src dst x) (hd : cOd x = some d)
    (h1 : P.underlying src = some (.slice e)) (h2 : P.underlying dst = some .string) (h3 : P.underlying e = some (.int .u8))
    (hK : HeapOK K H D) (hx : OnOd K S a x) (hfoot : ∀ i ∈ footOp S (.toStr d), D i) {v : V} {H' : Heap} (he : evOp S H (.toStr d) = some (v, H')) : OpDone P K H D (execOp a.eval o) v H' := by
  have hrep := od_rep hd hx
  simp only [evOp] at he
  split at he
  · rename_i n cs hcs
    simp only [Option.map_eq_some_iff] at he
    obtain ⟨l, hl, he⟩ := he
    cases he
    obtain ⟨hlen, ao, cap, hc, hnil, hcap, hcells⟩ := slCells_run (P := P) hK hcs hfoot hrep (by omega)
    obtain ⟨ns, rfl, rfl⟩ := strOf_spec _ _ hl
    refine OpDone.same (c := .string ⟨(ns.map fun n => UInt8.ofNat n.toNat).toArray⟩) hK ?_ (by simp [Rep])
    have hconv := run_convert_bytes_string (P := P) K.w src dst e ao n cap h1 h3 h2
    have hrun : (Conv.bytesToString (.slice ao n cap)).run P K.w = .ok (.string ⟨(ns.map fun n => UInt8.ofNat n.toNat).toArray⟩) K.w := by
      cases ao with
      | none =>
        obtain ⟨rfl, rfl⟩ := hnil rfl
        simp at hlen; subst hlen
        rfl
      | some ad =>
        obtain ⟨cl, hcl, hcell⟩ := repC_cells (hcells ad rfl)
        have := scs_ints (RepO.iff.1 hcl).1
        subst this
        simp only [List.length_map, Nat.mul_one] at hlen
        subst hlen
        have hload := run_loadCells_list (P := P) K.w ad _ hcell
        simp only [List.length_map] at hload
        rw [run_bytesToString K.w ad ns.length cap ns hload, foldl_push]
        simp
    unfold execOp; rw [ho]
    simp only [hc, Sem.run_bind, hconv, hrun, Result.andThen_ok]
    rfl
  · cases he

theorem push_modify (h : Array Obj) (x : Obj) (f : Obj → Obj) : (h.push x).modify h.size f = h.push (f x) := by
  apply Array.ext_getElem?
  intro i
  rw [Array.getElem?_modify, Array.getElem?_push, Array.getElem?_push]
  by_cases hi : i = h.size
  · subst hi; simp
  · rw [if_neg (Ne.symm hi), if_neg hi, if_neg hi]

theorem run_mark_new {P : Program} (w : World) (C : Array Value) (e : TypeId) :
    (markStringish ⟨w.heap.size, 0, none⟩).run P { w with heap := w.heap.push (.cells C e (0, 0)) } = .ok () { w with heap := w.heap.push (.cells C e (C.size, C.size + 1)) } := by
  have hs : ({ w with heap := w.heap.push (.cells C e (0, 0)) } : World).shape? w.heap.size = some (e, C.size) := by
    simp [World.shape?]
  have hf : ({ w with heap := w.heap.push (.cells C e (0, 0)) } : World).freeze { block := w.heap.size, off := C.size } 1 = { w with heap := w.heap.push (.cells C e (C.size, C.size + 1)) } := by
    simp only [World.freeze]
    rw [if_neg (by omega), push_modify]
    rfl
  simp only [markStringish, Sem.run_bind, run_shape, hs, Result.andThen_ok]
  simp only [run_freeze, hf]

theorem snd_toBytes {P : Program} {K : Cx} {H : Heap} {D : Nat → Prop} {S : List V} {a : Act} {o : Oper} {src dst e : TypeId} {x : Operand} {d : Od} (ho : o.op = .convert src dst x) (hd : cOd x = some d)
    (h1 : P.underlying src = some .string) (h2 : P.underlying dst = some (.slice e)) (h3 : P.underlying e = some (.int .u8))
    (hK : HeapOK K H D) (hfresh : K.β H.length = none) (hx : OnOd K S a x) {v : V} {H' : Heap} (he : evOp S H (.toBytes d) = some (v, H')) : OpDone P K H D (execOp a.eval o) v H' := by
  have hrep := od_rep hd hx
  simp only [evOp] at he
  split at he
  · rename_i s hs
    rw [hs] at hrep
    split at he
    · rename_i hle
      cases he
      let cap := (Question.appendCap s.size 0 e).cut (K.w.tape K.w.drawn (.appendCap s.size 0 e))
      have hcap : s.size ≤ cap := by simp [cap, Question.cut]
      let C : Array Value := (s.data.map fun b => Value.int .u8 b.toNat) ++ Array.replicate (cap - s.size) (.int .u8 0)
      have hC : C.size = cap := by
        simp only [C, Array.size_append, Array.size_map, Array.size_replicate]
        show s.data.size + (cap - s.data.size) = cap
        have : s.data.size ≤ cap := hcap
        omega
      have hconv : (convert src dst (.string s)).run P K.w = (Conv.stringToBytes e s).run P K.w := by
        simp [convert, run_underlying h1, run_underlying h2, run_underlying h3]
      refine OpDone.alloc (c := .slice (some ⟨K.w.heap.size, 0, none⟩) s.size cap) (C := C) (e := e) (lo := C.size) (up := C.size + 1)
        (w' := { K.w with drawn := K.w.drawn + 1, heap := K.w.heap.push (.cells C e (C.size, C.size + 1)) }) hK hfresh ?_ rfl rfl rfl rfl ?_ (.inr (Nat.le_refl _)) ?_ ?_ ?_
      · unfold execOp; rw [ho]
        have hmark := run_mark_new (P := P) { K.w with drawn := K.w.drawn + 1 } C e
        simp only [rep_sc hrep, Sem.run_bind, hconv, Conv.stringToBytes, run_choose, Question.forced, Bool.false_eq_true, if_false, Result.andThen_ok, newRow, run_newObj, Sem.run_pure]
        erw [hmark]
        rfl
      · rw [hC]; simp; exact hcap
      · intro i c hc
        simp only [C] at hc
        rcases Array.mem_append.1 (Array.mem_of_getElem? hc) with hm | hm
        · obtain ⟨b, _, rfl⟩ := Array.mem_map.1 hm; rfl
        · have := Array.eq_of_mem_replicate hm; subst this; rfl
      · intro i v hv
        rw [List.getElem?_map] at hv
        simp only [Option.map_eq_some_iff] at hv
        obtain ⟨b, hb, rfl⟩ := hv
        refine ⟨.int .u8 b.toNat, ?_, by simp [u8V, Rep]⟩
        rw [Array.getElem?_toList] at hb
        have hlt := (Array.getElem?_eq_some_iff.1 hb).1
        simp only [C]
        rw [Array.getElem?_append_left (by simpa using hlt)]
        simp [hb]
      · intro K' _ hb hh
        simp only [Rep]
        exact ⟨_, _, _, hb, rfl, hcap, .inr rfl, _, _, _, hh, by rw [hC]; omega⟩
    · cases he
  · cases he

end Go.Proofs.Ytlahigboaeadmaa.VA
