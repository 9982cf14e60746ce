/- The soundness of 'VA': code and functions. -/
import Derived.Test.YtlahigboaeadmaaV14
set_option linter.unusedVariables false
set_option linter.unusedSimpArgs false
namespace Go.Proofs.Ytlahigboaeadmaa.VA
open Go

theorem draw_sound {P : Program} (hm : P.follows .mixedOrders = true) {id : Nat} {ops : Array Oper} {aos : List AOper} (hc : cOps P ops ops.toList = some aos) (hd : drawOK ops ops.toList (freePairs ops.toList) = true)
    {B0 : Cx} {Hb : Heap} (hdef : ∀ i, kap Hb i → ∃ b, B0.β i = some b) (hdom : ∀ i b, B0.β i = some b → i < Hb.length)
    {Q : List V → Heap → Prop} {Q' : Exit → Act → World → Prop} (hQ : ∀ S H a w, Sim B0 Hb S H a w → Q S H → Q' .normal a w)
    {S : List V} {H : Heap} {a : Act} {w : World} (hs : Sim B0 Hb S H a w)
    (hr : RunOps P (fun S H FW => chk FW (askedPairs ops.toList (freePairs ops.toList)) = true ∧ Q S H) aos S H []) : (Code.region id ops true).wp P Q' a w := by
  obtain ⟨Ss, Hs, vs, Fs, Ws, h0, h1, hst, hck, hq⟩ := run_trace aos S H [] hr
  have hlen := (cOps_at hc).1
  have R : Reg P ops ops.toList aos Ss Hs vs Fs Ws := reg_of rfl hc hd hst (by rw [hlen] at hck; simpa using hck)
  rw [← h0, ← h1] at hs
  refine wp_region_any hm ?_
  have hsz : ops.toList.length = ops.size := by simp
  obtain ⟨K, hw, hinv⟩ := inv_start R (sim_drawn hs) (E := fun j => (Array.replicate ops.size false).getD j false = true) (fun j => by
    rw [Array.getD_eq_getD_getElem?, Array.getElem?_replicate]; split <;> simp)
  rw [← hw]
  have hs' := hs
  obtain ⟨K0, _, _, _, hst0, _, _, _⟩ := hs'
  refine any_sound R hdef hdom hst0.len (fun i hi hl => ?_) (fun a w h => hQ _ _ a w h (by rw [← hlen]; exact hq)) ops.size _ a K (by simp) (by simp [List.countP_replicate]) hinv
  rcases hst0.dd i hl with h | ⟨_, h, _⟩
  · exact h
  · omega

theorem frz_getD (id : Nat) (cells : List V) (S : List V) (t : Nat) : (S.map (frzV id cells)).getD t .dead = frzV id cells (S.getD t .dead) := by
  simp only [List.getD_eq_getElem?_getD, List.getElem?_map]
  cases S[t]? <;> simp [frzV]

theorem addr_off (b o : Nat) : (⟨b, 0, none⟩ : Addr).add o = ⟨b, o, none⟩ := by unfold Addr.add; split <;> simp_all

theorem frz_rep {K K' : Cx} {H : Heap} {id b : Nat} {cells : List V} (hp : Pres K K') (hw : K'.w = K.w) (hb : K.β id = some b) (hok : BlkOK K' b cells) (hro : RoOK K' b) (v : V) (c : Value) (hr : Rep K v c) : Rep K' (frzV id cells v) c := by
  unfold frzV
  split
  · rename_i i off
    split
    · subst_vars
      simp only [Rep] at hr ⊢; obtain ⟨b2, hb2, hc⟩ := hr
      rw [hb] at hb2; cases hb2
      refine ⟨⟨b, off, none⟩, hc, .inr hro, ?_⟩
      rw [← addr_off]
      exact (RepC.of_blk hok).drop off
    · exact Rep.pres hp _ c hr
  · rename_i i off n sz
    split
    · subst_vars
      split
      · rename_i hle
        simp only [Rep] at hr ⊢; obtain ⟨b2, o, cap, hb2, hc, hn, ho, _⟩ := hr
        rw [hb] at hb2; cases hb2
        refine ⟨⟨b, o, none⟩, cap, hc, hn, .inr hro, ?_⟩
        by_cases hn0 : n = 0
        · subst hn0; simp [RepC]
        · have : o = off := by
            rcases ho with ho | ho
            · omega
            · exact ho
          subst this
          rw [← addr_off]
          exact ((RepC.of_blk hok).drop o).take (n * sz)
      · simp [Rep]
    · exact Rep.pres hp _ c hr
  · exact Rep.pres hp _ c hr

theorem kap_set {H : Heap} {id i : Nat} : kap (H.set id none) i ↔ i ≠ id ∧ kap H i := by
  unfold kap LiveId
  by_cases h : id = i
  · subst h
    rw [List.getElem?_set_self']
    constructor
    · rintro ⟨c, hc⟩
      cases hH : H[id]? <;> simp [hH] at hc
    · rintro ⟨h, _⟩; exact absurd rfl h
  · rw [List.getElem?_set_ne h]
    exact ⟨fun h' => ⟨fun e => h e.symm, h'⟩, fun h' => h'.2⟩

theorem keepS_len {H : Heap} {sel : List Nat} : ∀ {S S' : List V}, KeepS H sel S S' → S.length = S'.length
  | [], [], _ => rfl
  | v :: vs, a :: us, h => by simp only [KeepS] at h; simp [keepS_len h.2]
  | [], a :: us, h => by simp [KeepS] at h
  | v :: vs, [], h => by simp [KeepS] at h

theorem keepS_get {H : Heap} {sel : List Nat} : ∀ {S S' : List V}, KeepS H sel S S' → ∀ t, S'.getD t .dead = .dead ∨ ArgRel H sel [] (S.getD t .dead) (S'.getD t .dead)
  | [], [], _, t => .inl (by simp)
  | v :: vs, a :: us, h, t => by
    simp only [KeepS] at h
    cases t with
    | zero => exact h.1
    | succ t => simpa using keepS_get h.2 t
  | [], a :: us, h, _ => by simp [KeepS] at h
  | v :: vs, [], h, _ => by simp [KeepS] at h

theorem keepH_len {H : Heap} {sel : List Nat} : ∀ {l : List Nat} {H' : Heap}, KeepH H sel l H' → l.length = H'.length
  | [], [], _ => rfl
  | id :: ids, none :: H', h => by simp only [KeepH] at h; simp [keepH_len h]
  | id :: ids, some c :: H', h => by simp only [KeepH] at h; simp [keepH_len h.2]
  | [], a :: us, h => by simp [KeepH] at h
  | v :: vs, [], h => by simp [KeepH] at h

theorem keepH_get {H : Heap} {sel : List Nat} : ∀ {l : List Nat} {H' : Heap}, KeepH H sel l H' → ∀ (k : Nat) (cells' : List V), H'[k]? = some (some cells') → ∃ id cells, l[k]? = some id ∧ blkAt H id = some cells ∧ ArgRelL H sel [] cells cells'
  | [], [], _, k, c, hk => by simp at hk
  | id :: ids, none :: H', h, k, c, hk => by
    simp only [KeepH] at h
    cases k with
    | zero => simp at hk
    | succ k => simpa using keepH_get h k c (by simpa using hk)
  | id :: ids, some cs :: H', h, k, c, hk => by
    simp only [KeepH] at h
    cases k with
    | zero => simp at hk; subst hk; obtain ⟨cells, h1, h2⟩ := h.1; exact ⟨id, cells, rfl, h1, h2⟩
    | succ k => simpa using keepH_get h.2 k c (by simpa using hk)
  | [], a :: us, h, _, _, _ => by simp [KeepH] at h
  | v :: vs, [], h, _, _, _ => by simp [KeepH] at h

theorem weak_sim {B0 : Cx} {Hb : Heap} (hdef : ∀ i, kap Hb i → ∃ b, B0.β i = some b) (hdom : ∀ i b, B0.β i = some b → i < Hb.length) {a : Act} {w : World} {σ σ' : St} (hk : Weak Hb.length σ σ') (hs : Sim B0 Hb σ.S σ.H a w) : Sim B0 Hb σ'.S σ'.H a w := by
  induction hk with
  | refl => exact hs
  | trans _ _ h1 h2 => exact h2 (h1 hs)
  | frz σ id cells h =>
    obtain ⟨K, rfl, hK, hdom, hst, hlen, hsl, hdf⟩ := hs
    have hlive : kap σ.H id := ⟨cells, blkAt_iff.1 h⟩
    obtain ⟨b, cells', hb, hH, hok⟩ := hK.blk id hlive
    rw [blkAt_iff, hH] at h; cases h
    have hown := hK.own id b hlive hb
    let K' : Cx := { K with N := fun x => K.N x ∧ x ≠ b }
    have hp : Pres K K' := ⟨fun _ _ h => h, fun x hx _ => ⟨⟨fun hn => hx.1 hn.1, hx.2⟩, rfl⟩, fun b C e fz h => ⟨C, fz, h, rfl⟩⟩
    have hro : RoOK K' b := ⟨fun hn => hn.2 rfl, hown.2⟩
    refine ⟨K', rfl, ⟨fun i j x hi hj => hK.inj i j x (kap_set.1 hi).2 (kap_set.1 hj).2, fun i hi => ?_, fun i x hi hx => ?_, hK.low⟩, fun i x hx => by simpa using hdom i x hx,
      ⟨hst.B, hst.R, hst.os, hst.tape, hst.output, hst.size, by simpa using hst.len, hst.ext, fun i x hx => by simpa using hst.new i x hx, fun x hx => hst.nn x hx.1, fun x hx hlt hno => ⟨hst.nk x hx hlt hno, ?_⟩, fun i hi => by simpa using hst.dd i (kap_set.1 hi).2, hst.frame, hst.shape⟩,
      by simpa using hlen, fun t => ?_, hdf⟩
    · obtain ⟨hne, hi'⟩ := kap_set.1 hi
      obtain ⟨x, cs, hx, hHi, hokx⟩ := hK.blk i hi'
      exact ⟨x, cs, hx, by rw [List.getElem?_set_ne (Ne.symm hne)]; exact hHi, hokx.pres hp rfl⟩
    · obtain ⟨hne, hi'⟩ := kap_set.1 hi
      have := hK.own i x hi' hx
      exact ⟨⟨this.1, fun e => hne (hK.inj i id x hi' hlive hx (by rw [e]; exact hb))⟩, this.2⟩
    · rintro rfl
      rcases hst.own hdef x ⟨id, hlive, hb⟩ with h1 | h1
      · exact hno h1
      · omega
    · rw [frz_getD]
      exact frz_rep (H := σ.H) hp rfl hb (hok.pres hp rfl) hro _ _ (hsl t)

  | ren σ S' H' sel hnd hlo hS hH =>
    obtain ⟨K', rfl, hK', hdomk, hst, hlen, hsl, hdf⟩ := hs
    have hcells := keepH_get hH
    have hsl1 := keepH_len hH
    have hn : Hb.length ≤ H'.length := by
      rw [← hsl1]
      by_cases h0 : Hb.length = 0
      · omega
      · have := (List.getElem?_eq_some_iff.1 (hlo (Hb.length - 1) (by omega))).1
        omega
    let K2 : Cx := { K' with β := fun k => (sel[k]?).bind K'.β }
    have hβ : ∀ k id, sel[k]? = some id → K2.β k = K'.β id := fun k id hk => by show (sel[k]?).bind K'.β = _; rw [hk]; rfl
    have hβ' : ∀ k b, K2.β k = some b → ∃ id, sel[k]? = some id ∧ K'.β id = some b := fun k b hb => by
      have hb' : (sel[k]?).bind K'.β = some b := hb
      simpa [Option.bind_eq_some_iff] using hb'
    have hcx : CallCx K' K2 σ.H (kap σ.H) sel [] := ⟨rfl, hβ, fun b h => h, fun id b _ h => by cases h⟩
    have hselinj : ∀ i j x, sel[i]? = some x → sel[j]? = some x → i = j := fun i j x hi hj => by
      obtain ⟨hi1, hi2⟩ := List.getElem?_eq_some_iff.1 hi
      obtain ⟨hj1, hj2⟩ := List.getElem?_eq_some_iff.1 hj
      exact (List.getElem_inj hnd).1 (hi2.trans hj2.symm)
    have hout : ∀ k, kap H' k → ∃ id cells, sel[k]? = some id ∧ σ.H[id]? = some (some cells) ∧ K2.β k = K'.β id := fun k ⟨cs, hcs⟩ => by
      obtain ⟨id, cells, h1, h2, _⟩ := hcells k cs hcs
      exact ⟨id, cells, h1, blkAt_iff.1 h2, hβ k id h1⟩
    refine ⟨K2, rfl, ⟨?_, ?_, ?_, hK'.low⟩, ?_, ?_, by rw [← keepS_len hS]; exact hlen, fun t => ?_, hdf⟩
    · intro i j b hi hj hbi hbj
      obtain ⟨x, cx, hx, hHx, hbx⟩ := hout i hi
      obtain ⟨y, cy, hy, hHy, hby⟩ := hout j hj
      rw [hbx] at hbi; rw [hby] at hbj
      have := hK'.inj x y b ⟨cx, hHx⟩ ⟨cy, hHy⟩ hbi hbj
      subst this
      exact hselinj i j x hx hy
    · rintro k ⟨cs, hcs⟩
      obtain ⟨id, cells, h1, h2, h3⟩ := hcells k cs hcs
      rw [blkAt_iff] at h2
      obtain ⟨b, cells2, hb, hH2, C, e, lo, up, hC, hcl, hfz, h1c, hcc⟩ := hK'.blk id ⟨cells, h2⟩
      rw [h2] at hH2; cases hH2
      refine ⟨b, cs, by rw [hβ k id h1]; exact hb, hcs, C, e, lo, up, hC, by rw [argL_len h3]; exact hcl, hfz, h1c, fun i u hu => ?_⟩
      obtain ⟨u0, hu0, hrel0⟩ := argL_get h3 i u hu
      obtain ⟨c, hc1, hr⟩ := hcc i u0 hu0
      exact ⟨c, hc1, arg_rep hK' hcx (fun i hi => by cases hi) u0 u c hrel0 hr⟩
    · intro k b hk hb
      obtain ⟨id, cells, h1, h2, h3⟩ := hout k hk
      rw [h3] at hb
      exact hK'.own id b ⟨cells, h2⟩ hb
    · intro k b hb
      obtain ⟨id, h1, _⟩ := hβ' k b hb
      have := (List.getElem?_eq_some_iff.1 h1).1
      show k < H'.length
      omega
    · refine ⟨hst.B, hst.R, hst.os, hst.tape, hst.output, hst.size, hn, fun i b hb => ?_, fun k b hb => ?_, hst.nn, hst.nk, fun k hk => ?_, hst.frame, hst.shape⟩
      · rw [hβ i i (hlo i (hdom i b hb))]; exact hst.ext i b hb
      · obtain ⟨id, h1, h2⟩ := hβ' k b hb
        have hkl := (List.getElem?_eq_some_iff.1 h1).1
        by_cases hkn : k < Hb.length
        · have := hlo k hkn
          rw [h1] at this; cases this
          rcases hst.new k b h2 with h3 | ⟨_, h3, _⟩
          · exact .inl h3
          · omega
        · have hKk : B0.β k = none := by
            cases hkb : B0.β k with
            | none => rfl
            | some x => exact absurd (hdom k x hkb) hkn
          refine .inr ⟨hKk, by omega, by show k < H'.length; omega, ?_⟩
          rcases hst.new id b h2 with h3 | ⟨_, _, _, h3⟩
          · exfalso
            have := hdom id b h3
            have := hselinj id k id (hlo id this) h1
            omega
          · exact h3
      · by_cases hkn : k < Hb.length
        · left
          obtain ⟨cs, hcs⟩ := hk
          obtain ⟨id, cells, h1, h2, _⟩ := hcells k cs hcs
          rw [hlo k hkn] at h1; cases h1
          rcases hst.dd k ⟨cells, blkAt_iff.1 h2⟩ with h | ⟨_, h, _⟩
          · exact h
          · omega
        · refine .inr ⟨?_, by omega, hk.lt⟩
          cases hkb : B0.β k with
          | none => rfl
          | some x => exact absurd (hdom k x hkb) hkn
    · rcases keepS_get hS t with h | h
      · show Rep K2 (S'.getD t .dead) _
        rw [h]; simp [Rep]
      · exact arg_rep hK' hcx (fun i hi => by cases hi) _ _ _ h (hsl t)

def toExit : AExit → Exit
  | .normal => .normal
  | .exit id => .exit id
  | .ret => .ret

theorem code_sound {P : Program} (hm : P.follows .mixedOrders = true) {B0 : Cx} {Hb : Heap} (hdef : ∀ i, kap Hb i → ∃ b, B0.β i = some b) (hdom : ∀ i b, B0.β i = some b → i < Hb.length) :
    ∀ (c : Code) (A : ACode), cCode P c = some A → ∀ (Qa : AExit → St → Prop) (Q : Exit → Act → World → Prop), (∀ e σ a w, Sim B0 Hb σ.S σ.H a w → Qa e σ → Q (toExit e) a w) →
      ∀ σ a w, Sim B0 Hb σ.S σ.H a w → wpA P Hb.length A Qa σ → c.wp P Q a w
  | .skip, A, hc, Qa, Q, hQ, σ, a, w, hs, hw => by
    simp only [cCode] at hc; cases hc
    exact wp_skip (hQ .normal σ a w hs hw)
  | .region id ops draw, A, hc, Qa, Q, hQ, σ, a, w, hs, hw => by
    cases draw with
    | false =>
      simp only [cCode, Option.map_eq_some_iff] at hc
      obtain ⟨aos, hc, rfl⟩ := hc
      obtain ⟨σ', hk, hr⟩ := hw
      have hs' := weak_sim hdef hdom hk hs
      refine wp_region ?_
      rw [List.range_eq_range', ← Array.length_toList]
      exact seq_sound hdef (fun S H FW a w hs hq => hQ .normal ⟨S, H⟩ a w hs hq.2) ops.toList aos 0 hc (fun j hj => by simp) _ _ _ a w hs' hr
    | true =>
      simp only [cCode] at hc
      split at hc
      · rename_i hd
        simp only [Option.map_eq_some_iff] at hc
        obtain ⟨aos, hc, rfl⟩ := hc
        obtain ⟨σ', hk, hr⟩ := hw
        have hs' := weak_sim hdef hdom hk hs
        exact draw_sound hm hc hd hdef hdom (Q := fun S H => Qa .normal ⟨S, H⟩) (fun S H a w hs hq => hQ .normal ⟨S, H⟩ a w hs hq) hs' hr
      · cases hc
  | .seq x y, A, hc, Qa, Q, hQ, σ, a, w, hs, hw => by
    simp only [cCode, Option.bind_eq_bind, Option.bind_eq_some_iff, Option.pure_def, Option.some.injEq] at hc
    obtain ⟨A1, h1, A2, h2, rfl⟩ := hc
    refine wp_seq (code_sound hm hdef hdom x A1 h1 _ _ ?_ σ a w hs hw)
    intro e σ' a' w' hs' hq
    cases e with
    | normal => exact code_sound hm hdef hdom y A2 h2 Qa Q hQ σ' a' w' hs' hq
    | exit i => exact hQ (.exit i) σ' a' w' hs' hq
    | ret => exact hQ .ret σ' a' w' hs' hq
  | .cond c x y, A, hc, Qa, Q, hQ, σ, a, w, hs, hw => by
    simp only [cCode, Option.bind_eq_bind, Option.bind_eq_some_iff, Option.pure_def, Option.some.injEq] at hc
    obtain ⟨d, h0, A1, h1, A2, h2, rfl⟩ := hc
    obtain ⟨t, ht, hyes, hno⟩ := hw
    have hev : a.eval c = .bool t := by
      obtain ⟨K, _, _, _, _, _, hsl, _⟩ := hs
      have := od_rep h0 (show OnOd K σ.S a c from fun t _ => hsl t)
      rw [ht] at this
      exact rep_bool this
    exact wp_cond_split hev (fun h => code_sound hm hdef hdom x A1 h1 Qa Q hQ σ a w hs (hyes h)) (fun h => code_sound hm hdef hdom y A2 h2 Qa Q hQ σ a w hs (hno h))
  | .block id x, A, hc, Qa, Q, hQ, σ, a, w, hs, hw => by
    simp only [cCode, Option.map_eq_some_iff] at hc
    obtain ⟨A1, h1, rfl⟩ := hc
    refine wp_block (code_sound hm hdef hdom x A1 h1 _ _ ?_ σ a w hs hw)
    intro e σ' a' w' hs' hq
    cases e with
    | normal => exact hQ .normal σ' a' w' hs' hq
    | exit i =>
      by_cases hi : i = id
      · simp only [hi, if_true] at hq
        simpa [toExit, Exit.inBlock, hi] using hQ .normal σ' a' w' hs' hq
      · simp only [hi, if_false] at hq
        simpa [toExit, Exit.inBlock, hi] using hQ (.exit i) σ' a' w' hs' hq
    | ret => exact hQ .ret σ' a' w' hs' hq
  | .loop x, A, hc, Qa, Q, hQ, σ, a, w, hs, hw => by
    simp only [cCode, Option.map_eq_some_iff] at hc
    obtain ⟨A1, h1, rfl⟩ := hc
    obtain ⟨I, m, σ1, hk, h0, hround⟩ := hw
    refine wp_loop_ghost (fun n a w => ∃ σ, Sim B0 Hb σ.S σ.H a w ∧ I n σ) m ⟨σ1, weak_sim hdef hdom hk hs, h0⟩ ?_
    rintro n a w ⟨σ, hs, hI⟩
    refine code_sound hm hdef hdom x A1 h1 _ _ ?_ σ a w hs (hround n σ hI)
    intro e σ' a' w' hs' hq
    cases e with
    | normal =>
      obtain ⟨n', σ2, hn, hk', hI'⟩ := hq
      exact ⟨n', hn, σ2, weak_sim hdef hdom hk' hs', hI'⟩
    | exit i => exact hQ (.exit i) σ' a' w' hs' hq
    | ret => exact hQ .ret σ' a' w' hs' hq
  | .exit id, A, hc, Qa, Q, hQ, σ, a, w, hs, hw => by
    simp only [cCode] at hc; cases hc
    exact wp_exit (hQ (.exit id) σ a w hs hw)
  | .ret, A, hc, Qa, Q, hQ, σ, a, w, hs, hw => by
    simp only [cCode] at hc; cases hc
    exact wp_ret (hQ .ret σ a w hs hw)
  | .rangeFunc .., A, hc, _, _, _, _, _, _, _, _ => by simp [cCode] at hc
  | .scope .., A, hc, _, _, _, _, _, _, _, _ => by simp [cCode] at hc
  | .label .., A, hc, _, _, _, _, _, _, _, _ => by simp [cCode] at hc
  | .goto .., A, hc, _, _, _, _, _, _, _, _ => by simp [cCode] at hc
  | .refuse .., A, hc, _, _, _, _, _, _, _, _ => by simp [cCode] at hc

/-! ## Functions -/

def resOf (tmps : Array Value) : ResultVar → Sem Value
  | .tmp t => pure (tmps.getD t undef)
  | .cell x t => do loadVar t (← asAddr (tmps.getD x undef))

theorem results_eq (fn : Func) (tmps : Array Value) : results fn tmps = (do
    let vs ← fn.results.mapM (resOf tmps)
    pure (if h : vs.size = 1 then vs[0] else .tuple vs)) := by
  unfold results
  congr 1

theorem resV_sound {P : Program} {K : Cx} {S : List V} {H : Heap} (hK : HeapOK K H (kap H)) {a : Act} (hsl : ∀ t, Rep K (S.getD t .dead) (a.tmps.getD t undef)) {rs : List ResultVar} {ars : List ARes} {vs : List V} :
    cRes P rs = some ars → resL S H ars = some vs → ∃ cs, (rs.mapM (resOf a.tmps)).run P K.w = Result.ok cs K.w ∧ RepL K vs cs := by
  induction rs generalizing ars vs with
  | nil =>
    intro hc hv
    simp only [cRes] at hc; cases hc
    simp only [resL] at hv; cases hv
    exact ⟨[], by simp, by simp [RepL]⟩
  | cons r rs ih =>
    intro hc hv
    cases r with
    | tmp t =>
      simp only [cRes, Option.bind_eq_bind, Option.bind_eq_some_iff, Option.pure_def, Option.some.injEq] at hc
      obtain ⟨ars', h1, rfl⟩ := hc
      simp only [resL, resV] at hv
      split at hv
      · rename_i v vs' hv1 hv2
        cases hv1; cases hv
        obtain ⟨cs, hrun, hrep⟩ := ih h1 hv2
        exact ⟨a.tmps.getD t undef :: cs, by simp [List.mapM_cons, resOf, hrun], by simp only [RepL]; exact ⟨_, _, rfl, hsl t, hrep⟩⟩
      · cases hv
    | cell x ty =>
      simp only [cRes, Option.bind_eq_bind, Option.bind_eq_some_iff, Option.pure_def, Option.some.injEq] at hc
      obtain ⟨k, hk, ars', h1, rfl⟩ := hc
      simp only [resL] at hv
      split at hv
      · rename_i v vs' hv1 hv2
        cases hv
        obtain ⟨cs, hrun, hrep⟩ := ih h1 hv2
        simp only [resV] at hv1
        split at hv1
        · rename_i id off hS
          split at hv1
          · rename_i cells hblk
            have hx := hsl x
            rw [hS] at hx
            simp only [Rep] at hx
            obtain ⟨b, hb, hcx⟩ := hx
            rw [blkAt_iff] at hblk
            obtain ⟨b2, cells2, hb2, hH2, hok⟩ := hK.blk id ⟨cells, hblk⟩
            rw [hb] at hb2; cases hb2
            rw [hblk] at hH2; cases hH2
            obtain ⟨c, hload, hc⟩ := rd_sound hk hv1 (RepC.of_blk hok)
            rw [addr_off] at hload
            refine ⟨c :: cs, ?_, by simp only [RepL]; exact ⟨_, _, rfl, hc, hrep⟩⟩
            simp [List.mapM_cons, resOf, hcx, asAddr, hload, hrun]
          · cases hv1
        · cases hv1
      · cases hv

theorem resAll_sound {P : Program} {K : Cx} {S : List V} {H : Heap} (hK : HeapOK K H (kap H)) {a : Act} (hsl : ∀ t, Rep K (S.getD t .dead) (a.tmps.getD t undef)) {fn : Func} {ars : List ARes} {v : V}
    (hc : cRes P fn.results.toList = some ars) (hv : resAll S H ars = some v) : ∃ c, (results fn a.tmps).run P K.w = Result.ok c K.w ∧ Rep K v c := by
  unfold resAll at hv
  have key : ∀ vs, resL S H ars = some vs → ∃ cs : List Value, (results fn a.tmps).run P K.w = Result.ok (if h : cs.toArray.size = 1 then cs.toArray[0] else .tuple cs.toArray) K.w ∧ RepL K vs cs := by
    intro vs hvs
    obtain ⟨cs, hrun, hrep⟩ := resV_sound hK hsl hc hvs
    refine ⟨cs, ?_, hrep⟩
    rw [results_eq, Array.mapM_eq_mapM_toList]
    simp [hrun]
  split at hv
  · rename_i u hr
    cases hv
    obtain ⟨cs, hrun, hrep⟩ := key _ hr
    simp only [RepL] at hrep
    obtain ⟨c, l', rfl, h1, rfl⟩ := hrep
    exact ⟨c, by simpa using hrun, h1⟩
  · rename_i vs hne hr
    cases hv
    obtain ⟨cs, hrun, hrep⟩ := key _ hr
    have hl := hrep.length
    have h1 : ¬ cs.toArray.size = 1 := by
      intro h
      have h1 : vs.length = 1 := by rw [← hl]; simpa using h
      match vs, h1 with
      | [u], _ => exact hne u rfl
    rw [dif_neg h1] at hrun
    exact ⟨_, hrun, by simp only [Rep]; exact ⟨cs, rfl, hrep⟩⟩
  · cases hv

theorem C_of_body {P : Program} (hm : P.follows .mixedOrders = true) {f : Nat} {fn : Func} {c : Code} {A : ACode} {ars : List ARes} (hf : P.funcs[f]? = some fn) (hb : fn.body = some c) (hA : cCode P c = some A)
    (hR : cRes P fn.results.toList = some ars) {args : List V} {Hin : List (List V)} {r : V} {Hout : Heap}
    (h : wpA P Hin.length A (fun e σ => (e = .normal ∨ e = .ret) ∧ ∃ v, resAll σ.S σ.H ars = some v ∧ OutOK Hin.length σ.H v r Hout) ⟨args ++ List.replicate (fn.ntmps - args.length) .dead, Hin.map some⟩) : C P f args Hin r Hout := by
  intro K vs hB hK hdom hargs
  refine calls_of_wp hf hb ?_
  have hlv := hargs.length
  have hdom' : ∀ i b, K.β i = some b → i < (Hin.map some).length := fun i b hb => by simpa using hdom i b hb
  have hsim : Sim K (Hin.map some) (args ++ List.replicate (fn.ntmps - args.length) .dead) (Hin.map some) { tmps := vs.toArray ++ Array.replicate (fn.ntmps - vs.toArray.size) undef, defers := [] } K.w := by
    refine ⟨K, rfl, hK, hdom', Step.refl _ _ _, by simp [hlv], fun t => ?_, rfl⟩
    by_cases ht : t < args.length
    · obtain ⟨c, hc, hr⟩ := hargs.get t args[t] (List.getElem?_eq_getElem ht)
      rw [List.getD_eq_getElem?_getD, List.getElem?_append_left ht, List.getElem?_eq_getElem ht]
      rw [Array.getD_eq_getD_getElem?, Array.getElem?_append_left (by simpa [hlv] using ht)]
      simpa [hc] using hr
    · have : (args ++ List.replicate (fn.ntmps - args.length) V.dead).getD t .dead = .dead := by
        rw [List.getD_eq_getElem?_getD, List.getElem?_append_right (by omega), List.getElem?_replicate]
        split <;> rfl
      rw [this]; simp [Rep]
  refine code_sound hm hK.def hdom' c A hA (fun e σ => (e = .normal ∨ e = .ret) ∧ ∃ v, resAll σ.S σ.H ars = some v ∧ OutOK Hin.length σ.H v r Hout) _ ?_ _ _ _ hsim (by rw [List.length_map]; exact h)
  rintro e σ a w ⟨K', rfl, hK', hdomk, hst, hlen, hsl, hdf⟩ ⟨he, v, hv, sel, hnd, hsl1, hn, hold, harg, hcells⟩
  obtain ⟨c, hrun, hrep⟩ := resAll_sound hK' hsl hR hv
  suffices hfin : ∃ c' K'', Ending.returned c = .returned c' ∧ K''.w = K'.w ∧ HeapOK K'' Hout (kap Hout) ∧ (∀ i b, K''.β i = some b → i < Hout.length) ∧
      Step K (Hin.map some) (kap (Hin.map some)) K'' Hout (kap Hout) ∧ Rep K'' r c' by
    rcases he with rfl | rfl
    · exact ⟨hdf, c, hrun, hfin⟩
    · exact ⟨hdf, c, hrun, hfin⟩
  let K2 : Cx := { K' with β := fun k => (sel[k]?).bind K'.β }
  have hβ : ∀ k id, sel[k]? = some id → K2.β k = K'.β id := fun k id hk => by show (sel[k]?).bind K'.β = _; rw [hk]; rfl
  have hβ' : ∀ k b, K2.β k = some b → ∃ id, sel[k]? = some id ∧ K'.β id = some b := fun k b hb => by
    have hb' : (sel[k]?).bind K'.β = some b := hb
    simpa [Option.bind_eq_some_iff] using hb'
  have hcx : CallCx K' K2 σ.H (kap σ.H) sel [] := ⟨rfl, hβ, fun b h => h, fun id b _ h => by cases h⟩
  have hselinj : ∀ i j x, sel[i]? = some x → sel[j]? = some x → i = j := fun i j x hi hj => by
    obtain ⟨hi1, hi2⟩ := List.getElem?_eq_some_iff.1 hi
    obtain ⟨hj1, hj2⟩ := List.getElem?_eq_some_iff.1 hj
    exact (List.getElem_inj hnd).1 (hi2.trans hj2.symm)
  have hout : ∀ k, kap Hout k → ∃ id cells, sel[k]? = some id ∧ σ.H[id]? = some (some cells) ∧ K2.β k = K'.β id := fun k ⟨cs, hcs⟩ => by
    obtain ⟨id, cells, h1, h2, _⟩ := hcells k cs hcs
    exact ⟨id, cells, h1, blkAt_iff.1 h2, hβ k id h1⟩
  refine ⟨c, K2, rfl, rfl, ⟨?_, ?_, ?_, hK'.low⟩, ?_, ?_, arg_rep hK' hcx (fun i hi => by cases hi) v r c harg hrep⟩
  · intro i j b hi hj hbi hbj
    obtain ⟨x, cx, hx, hHx, hbx⟩ := hout i hi
    obtain ⟨y, cy, hy, hHy, hby⟩ := hout j hj
    rw [hbx] at hbi; rw [hby] at hbj
    have := hK'.inj x y b ⟨cx, hHx⟩ ⟨cy, hHy⟩ hbi hbj
    subst this
    exact hselinj i j x hx hy
  · rintro k ⟨cs, hcs⟩
    obtain ⟨id, cells, h1, h2, h3⟩ := hcells k cs hcs
    rw [blkAt_iff] at h2
    obtain ⟨b, cells2, hb, hH2, C, e, lo, up, hC, hcl, hfz, h1c, hcc⟩ := hK'.blk id ⟨cells, h2⟩
    rw [h2] at hH2; cases hH2
    refine ⟨b, cs, by rw [hβ k id h1]; exact hb, hcs, C, e, lo, up, hC, by rw [argL_len h3]; exact hcl, hfz, h1c, fun i u hu => ?_⟩
    obtain ⟨u0, hu0, hrel0⟩ := argL_get h3 i u hu
    obtain ⟨c, hc1, hr⟩ := hcc i u0 hu0
    exact ⟨c, hc1, arg_rep hK' hcx (fun i hi => by cases hi) u0 u c hrel0 hr⟩
  · intro k b hk hb
    obtain ⟨id, cells, h1, h2, h3⟩ := hout k hk
    rw [h3] at hb
    exact hK'.own id b ⟨cells, h2⟩ hb
  · intro k b hb
    obtain ⟨id, h1, _⟩ := hβ' k b hb
    have := (List.getElem?_eq_some_iff.1 h1).1
    omega
  · refine ⟨hst.B, hst.R, hst.os, hst.tape, hst.output, hst.size, by simpa using hn, fun i b hb => ?_, fun k b hb => ?_, hst.nn, hst.nk, fun k hk => ?_, hst.frame, hst.shape⟩
    · rw [hβ i i (hold i (hdom i b hb))]; exact hst.ext i b hb
    · obtain ⟨id, h1, h2⟩ := hβ' k b hb
      have hkl := (List.getElem?_eq_some_iff.1 h1).1
      by_cases hkn : k < Hin.length
      · have := hold k hkn
        rw [h1] at this; cases this
        rcases hst.new k b h2 with h3 | ⟨_, h3, _⟩
        · exact .inl h3
        · simp at h3; omega
      · have hKk : K.β k = none := by
          cases hkb : K.β k with
          | none => rfl
          | some x => exact absurd (hdom k x hkb) hkn
        refine .inr ⟨hKk, by simpa using hkn, by omega, ?_⟩
        rcases hst.new id b h2 with h3 | ⟨_, _, _, h3⟩
        · exfalso
          have := hdom id b h3
          have := hselinj id k id (hold id this) h1
          omega
        · exact h3
    · by_cases hkn : k < Hin.length
      · exact .inl ⟨Hin[k], by simp [List.getElem?_eq_getElem hkn]⟩
      · refine .inr ⟨?_, by simpa using hkn, hk.lt⟩
        cases hkb : K.β k with
        | none => rfl
        | some x => exact absurd (hdom k x hkb) hkn

end Go.Proofs.Ytlahigboaeadmaa.VA
