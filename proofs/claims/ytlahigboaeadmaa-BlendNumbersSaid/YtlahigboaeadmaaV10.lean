/- The soundness of calls in 'VA'. -/
import Derived.Test.YtlahigboaeadmaaV9
set_option linter.unusedVariables false
set_option linter.unusedSimpArgs false
namespace Go.Proofs.Ytlahigboaeadmaa.VA
open Go

/-! ## The caller's memory behind a call -/

theorem putBack_len (ρ : Nat → Nat) : ∀ (ids : List Nat) (H : Heap) (out : Heap), (putBack H ρ ids out).length = H.length + (out.length - ids.length)
  | [], H, out => by simp [putBack]
  | id :: ids, H, [] => by simp only [putBack]; rw [putBack_len ρ ids]; simp
  | id :: ids, H, o :: out => by simp only [putBack]; rw [putBack_len ρ ids]; simp

theorem putBack_old (ρ : Nat → Nat) : ∀ (ids : List Nat) (H : Heap) (out : Heap) (i : Nat), i ∉ ids → i < H.length → (putBack H ρ ids out)[i]? = H[i]?
  | [], H, out, i, _, hlt => by simp only [putBack]; rw [List.getElem?_append_left hlt]
  | id :: ids, H, [], i, hi, hlt => by
    simp only [List.mem_cons, not_or] at hi
    simp only [putBack]
    rw [putBack_old ρ ids _ _ i hi.2 (by simpa using hlt), List.getElem?_set_ne (Ne.symm hi.1)]
  | id :: ids, H, o :: out, i, hi, hlt => by
    simp only [List.mem_cons, not_or] at hi
    simp only [putBack]
    rw [putBack_old ρ ids _ _ i hi.2 (by simpa using hlt), List.getElem?_set_ne (Ne.symm hi.1)]

theorem putBack_ids (ρ : Nat → Nat) : ∀ (ids : List Nat) (H : Heap) (out : Heap) (k i : Nat), ids.Nodup → ids[k]? = some i → i < H.length → (putBack H ρ ids out)[i]? = some ((out.getD k none).map (renL ρ))
  | [], H, out, k, i, _, hk, _ => by simp at hk
  | id :: ids, H, [], k, i, hn, hk, hlt => by
    simp only [List.nodup_cons] at hn
    simp only [putBack]
    cases k with
    | zero =>
      simp at hk; subst hk
      rw [putBack_old ρ ids _ _ id hn.1 (by simpa using hlt), List.getElem?_set_self hlt]
      simp
    | succ k =>
      have := putBack_ids ρ ids (H.set id none) [] k i hn.2 (by simpa using hk) (by simpa using hlt)
      simpa using this
  | id :: ids, H, o :: out, k, i, hn, hk, hlt => by
    simp only [List.nodup_cons] at hn
    simp only [putBack]
    cases k with
    | zero =>
      simp at hk; subst hk
      rw [putBack_old ρ ids _ _ id hn.1 (by simpa using hlt), List.getElem?_set_self hlt]
      simp
    | succ k =>
      have := putBack_ids ρ ids (H.set id (o.map (renL ρ))) out k i hn.2 (by simpa using hk) (by simpa using hlt)
      simpa using this

theorem putBack_new (ρ : Nat → Nat) : ∀ (ids : List Nat) (H : Heap) (out : Heap) (j : Nat), (putBack H ρ ids out)[H.length + j]? = (out[ids.length + j]?).map (Option.map (renL ρ))
  | [], H, out, j => by
    simp only [putBack]
    rw [List.getElem?_append_right (by omega)]
    simp
  | id :: ids, H, [], j => by
    simp only [putBack]
    have := putBack_new ρ ids (H.set id none) [] j
    simpa using this
  | id :: ids, H, o :: out, j => by
    simp only [putBack]
    have := putBack_new ρ ids (H.set id (o.map (renL ρ))) out j
    simp only [List.length_set] at this
    rw [this]
    rw [show (id :: ids).length + j = (ids.length + j) + 1 by simp; omega]
    simp

/-! ## Other numbers -/

mutual
theorem ren_rep {K1 K2 : Cx} {ρ : Nat → Nat} (hβ : ∀ k b, K1.β k = some b → K2.β (ρ k) = some b) (hw : K2.w = K1.w) : ∀ (v : V) (c : Value), ((∀ b, RoOK K1 b → RoOK K2 b) ∨ NoRO v) → Rep K1 v c → Rep K2 (renV ρ v) c
  | .sc v, c, _, hr => by simpa [Rep, renV] using hr
  | .agg cs, c, h, hr => by
    simp only [Rep, renV] at hr ⊢; obtain ⟨l, hc, hr⟩ := hr
    exact ⟨l, hc, renO_rep hβ hw cs l (h.imp id (by simp [NoRO])) hr⟩
  | .tup vs, c, h, hr => by
    simp only [Rep, renV] at hr ⊢; obtain ⟨l, hc, hr⟩ := hr
    exact ⟨l, hc, renL_rep hβ hw vs l (h.imp id (by simp [NoRO])) hr⟩
  | .sl n cs, c, h, hr => by
    simp only [Rep, renV] at hr ⊢; obtain ⟨a, cap, hc, hn, hro, hr⟩ := hr
    rcases h with h | h
    · refine ⟨a, cap, hc, hn, hro.imp (by rintro rfl; simp [renL]) (h _), renC_rep hβ hw cs a 0 (.inl h) hr⟩
    · simp only [NoRO] at h; subst h
      exact ⟨a, cap, hc, hn, .inl (by simp [renL]), by simp [renL, RepC]⟩
  | .box cs, c, h, hr => by
    simp only [Rep, renV] at hr ⊢; obtain ⟨a, hc, hro, hr⟩ := hr
    rcases h with h | h
    · refine ⟨a, hc, hro.imp (by rintro rfl; simp [renL]) (h _), renC_rep hβ hw cs a 0 (.inl h) hr⟩
    · simp only [NoRO] at h; subst h
      exact ⟨a, hc, .inl (by simp [renL]), by simp [renL, RepC]⟩
  | .ref id off, c, _, hr => by
    simp only [Rep, renV] at hr ⊢; obtain ⟨b, hb, hc⟩ := hr
    exact ⟨b, hβ _ _ hb, hc⟩
  | .sref id off n sz, c, _, hr => by
    simp only [Rep, renV] at hr ⊢; obtain ⟨b, o, cap, hb, hr⟩ := hr
    exact ⟨b, o, cap, hβ _ _ hb, by rw [hw]; exact hr⟩
  | .fn f caps, c, h, hr => by
    simp only [Rep, renV] at hr ⊢; obtain ⟨l, hc, hr⟩ := hr
    exact ⟨l, hc, renL_rep hβ hw caps l (h.imp id (by simp [NoRO])) hr⟩
  | .dead, _, _, _ => by simp [Rep, renV]
theorem renL_rep {K1 K2 : Cx} {ρ : Nat → Nat} (hβ : ∀ k b, K1.β k = some b → K2.β (ρ k) = some b) (hw : K2.w = K1.w) : ∀ (vs : List V) (l : List Value), ((∀ b, RoOK K1 b → RoOK K2 b) ∨ NoROL vs) → RepL K1 vs l → RepL K2 (renL ρ vs) l
  | [], l, _, hr => by simpa [RepL, renL] using hr
  | v :: vs, l, h, hr => by
    simp only [RepL, renL] at hr ⊢
    obtain ⟨c, l', hc, h1, h2⟩ := hr
    exact ⟨c, l', hc, ren_rep hβ hw v c (h.imp id fun h => by simp only [NoROL] at h; exact h.1) h1, renL_rep hβ hw vs l' (h.imp id fun h => by simp only [NoROL] at h; exact h.2) h2⟩
theorem renO_rep {K1 K2 : Cx} {ρ : Nat → Nat} (hβ : ∀ k b, K1.β k = some b → K2.β (ρ k) = some b) (hw : K2.w = K1.w) : ∀ (vs : List V) (l : List Value), ((∀ b, RoOK K1 b → RoOK K2 b) ∨ NoROL vs) → RepO K1 vs l → RepO K2 (renL ρ vs) l
  | [], l, _, hr => by simpa [RepO, renL] using hr
  | v :: vs, l, h, hr => by
    simp only [RepO, renL] at hr ⊢
    obtain ⟨c, l', hc, h0, h1, h2⟩ := hr
    exact ⟨c, l', hc, h0, ren_rep hβ hw v c (h.imp id fun h => by simp only [NoROL] at h; exact h.1) h1, renO_rep hβ hw vs l' (h.imp id fun h => by simp only [NoROL] at h; exact h.2) h2⟩
theorem renC_rep {K1 K2 : Cx} {ρ : Nat → Nat} (hβ : ∀ k b, K1.β k = some b → K2.β (ρ k) = some b) (hw : K2.w = K1.w) : ∀ (vs : List V) (a : Addr) (i : Nat), ((∀ b, RoOK K1 b → RoOK K2 b) ∨ NoROL vs) → RepC K1 vs a i → RepC K2 (renL ρ vs) a i
  | [], _, _, _, _ => by simp [RepC, renL]
  | v :: vs, a, i, h, hr => by
    simp only [RepC, renL] at hr ⊢
    obtain ⟨⟨c, hc, h0, h1⟩, h2⟩ := hr
    exact ⟨⟨c, by rw [hw]; exact hc, h0, ren_rep hβ hw v c (h.imp id fun h => by simp only [NoROL] at h; exact h.1) h1⟩, renC_rep hβ hw vs a (i + 1) (h.imp id fun h => by simp only [NoROL] at h; exact h.2) h2⟩
end

theorem renL_len (ρ : Nat → Nat) : ∀ (l : List V), (renL ρ l).length = l.length
  | [] => rfl
  | v :: l => by simp [renL, renL_len ρ l]

theorem renL_get (ρ : Nat → Nat) : ∀ (l : List V) (i : Nat), (renL ρ l)[i]? = (l[i]?).map (renV ρ)
  | [], i => by simp [renL]
  | v :: l, 0 => by simp [renL]
  | v :: l, i + 1 => by simp [renL, renL_get ρ l i]

theorem NoROL.get : ∀ {l : List V}, NoROL l → ∀ (i : Nat) (v : V), l[i]? = some v → NoRO v
  | [], _, i, v, hv => by simp at hv
  | u :: l, h, 0, v, hv => by simp at hv; subst hv; simp only [NoROL] at h; exact h.1
  | u :: l, h, i + 1, v, hv => by simp only [NoROL] at h; exact NoROL.get h.2 i v (by simpa using hv)

theorem blk_ren {K1 K2 : Cx} {ρ : Nat → Nat} (hβ : ∀ k b, K1.β k = some b → K2.β (ρ k) = some b) (hw : K2.w = K1.w) {b : Nat} {cells : List V} (h : (∀ b, RoOK K1 b → RoOK K2 b) ∨ NoROL cells) (hb : BlkOK K1 b cells) : BlkOK K2 b (renL ρ cells) := by
  obtain ⟨C, e, lo, up, hC, hl, hfz, h1, hc⟩ := hb
  refine ⟨C, e, lo, up, by rw [hw]; exact hC, by rw [renL_len]; exact hl, hfz, h1, fun i v hv => ?_⟩
  rw [renL_get] at hv
  simp only [Option.map_eq_some_iff] at hv
  obtain ⟨u, hu, rfl⟩ := hv
  obtain ⟨c, hc1, hr⟩ := hc i u hu
  exact ⟨c, hc1, ren_rep hβ hw u c (h.imp id fun h => h.get i u hu) hr⟩

/-! ## Arguments -/

/-- How a callee sees its caller's memory. -/
structure CallCx (K Kc : Cx) (H : Heap) (D : Nat → Prop) (ids bs : List Nat) : Prop where
  w : Kc.w = K.w
  β : ∀ k id, ids[k]? = some id → Kc.β k = K.β id
  ro : ∀ b, RoOK K b → RoOK Kc b
  bo : ∀ id b, id ∉ ids → id ∈ bs → D id → K.β id = some b → RoOK Kc b

mutual
theorem arg_rep {K Kc : Cx} {H : Heap} {D : Nat → Prop} {ids bs : List Nat} (hK : HeapOK K H D) (h : CallCx K Kc H D ids bs) (hD : ∀ i, i ∈ bs → D i) : ∀ (v a : V) (c : Value), ArgRel H ids bs v a → Rep K v c → Rep Kc a c
  | .sc v, a, c, ha, hr => by simp only [ArgRel] at ha; subst ha; simpa [Rep] using hr
  | .agg cs, a, c, ha, hr => by
    simp only [ArgRel] at ha; obtain ⟨cs', rfl, ha⟩ := ha
    simp only [Rep] at hr ⊢; obtain ⟨l, hc, hr⟩ := hr
    exact ⟨l, hc, argO_rep hK h hD cs cs' l ha hr⟩
  | .tup vs, a, c, ha, hr => by
    simp only [ArgRel] at ha; obtain ⟨cs', rfl, ha⟩ := ha
    simp only [Rep] at hr ⊢; obtain ⟨l, hc, hr⟩ := hr
    exact ⟨l, hc, argL_rep hK h hD vs cs' l ha hr⟩
  | .sl n cs, a, c, ha, hr => by
    simp only [ArgRel] at ha; obtain ⟨rfl, hcl⟩ := ha
    exact Rep.closed h.w h.ro _ c (by simpa [Closed] using hcl) hr
  | .box cs, a, c, ha, hr => by
    simp only [ArgRel] at ha; obtain ⟨rfl, hcl⟩ := ha
    exact Rep.closed h.w h.ro _ c (by simpa [Closed] using hcl) hr
  | .ref id off, a, c, ha, hr => by
    simp only [ArgRel] at ha; obtain ⟨k, hk, rfl⟩ := ha
    simp only [Rep] at hr ⊢; obtain ⟨b, hb, hc⟩ := hr
    exact ⟨b, by rw [h.β k id hk]; exact hb, hc⟩
  | .sref id off n sz, a, c, ha, hr => by
    simp only [ArgRel] at ha
    rcases ha with ⟨k, hk, rfl⟩ | ⟨hni, hbs, cells, hblk, hle, hcl, rfl⟩
    · simp only [Rep] at hr ⊢; obtain ⟨b, o, cap, hb, hr⟩ := hr
      exact ⟨b, o, cap, by rw [h.β k id hk]; exact hb, by rw [h.w]; exact hr⟩
    · simp only [Rep] at hr ⊢; obtain ⟨b, o, cap, hb, hc, hn, ho, _⟩ := hr
      have hDi := hD id hbs
      obtain ⟨b2, cells2, hb2, hH, hok⟩ := hK.blk id hDi
      rw [hb] at hb2; cases hb2
      rw [blkAt_iff, hH] at hblk; cases hblk
      refine ⟨⟨b, o, none⟩, cap, hc, hn, .inr (h.bo id b hni hbs hDi hb), ?_⟩
      by_cases hn0 : n = 0
      · subst hn0; simp [RepC]
      · have : o = off := by rcases ho with ho | ho; · omega
                             · exact ho
        subst this
        have hr := ((RepC.of_blk hok).drop o).take (n * sz)
        have hadd : (⟨b, 0, none⟩ : Addr).add o = ⟨b, o, none⟩ := by unfold Addr.add; split <;> simp_all
        rw [hadd] at hr
        exact RepC.closed h.w h.ro _ _ _ hcl hr
  | .fn f caps, a, c, ha, hr => by
    simp only [ArgRel] at ha; obtain ⟨cs', rfl, ha⟩ := ha
    simp only [Rep] at hr ⊢; obtain ⟨l, hc, hr⟩ := hr
    exact ⟨l, hc, argL_rep hK h hD caps cs' l ha hr⟩
  | .dead, a, c, ha, hr => by simp only [ArgRel] at ha; subst ha; simp [Rep]
theorem argL_rep {K Kc : Cx} {H : Heap} {D : Nat → Prop} {ids bs : List Nat} (hK : HeapOK K H D) (h : CallCx K Kc H D ids bs) (hD : ∀ i, i ∈ bs → D i) : ∀ (vs us : List V) (l : List Value), ArgRelL H ids bs vs us → RepL K vs l → RepL Kc us l
  | [], us, l, ha, hr => by simp only [ArgRelL] at ha; subst ha; simpa [RepL] using hr
  | v :: vs, us, l, ha, hr => by
    simp only [ArgRelL] at ha; obtain ⟨a, us', rfl, h1, h2⟩ := ha
    simp only [RepL] at hr ⊢
    obtain ⟨c, l', hc, h3, h4⟩ := hr
    exact ⟨c, l', hc, arg_rep hK h hD v a c h1 h3, argL_rep hK h hD vs us' l' h2 h4⟩
theorem argO_rep {K Kc : Cx} {H : Heap} {D : Nat → Prop} {ids bs : List Nat} (hK : HeapOK K H D) (h : CallCx K Kc H D ids bs) (hD : ∀ i, i ∈ bs → D i) : ∀ (vs us : List V) (l : List Value), ArgRelL H ids bs vs us → RepO K vs l → RepO Kc us l
  | [], us, l, ha, hr => by simp only [ArgRelL] at ha; subst ha; simpa [RepO] using hr
  | v :: vs, us, l, ha, hr => by
    simp only [ArgRelL] at ha; obtain ⟨a, us', rfl, h1, h2⟩ := ha
    simp only [RepO] at hr ⊢
    obtain ⟨c, l', hc, h0, h3, h4⟩ := hr
    exact ⟨c, l', hc, h0, arg_rep hK h hD v a c h1 h3, argO_rep hK h hD vs us' l' h2 h4⟩
end

theorem argL_len {H : Heap} {ids bs : List Nat} : ∀ {vs us : List V}, ArgRelL H ids bs vs us → us.length = vs.length
  | [], us, h => by simp only [ArgRelL] at h; subst h; rfl
  | v :: vs, us, h => by
    simp only [ArgRelL] at h; obtain ⟨a, us', rfl, _, h2⟩ := h
    simp [argL_len h2]

theorem argL_get {H : Heap} {ids bs : List Nat} : ∀ {vs us : List V}, ArgRelL H ids bs vs us → ∀ (i : Nat) (u : V), us[i]? = some u → ∃ v, vs[i]? = some v ∧ ArgRel H ids bs v u
  | [], us, h, i, u, hu => by simp only [ArgRelL] at h; subst h; simp at hu
  | v :: vs, us, h, i, u, hu => by
    simp only [ArgRelL] at h; obtain ⟨a, us', rfl, h1, h2⟩ := h
    cases i with
    | zero => simp at hu; subst hu; exact ⟨v, rfl, h1⟩
    | succ i => exact argL_get h2 i u (by simpa using hu)

theorem CallCx.nil {K Kc : Cx} {H : Heap} {D : Nat → Prop} {ids bs : List Nat} (h : CallCx K Kc H D ids bs) : CallCx K Kc H D ids [] :=
  ⟨h.w, h.β, h.ro, fun id b _ hid => by cases hid⟩

/-- The soundness of a call. -/
theorem call_sound {P : Program} {f : Nat} {H : Heap} {args : List V} {v : V} {H' : Heap} {F W : List Nat} (hcall : CallRel P f H args v H' F W) {K : Cx} {D : Nat → Prop} (hK : HeapOK K H D)
    (hfresh : ∀ i, H.length ≤ i → i < H'.length → K.β i = none) (hF : ∀ i ∈ F, D i) {vs : List Value} (hargs : RepL K args vs) :
    Calls P f vs.toArray K.w fun e w' => ∃ c K', e = .returned c ∧ K'.w = w' ∧ HeapOK K' H' (Dn D H H') ∧ Step K H D K' H' (Dn D H H') ∧ Rep K' v c := by
  obtain ⟨ids, bs, args', Hin, r, Hout, hC, hnd, hlen, hle, hin, hnamed, hbsin, hrel, hro, rfl, rfl, rfl, hWW⟩ := hcall
  have hDids : ∀ i ∈ ids, D i := fun i hi => hF i (by simp [hi])
  have hDbs : ∀ i ∈ bs, D i := fun i hi => hF i (by simp [hi])
  let tr : Nat → Prop := fun b => ∃ i, i ∈ ids ∧ K.β i = some b
  have htrN : ∀ b, tr b → K.N b ∧ (K.R b ∨ K.B ≤ b) := fun b ⟨i, hi, hb⟩ => hK.own i b (hDids i hi) hb
  let Kc : Cx := { w := K.w, β := fun k => (ids[k]?).bind K.β, N := tr, B := K.w.heap.size, R := fun b => bs ≠ [] ∨ RoOK K b ∨ tr b }
  have hcx : CallCx K Kc H D ids bs := by
    refine ⟨rfl, fun k id hk => by show (ids[k]?).bind K.β = _; rw [hk]; rfl, fun b hb => ⟨fun ht => hb.1 (htrN b ht).1, .inl (.inr (.inl hb))⟩, fun id b hni hbs hD hb => ⟨?_, .inl (.inl ?_)⟩⟩
    · rintro ⟨i, hi, hb'⟩
      exact hni (hK.inj i id b (hDids i hi) hD hb' hb ▸ hi)
    · rintro rfl; cases hbs
  have hkap : ∀ k, kap (Hin.map some) k ↔ k < ids.length := fun k => by
    constructor
    · intro hk; have := hk.lt; simpa [hlen] using this
    · intro hk
      have : k < Hin.length := by omega
      exact ⟨Hin[k], by simp [List.getElem?_eq_getElem this]⟩
  have hβc : ∀ k b, Kc.β k = some b → ∃ id, ids[k]? = some id ∧ K.β id = some b := fun k b hb => by
    have hb' : (ids[k]?).bind K.β = some b := hb
    simpa [Option.bind_eq_some_iff] using hb'
  have hKc : HeapOK Kc (Hin.map some) (kap (Hin.map some)) := by
    refine ⟨?_, ?_, ?_, Nat.le_refl _⟩
    · intro i j b _ _ hbi hbj
      obtain ⟨x, hx, hxb⟩ := hβc i b hbi
      obtain ⟨y, hy, hyb⟩ := hβc j b hbj
      have hxy := hK.inj x y b (hDids x (List.mem_of_getElem? hx)) (hDids y (List.mem_of_getElem? hy)) hxb hyb
      subst hxy
      obtain ⟨hi1, hi2⟩ := List.getElem?_eq_some_iff.1 hx
      obtain ⟨hj1, hj2⟩ := List.getElem?_eq_some_iff.1 hy
      exact (List.getElem_inj hnd).1 (hi2.trans hj2.symm)
    · intro k hk
      have hk' := (hkap k).1 hk
      have hidk : ids[k]? = some ids[k] := List.getElem?_eq_getElem hk'
      obtain ⟨cells, cells', h1, h2, h3⟩ := hin k ids[k] hidk
      obtain ⟨b, cs, hb, hH, C, e, lo, up, hC, hcl, hfz, h1c, hcc⟩ := hK.blk ids[k] (hDids _ (List.getElem_mem hk'))
      rw [blkAt_iff, hH] at h2; cases h2
      refine ⟨b, cells', by rw [hcx.β k _ hidk]; exact hb, by simp [h1], C, e, lo, up, hC, by rw [argL_len h3]; exact hcl, hfz, h1c, fun i u hu => ?_⟩
      obtain ⟨u0, hu0, hrel0⟩ := argL_get h3 i u hu
      obtain ⟨c, hc1, hr⟩ := hcc i u0 hu0
      exact ⟨c, hc1, arg_rep hK hcx.nil (fun i hi => by cases hi) u0 u c hrel0 hr⟩
    · intro k b _ hb
      obtain ⟨id, hid, hb⟩ := hβc k b hb
      have : tr b := ⟨id, List.mem_of_getElem? hid, hb⟩
      exact ⟨this, .inl (.inr (.inr this))⟩
  have hdom : ∀ i b, Kc.β i = some b → i < Hin.length := fun i b hb => by
    obtain ⟨id, hid, _⟩ := hβc i b hb
    have := (List.getElem?_eq_some_iff.1 hid).1
    omega
  have hargs' : RepL Kc args' vs := argL_rep hK hcx hDbs args args' vs hrel hargs
  refine (hC Kc vs rfl hKc hdom hargs').mono ?_
  rintro e w' ⟨c, K2, rfl, hK2w, hOK2, hdom2, hst, hrep⟩
  subst hK2w
  have hlen' := putBack_len (ρof ids H.length) ids H Hout
  have hinR : ∀ i, H.length ≤ i → i < H.length + (Hout.length - ids.length) → K.β i = none := fun i h1 h2 => hfresh i h1 (by rw [hlen']; exact h2)
  let K' : Cx := { w := K2.w, β := fun i => if H.length ≤ i ∧ i < H.length + (Hout.length - ids.length) then K2.β (i - H.length + ids.length) else K.β i,
                   N := fun b => (K.N b ∧ ¬ tr b ∧ b < K.w.heap.size) ∨ K2.N b, B := K.B, R := K.R }
  have hβold : ∀ i, ¬ (H.length ≤ i ∧ i < H.length + (Hout.length - ids.length)) → K'.β i = K.β i := fun i hi => if_neg hi
  have hβnew : ∀ i, (H.length ≤ i ∧ i < H.length + (Hout.length - ids.length)) → K'.β i = K2.β (i - H.length + ids.length) := fun i hi => if_pos hi
  have hDlt : ∀ i, D i → i < H.length := fun i hi => (hK.live hi).lt
  have hβren : ∀ k b, K2.β k = some b → K'.β (ρof ids H.length k) = some b := by
    intro k b hb
    have hk := hdom2 k b hb
    by_cases hki : k < ids.length
    · have hidk : ids[k]? = some ids[k] := List.getElem?_eq_getElem hki
      have hρ : ρof ids H.length k = ids[k] := by simp [ρof, hki]
      rw [hρ, hβold _ (fun h => by have := hDlt _ (hDids _ (List.getElem_mem hki)); omega)]
      obtain ⟨b0, hb0⟩ := hK.def _ (hDids _ (List.getElem_mem hki))
      have := hst.ext k b0 (by rw [hcx.β k _ hidk]; exact hb0)
      rw [hb] at this; cases this
      exact hb0
    · have hρ : ρof ids H.length k = H.length + (k - ids.length) := by simp [ρof, hki]
      rw [hρ, hβnew _ ⟨by omega, by omega⟩]
      rw [show H.length + (k - ids.length) - H.length + ids.length = k by omega]
      exact hb
  have hK2N : ∀ b, K2.N b → tr b ∨ K.w.heap.size ≤ b := fun b hb => hst.nn b hb
  have hrores : bs = [] → ∀ b, RoOK K2 b → RoOK K' b := by
    intro hbs b ⟨hn, hr⟩
    rw [hst.R, hst.B] at hr
    refine ⟨?_, ?_⟩
    · rintro (⟨h1, h2, h3⟩ | h1)
      · rcases hr with (h4 | h4 | h4) | h4
        · exact h4 hbs
        · exact h4.1 h1
        · exact h2 h4
        · have h4' : K.w.heap.size ≤ b := h4
          omega
      · exact hn h1
    · rcases hr with (h4 | h4 | h4) | h4
      · exact absurd hbs h4
      · exact h4.2
      · exact (htrN b h4).2
      · have h4' : K.w.heap.size ≤ b := h4
        right; show K.B ≤ b; have := hK.low; omega
  have hsel : ∀ (u : V), NoRO u ∨ bs = [] → ((∀ b, RoOK K2 b → RoOK K' b) ∨ NoRO u) := fun u h => by
    rcases h with h | h
    · exact .inr h
    · exact .inl (hrores h)
  have hbsOr : NoRO r ∧ NoROH Hout ∨ bs = [] := by
    by_cases hb : bs = []
    · exact .inr hb
    · exact .inl (hro hb)
  have hOwnc : ∀ b, OwnD Kc (kap (Hin.map some)) b → tr b := fun b ⟨k, _, hb⟩ => by
    obtain ⟨id, hid, hb⟩ := hβc k b hb
    exact ⟨id, List.mem_of_getElem? hid, hb⟩
  have hstep : Step K H D K' (putBack H (ρof ids H.length) ids Hout) (Dn D H (putBack H (ρof ids H.length) ids Hout)) := by
    refine ⟨rfl, rfl, hst.os, hst.tape, hst.output, hst.size, by rw [hlen']; omega, ?_, ?_, ?_, fun b hb hlt hno => .inl ⟨hb, fun ⟨i, hi, hib⟩ => hno ⟨i, hDids i hi, hib⟩, hlt⟩, ?_, ?_, hst.shape⟩
    · intro i b hb
      by_cases hi : H.length ≤ i ∧ i < H.length + (Hout.length - ids.length)
      · rw [hinR i hi.1 hi.2] at hb; cases hb
      · rw [hβold i hi]; exact hb
    · intro i b hb
      by_cases hi : H.length ≤ i ∧ i < H.length + (Hout.length - ids.length)
      · rw [hβnew i hi] at hb
        refine .inr ⟨hinR i hi.1 hi.2, hi.1, by rw [hlen']; exact hi.2, ?_⟩
        rcases hst.new _ b hb with h1 | ⟨_, _, _, h3⟩
        · exfalso
          obtain ⟨id, hid, _⟩ := hβc _ b h1
          have := (List.getElem?_eq_some_iff.1 hid).1
          omega
        · rcases h3 with h3 | h3
          · exact .inl h3
          · obtain ⟨j, hj, hjb⟩ := hOwnc b h3
            exact .inr ⟨j, hDids j hj, hjb⟩
      · rw [hβold i hi] at hb; exact .inl hb
    · rintro b (⟨h1, _, _⟩ | h1)
      · exact .inl h1
      · rcases hK2N b h1 with h1 | h1
        · exact .inl (htrN b h1).1
        · exact .inr h1
    · rintro i ⟨h1, h2⟩
      rcases h1 with h1 | h1
      · exact .inl h1
      · have := h2.lt
        exact .inr ⟨hfresh i h1 this, h1, this⟩
    · intro b hb hno
      exact hst.frame b hb fun ho => hno (by obtain ⟨j, hj, hjb⟩ := hOwnc b ho; exact ⟨j, hDids j hj, hjb⟩)
  have hown2 : ∀ k b, kap Hout k → K2.β k = some b → tr b ∨ K.w.heap.size ≤ b := by
    intro k b hk hb
    rcases hst.own (fun i hi => by obtain ⟨b, _, hb, _⟩ := hKc.blk i hi; exact ⟨b, hb⟩) b ⟨k, hk, hb⟩ with h1 | h1
    · exact .inl (hOwnc b h1)
    · exact .inr h1
  -- what each live block of the caller is, behind the call
  have hcases : ∀ i, Dn D H (putBack H (ρof ids H.length) ids Hout) i →
      (D i ∧ i ∉ ids ∧ i < H.length) ∨ ∃ k, kap Hout k ∧ i = ρof ids H.length k ∧ (putBack H (ρof ids H.length) ids Hout)[i]? = (Hout[k]?).map (Option.map (renL (ρof ids H.length))) := by
    rintro i ⟨h1, h2⟩
    by_cases hi : i < H.length
    · have hDi : D i := by rcases h1 with h1 | h1; · exact h1
                           · omega
      by_cases hid : i ∈ ids
      · right
        obtain ⟨k, hk⟩ := List.getElem?_of_mem hid
        have hklt := (List.getElem?_eq_some_iff.1 hk).1
        have hp := putBack_ids (ρof ids H.length) ids H Hout k i hnd hk hi
        have hkO : Hout[k]? = some (Hout.getD k none) := by
          rw [List.getD_eq_getElem?_getD, List.getElem?_eq_getElem (by omega)]; rfl
        refine ⟨k, ?_, by simp only [ρof, hklt, if_true, List.getD_eq_getElem?_getD, hk, Option.getD_some], by rw [hp, hkO]; rfl⟩
        obtain ⟨cells, hcells⟩ := h2
        rw [hp] at hcells
        cases ho : Hout.getD k none with
        | none => rw [ho] at hcells; simp at hcells
        | some cs => exact ⟨cs, by rw [hkO, ho]⟩
      · exact .inl ⟨hDi, hid, hi⟩
    · right
      have hlt := h2.lt
      rw [hlen'] at hlt
      have hp := putBack_new (ρof ids H.length) ids H Hout (i - H.length)
      rw [show H.length + (i - H.length) = i by omega] at hp
      refine ⟨ids.length + (i - H.length), ?_, ?_, hp⟩
      · obtain ⟨cells, hcells⟩ := h2
        rw [hp] at hcells
        cases ho : Hout[ids.length + (i - H.length)]? with
        | none => rw [ho] at hcells; simp at hcells
        | some o =>
          rw [ho] at hcells
          cases o with
          | none => simp at hcells
          | some cs => exact ⟨cs, ho⟩
      · have : ¬ (ids.length + (i - H.length) < ids.length) := by omega
        simp only [ρof, this, if_false]
        omega
  refine ⟨c, K', rfl, rfl, ⟨?_, ?_, ?_, ?_⟩, hstep, ren_rep hβren rfl r c (hsel r (hbsOr.imp (·.1) id)) hrep⟩
  · intro i j b hi hj hbi hbj
    rcases hcases i hi with ⟨h1, h2, h3⟩ | ⟨k, hk, rfl, _⟩ <;> rcases hcases j hj with ⟨h4, h5, h6⟩ | ⟨l, hl, rfl, _⟩
    · rw [hβold i (by omega)] at hbi; rw [hβold j (by omega)] at hbj
      exact hK.inj i j b h1 h4 hbi hbj
    · exfalso
      rw [hβold i (by omega)] at hbi
      obtain ⟨b', _, hb', _, C0, _, _, _, _⟩ := hOK2.blk l hl
      have := hβren l b' hb'
      rw [hbj] at this; cases this
      rcases hown2 l b hl hb' with ⟨q, hq, hqb⟩ | hge
      · exact h2 (hK.inj q i b (hDids q hq) h1 hqb hbi ▸ hq)
      · obtain ⟨b0, _, hb0, _, C1, e1, lo1, up1, hC1, _⟩ := hK.blk i h1
        rw [hbi] at hb0; cases hb0
        have := (Array.getElem?_eq_some_iff.1 hC1).1
        omega
    · exfalso
      rw [hβold j (by omega)] at hbj
      obtain ⟨b', _, hb', _⟩ := hOK2.blk k hk
      have := hβren k b' hb'
      rw [hbi] at this; cases this
      rcases hown2 k b hk hb' with ⟨q, hq, hqb⟩ | hge
      · exact h5 (hK.inj q j b (hDids q hq) h4 hqb hbj ▸ hq)
      · obtain ⟨b0, _, hb0, _, C1, e1, lo1, up1, hC1, _⟩ := hK.blk j h4
        rw [hbj] at hb0; cases hb0
        have := (Array.getElem?_eq_some_iff.1 hC1).1
        omega
    · obtain ⟨b1, _, hb1, _⟩ := hOK2.blk k hk
      obtain ⟨b2, _, hb2, _⟩ := hOK2.blk l hl
      have e1 := hβren k b1 hb1
      have e2 := hβren l b2 hb2
      rw [hbi] at e1; cases e1
      rw [hbj] at e2; cases e2
      rw [hOK2.inj k l b hk hl hb1 hb2]
  · intro i hi
    rcases hcases i hi with ⟨h1, h2, h3⟩ | ⟨k, hk, rfl, hp⟩
    · obtain ⟨b, cells, hb, hH, hok⟩ := hK.blk i h1
      refine ⟨b, cells, by rw [hβold i (by omega)]; exact hb, by rw [putBack_old _ ids H Hout i h2 h3]; exact hH, hok.pres (hstep.pres hK) (hst.frame b ?_ fun ho => ?_)⟩
      · obtain ⟨C1, e1, lo1, up1, hC1, _⟩ := hok
        exact (Array.getElem?_eq_some_iff.1 hC1).1
      · obtain ⟨q, hq, hqb⟩ := hOwnc b ho
        exact h2 (hK.inj q i b (hDids q hq) h1 hqb hb ▸ hq)
    · obtain ⟨b, cells, hb, hH, hok⟩ := hOK2.blk k hk
      refine ⟨b, renL (ρof ids H.length) cells, hβren k b hb, by rw [hp, hH]; rfl, blk_ren hβren rfl ?_ hok⟩
      rcases hbsOr with h | h
      · exact .inr (h.2 k cells hH)
      · exact .inl (hrores h)
  · intro i b hi hb
    rcases hcases i hi with ⟨h1, h2, h3⟩ | ⟨k, hk, rfl, hp⟩
    · rw [hβold i (by omega)] at hb
      refine ⟨.inl ⟨(hK.own i b h1 hb).1, ?_, ?_⟩, (hK.own i b h1 hb).2⟩
      · rintro ⟨q, hq, hqb⟩
        exact h2 (hK.inj q i b (hDids q hq) h1 hqb hb ▸ hq)
      · obtain ⟨b0, _, hb0, _, C1, e1, lo1, up1, hC1, _⟩ := hK.blk i h1
        rw [hb] at hb0; cases hb0
        exact (Array.getElem?_eq_some_iff.1 hC1).1
    · obtain ⟨b0, _, hb0, _⟩ := hOK2.blk k hk
      have := hβren k b0 hb0
      rw [hb] at this; cases this
      refine ⟨.inr (hOK2.own k b hk hb0).1, ?_⟩
      rcases hown2 k b hk hb0 with h | h
      · exact (htrN b h).2
      · right; show K.B ≤ b; have := hK.low; omega
  · show K.B ≤ K2.w.heap.size
    have := hst.size
    have := hK.low
    have h3 : Kc.w.heap.size = K.w.heap.size := rfl
    omega

end Go.Proofs.Ytlahigboaeadmaa.VA
