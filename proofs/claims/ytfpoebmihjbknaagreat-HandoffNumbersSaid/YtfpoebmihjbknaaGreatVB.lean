/- Texts of this proof, one behind the other: V10, V11, V12, V13, V14, V15, V17, V18, V16. -/
import Derived.Test.YtfpoebmihjbknaaGreatVA
import Derived.Deep.LoopGhost
import Derived.IntWalk
import Derived.Test.YtfpoebmihjbknaaGreatRows
import Derived.ProofKit
import Derived.OpenShut
import Derived.Below
import Derived.SizedLaws
/- The soundness of calls in 'VA'. -/
set_option linter.unusedVariables false
set_option linter.unusedSimpArgs false
namespace Go.Proofs.YtfpoebmihjbknaaGreat.VA
open Go
theorem putBack_len (ρ : Nat → Nat) : ∀ (ids : List Nat) (H : Heap) (out : Heap), (putBack H ρ ids out).length = H.length + (out.length - ids.length)
  | [], H, out => by simp [putBack]
  | id :: ids, H, [] => by simp only [putBack]; rw [putBack_len ρ ids]; simp
  | id :: ids, H, o :: out => by simp only [putBack]; rw [putBack_len ρ ids]; simp
theorem putBack_old (ρ : Nat → Nat) : ∀ (ids : List Nat) (H : Heap) (out : Heap) (i : Nat), i ∉ ids → i < H.length → (putBack H ρ ids out)[i]? = H[i]?
  | [], H, out, i, _, hlt => by simp only [putBack]; rw [List.getElem?_append_left hlt]
  | id :: ids, H, [], i, hi, hlt => by
    simp only [List.mem_cons, not_or] at hi
    simp only [putBack]
    rw [putBack_old ρ ids _ _ i hi.2 (by simpa using hlt), List.getElem?_set_ne (Ne.symm hi.1)]
  | id :: ids, H, o :: out, i, hi, hlt => by
    simp only [List.mem_cons, not_or] at hi
    simp only [putBack]
    rw [putBack_old ρ ids _ _ i hi.2 (by simpa using hlt), List.getElem?_set_ne (Ne.symm hi.1)]
theorem putBack_ids (ρ : Nat → Nat) : ∀ (ids : List Nat) (H : Heap) (out : Heap) (k i : Nat), ids.Nodup → ids[k]? = some i → i < H.length → (putBack H ρ ids out)[i]? = some ((out.getD k none).map (renL ρ))
  | [], H, out, k, i, _, hk, _ => by simp at hk
  | id :: ids, H, [], k, i, hn, hk, hlt => by
    simp only [List.nodup_cons] at hn
    simp only [putBack]
    cases k with
    | zero =>
      simp at hk; subst hk
      rw [putBack_old ρ ids _ _ id hn.1 (by simpa using hlt), List.getElem?_set_self hlt]
      simp
    | succ k =>
      have := putBack_ids ρ ids (H.set id none) [] k i hn.2 (by simpa using hk) (by simpa using hlt)
      simpa using this
  | id :: ids, H, o :: out, k, i, hn, hk, hlt => by
    simp only [List.nodup_cons] at hn
    simp only [putBack]
    cases k with
    | zero =>
      simp at hk; subst hk
      rw [putBack_old ρ ids _ _ id hn.1 (by simpa using hlt), List.getElem?_set_self hlt]
      simp
    | succ k =>
      have := putBack_ids ρ ids (H.set id (o.map (renL ρ))) out k i hn.2 (by simpa using hk) (by simpa using hlt)
      simpa using this
theorem putBack_new (ρ : Nat → Nat) : ∀ (ids : List Nat) (H : Heap) (out : Heap) (j : Nat), (putBack H ρ ids out)[H.length + j]? = (out[ids.length + j]?).map (Option.map (renL ρ))
  | [], H, out, j => by
    simp only [putBack]
    rw [List.getElem?_append_right (by omega)]
    simp
  | id :: ids, H, [], j => by
    simp only [putBack]
    have := putBack_new ρ ids (H.set id none) [] j
    simpa using this
  | id :: ids, H, o :: out, j => by
    simp only [putBack]
    have := putBack_new ρ ids (H.set id (o.map (renL ρ))) out j
    simp only [List.length_set] at this
    rw [this]
    rw [show (id :: ids).length + j = (ids.length + j) + 1 by simp; omega]
    simp
mutual
theorem ren_rep {K1 K2 : Cx} {ρ : Nat → Nat} (hβ : ∀ k b, K1.β k = some b → K2.β (ρ k) = some b) (hw : K2.w = K1.w) : ∀ (v : V) (c : Value), ((∀ b, RoOK K1 b → RoOK K2 b) ∨ NoRO v) → Rep K1 v c → Rep K2 (renV ρ v) c
  | .sc v, c, _, hr => by simpa [Rep, renV] using hr
  | .agg cs, c, h, hr => by
    simp only [Rep, renV] at hr ⊢; obtain ⟨l, hc, hr⟩ := hr
    exact ⟨l, hc, renO_rep hβ hw cs l (h.imp id (by simp [NoRO])) hr⟩
  | .tup vs, c, h, hr => by
    simp only [Rep, renV] at hr ⊢; obtain ⟨l, hc, hr⟩ := hr
    exact ⟨l, hc, renL_rep hβ hw vs l (h.imp id (by simp [NoRO])) hr⟩
  | .sl n cs, c, h, hr => by
    simp only [Rep, renV] at hr ⊢; obtain ⟨a, cap, hc, hn, hro, hr⟩ := hr
    rcases h with h | h
    · refine ⟨a, cap, hc, hn, hro.imp (by rintro rfl; simp [renL]) (h _), renC_rep hβ hw cs a 0 (.inl h) hr⟩
    · simp only [NoRO] at h; subst h
      exact ⟨a, cap, hc, hn, .inl (by simp [renL]), by simp [renL, RepC]⟩
  | .box cs, c, h, hr => by
    simp only [Rep, renV] at hr ⊢; obtain ⟨a, hc, hro, hr⟩ := hr
    rcases h with h | h
    · refine ⟨a, hc, hro.imp (by rintro rfl; simp [renL]) (h _), renC_rep hβ hw cs a 0 (.inl h) hr⟩
    · simp only [NoRO] at h; subst h
      exact ⟨a, hc, .inl (by simp [renL]), by simp [renL, RepC]⟩
  | .ref id off, c, _, hr => by
    simp only [Rep, renV] at hr ⊢; obtain ⟨b, hb, hc⟩ := hr
    exact ⟨b, hβ _ _ hb, hc⟩
  | .sref id off n sz, c, _, hr => by
    simp only [Rep, renV] at hr ⊢; obtain ⟨b, o, cap, hb, hr⟩ := hr
    exact ⟨b, o, cap, hβ _ _ hb, by rw [hw]; exact hr⟩
  | .fn f caps, c, h, hr => by
    simp only [Rep, renV] at hr ⊢; obtain ⟨l, hc, hr⟩ := hr
    exact ⟨l, hc, renL_rep hβ hw caps l (h.imp id (by simp [NoRO])) hr⟩
  | .dead, _, _, _ => by simp [Rep, renV]
theorem renL_rep {K1 K2 : Cx} {ρ : Nat → Nat} (hβ : ∀ k b, K1.β k = some b → K2.β (ρ k) = some b) (hw : K2.w = K1.w) : ∀ (vs : List V) (l : List Value), ((∀ b, RoOK K1 b → RoOK K2 b) ∨ NoROL vs) → RepL K1 vs l → RepL K2 (renL ρ vs) l
  | [], l, _, hr => by simpa [RepL, renL] using hr
  | v :: vs, l, h, hr => by
    simp only [RepL, renL] at hr ⊢
    obtain ⟨c, l', hc, h1, h2⟩ := hr
    exact ⟨c, l', hc, ren_rep hβ hw v c (h.imp id fun h => by simp only [NoROL] at h; exact h.1) h1, renL_rep hβ hw vs l' (h.imp id fun h => by simp only [NoROL] at h; exact h.2) h2⟩
theorem renO_rep {K1 K2 : Cx} {ρ : Nat → Nat} (hβ : ∀ k b, K1.β k = some b → K2.β (ρ k) = some b) (hw : K2.w = K1.w) : ∀ (vs : List V) (l : List Value), ((∀ b, RoOK K1 b → RoOK K2 b) ∨ NoROL vs) → RepO K1 vs l → RepO K2 (renL ρ vs) l
  | [], l, _, hr => by simpa [RepO, renL] using hr
  | v :: vs, l, h, hr => by
    simp only [RepO, renL] at hr ⊢
    obtain ⟨c, l', hc, h0, h1, h2⟩ := hr
    exact ⟨c, l', hc, h0, ren_rep hβ hw v c (h.imp id fun h => by simp only [NoROL] at h; exact h.1) h1, renO_rep hβ hw vs l' (h.imp id fun h => by simp only [NoROL] at h; exact h.2) h2⟩
theorem renC_rep {K1 K2 : Cx} {ρ : Nat → Nat} (hβ : ∀ k b, K1.β k = some b → K2.β (ρ k) = some b) (hw : K2.w = K1.w) : ∀ (vs : List V) (a : Addr) (i : Nat), ((∀ b, RoOK K1 b → RoOK K2 b) ∨ NoROL vs) → RepC K1 vs a i → RepC K2 (renL ρ vs) a i
  | [], _, _, _, _ => by simp [RepC, renL]
  | v :: vs, a, i, h, hr => by
    simp only [RepC, renL] at hr ⊢
    obtain ⟨⟨c, hc, h0, h1⟩, h2⟩ := hr
    exact ⟨⟨c, by rw [hw]; exact hc, h0, ren_rep hβ hw v c (h.imp id fun h => by simp only [NoROL] at h; exact h.1) h1⟩, renC_rep hβ hw vs a (i + 1) (h.imp id fun h => by simp only [NoROL] at h; exact h.2) h2⟩
end
theorem renL_len (ρ : Nat → Nat) : ∀ (l : List V), (renL ρ l).length = l.length
  | [] => rfl
  | v :: l => by simp [renL, renL_len ρ l]
theorem renL_get (ρ : Nat → Nat) : ∀ (l : List V) (i : Nat), (renL ρ l)[i]? = (l[i]?).map (renV ρ)
  | [], i => by simp [renL]
  | v :: l, 0 => by simp [renL]
  | v :: l, i + 1 => by simp [renL, renL_get ρ l i]
theorem NoROL.get : ∀ {l : List V}, NoROL l → ∀ (i : Nat) (v : V), l[i]? = some v → NoRO v
  | [], _, i, v, hv => by simp at hv
  | u :: l, h, 0, v, hv => by simp at hv; subst hv; simp only [NoROL] at h; exact h.1
  | u :: l, h, i + 1, v, hv => by simp only [NoROL] at h; exact NoROL.get h.2 i v (by simpa using hv)
theorem blk_ren {K1 K2 : Cx} {ρ : Nat → Nat} (hβ : ∀ k b, K1.β k = some b → K2.β (ρ k) = some b) (hw : K2.w = K1.w) {b : Nat} {cells : List V} (h : (∀ b, RoOK K1 b → RoOK K2 b) ∨ NoROL cells) (hb : BlkOK K1 b cells) : BlkOK K2 b (renL ρ cells) := by
  obtain ⟨C, e, lo, up, hC, hl, hfz, h1, hc⟩ := hb
  refine ⟨C, e, lo, up, by rw [hw]; exact hC, by rw [renL_len]; exact hl, hfz, h1, fun i v hv => ?_⟩
  rw [renL_get] at hv
  simp only [Option.map_eq_some_iff] at hv
  obtain ⟨u, hu, rfl⟩ := hv
  obtain ⟨c, hc1, hr⟩ := hc i u hu
  exact ⟨c, hc1, ren_rep hβ hw u c (h.imp id fun h => h.get i u hu) hr⟩
structure CallCx (K Kc : Cx) (H : Heap) (D : Nat → Prop) (ids bs : List Nat) : Prop where
  w : Kc.w = K.w
  β : ∀ k id, ids[k]? = some id → Kc.β k = K.β id
  ro : ∀ b, RoOK K b → RoOK Kc b
  bo : ∀ id b, id ∉ ids → id ∈ bs → D id → K.β id = some b → RoOK Kc b
theorem seen_one {K Kc : Cx} {H : Heap} {D : Nat → Prop} {ids bs : List Nat} (hK : HeapOK K H D) (h : CallCx K Kc H D ids bs) (hD : ∀ i, i ∈ bs → D i) {v u : V} {c : Value} (hs : Seen1 H ids bs v u) (hr : Rep K v c) : Rep Kc u c := by
  rcases hs with ⟨hc, rfl⟩ | ⟨id, off, n, sz, cells, rfl, hni, hbs, hblk, hle, hcl, rfl⟩
  · exact Rep.closed h.w h.ro _ c hc hr
  · simp only [Rep] at hr ⊢; obtain ⟨b, o, cap, hb, hc, hn, ho, _⟩ := hr
    have hDi := hD id hbs
    obtain ⟨b2, cells2, hb2, hH, hok⟩ := hK.blk id hDi
    rw [hb] at hb2; cases hb2
    rw [blkAt_iff, hH] at hblk; cases hblk
    refine ⟨⟨b, o, none⟩, cap, hc, hn, .inr (h.bo id b hni hbs hDi hb), ?_⟩
    by_cases hn0 : n = 0
    · subst hn0; simp [RepC]
    · have : o = off := by rcases ho with ho | ho; · omega
                           · exact ho
      subst this
      have hr := ((RepC.of_blk hok).drop o).take (n * sz)
      have hadd : (⟨b, 0, none⟩ : Addr).add o = ⟨b, o, none⟩ := by unfold Addr.add; split <;> simp_all
      rw [hadd] at hr
      exact RepC.closed h.w h.ro _ _ _ hcl hr
theorem seen_rep {K Kc : Cx} {H : Heap} {D : Nat → Prop} {ids bs : List Nat} (hK : HeapOK K H D) (h : CallCx K Kc H D ids bs) (hD : ∀ i, i ∈ bs → D i) : ∀ {vs us : List V} {a : Addr} {i : Nat}, SeenL H ids bs vs us → RepC K vs a i → RepC Kc us a i
  | [], us, a, i, hs, hr => by simp only [SeenL] at hs; subst hs; simp [RepC]
  | v :: vs, us, a, i, hs, hr => by
    simp only [SeenL] at hs; obtain ⟨u, us', rfl, h1, h2⟩ := hs
    simp only [RepC] at hr ⊢
    obtain ⟨⟨c, hc, h0, hv⟩, hr2⟩ := hr
    exact ⟨⟨c, by rw [h.w]; exact hc, h0, seen_one hK h hD h1 hv⟩, seen_rep hK h hD h2 hr2⟩
mutual
theorem arg_rep {K Kc : Cx} {H : Heap} {D : Nat → Prop} {ids bs : List Nat} (hK : HeapOK K H D) (h : CallCx K Kc H D ids bs) (hD : ∀ i, i ∈ bs → D i) : ∀ (v a : V) (c : Value), ArgRel H ids bs v a → Rep K v c → Rep Kc a c
  | .sc v, a, c, ha, hr => by simp only [ArgRel] at ha; subst ha; simpa [Rep] using hr
  | .agg cs, a, c, ha, hr => by
    simp only [ArgRel] at ha; obtain ⟨cs', rfl, ha⟩ := ha
    simp only [Rep] at hr ⊢; obtain ⟨l, hc, hr⟩ := hr
    exact ⟨l, hc, argO_rep hK h hD cs cs' l ha hr⟩
  | .tup vs, a, c, ha, hr => by
    simp only [ArgRel] at ha; obtain ⟨cs', rfl, ha⟩ := ha
    simp only [Rep] at hr ⊢; obtain ⟨l, hc, hr⟩ := hr
    exact ⟨l, hc, argL_rep hK h hD vs cs' l ha hr⟩
  | .sl n cs, a, c, ha, hr => by
    simp only [ArgRel] at ha; obtain ⟨rfl, hcl⟩ := ha
    exact Rep.closed h.w h.ro _ c (by simpa [Closed] using hcl) hr
  | .box cs, a, c, ha, hr => by
    simp only [ArgRel] at ha; obtain ⟨rfl, hcl⟩ := ha
    exact Rep.closed h.w h.ro _ c (by simpa [Closed] using hcl) hr
  | .ref id off, a, c, ha, hr => by
    simp only [ArgRel] at ha; obtain ⟨k, hk, rfl⟩ := ha
    simp only [Rep] at hr ⊢; obtain ⟨b, hb, hc⟩ := hr
    exact ⟨b, by rw [h.β k id hk]; exact hb, hc⟩
  | .sref id off n sz, a, c, ha, hr => by
    simp only [ArgRel] at ha
    rcases ha with ⟨k, hk, rfl⟩ | ⟨hni, hbs, cells, cells', hblk, hle, hcl, rfl⟩
    · simp only [Rep] at hr ⊢; obtain ⟨b, o, cap, hb, hr⟩ := hr
      exact ⟨b, o, cap, by rw [h.β k id hk]; exact hb, by rw [h.w]; exact hr⟩
    · simp only [Rep] at hr ⊢; obtain ⟨b, o, cap, hb, hc, hn, ho, _⟩ := hr
      have hDi := hD id hbs
      obtain ⟨b2, cells2, hb2, hH, hok⟩ := hK.blk id hDi
      rw [hb] at hb2; cases hb2
      rw [blkAt_iff, hH] at hblk; cases hblk
      refine ⟨⟨b, o, none⟩, cap, hc, hn, .inr (h.bo id b hni hbs hDi hb), ?_⟩
      by_cases hn0 : n = 0
      · subst hn0
        simp only [Nat.zero_mul, List.take_zero, SeenL] at hcl
        subst hcl; simp [RepC]
      · have : o = off := by rcases ho with ho | ho; · omega
                             · exact ho
        subst this
        have hr := ((RepC.of_blk hok).drop o).take (n * sz)
        have hadd : (⟨b, 0, none⟩ : Addr).add o = ⟨b, o, none⟩ := by unfold Addr.add; split <;> simp_all
        rw [hadd] at hr
        exact seen_rep hK h hD hcl hr
  | .fn f caps, a, c, ha, hr => by
    simp only [ArgRel] at ha; obtain ⟨cs', rfl, ha⟩ := ha
    simp only [Rep] at hr ⊢; obtain ⟨l, hc, hr⟩ := hr
    exact ⟨l, hc, argL_rep hK h hD caps cs' l ha hr⟩
  | .dead, a, c, ha, hr => by simp only [ArgRel] at ha; subst ha; simp [Rep]
theorem argL_rep {K Kc : Cx} {H : Heap} {D : Nat → Prop} {ids bs : List Nat} (hK : HeapOK K H D) (h : CallCx K Kc H D ids bs) (hD : ∀ i, i ∈ bs → D i) : ∀ (vs us : List V) (l : List Value), ArgRelL H ids bs vs us → RepL K vs l → RepL Kc us l
  | [], us, l, ha, hr => by simp only [ArgRelL] at ha; subst ha; simpa [RepL] using hr
  | v :: vs, us, l, ha, hr => by
    simp only [ArgRelL] at ha; obtain ⟨a, us', rfl, h1, h2⟩ := ha
    simp only [RepL] at hr ⊢
    obtain ⟨c, l', hc, h3, h4⟩ := hr
    exact ⟨c, l', hc, arg_rep hK h hD v a c h1 h3, argL_rep hK h hD vs us' l' h2 h4⟩
theorem argO_rep {K Kc : Cx} {H : Heap} {D : Nat → Prop} {ids bs : List Nat} (hK : HeapOK K H D) (h : CallCx K Kc H D ids bs) (hD : ∀ i, i ∈ bs → D i) : ∀ (vs us : List V) (l : List Value), ArgRelL H ids bs vs us → RepO K vs l → RepO Kc us l
  | [], us, l, ha, hr => by simp only [ArgRelL] at ha; subst ha; simpa [RepO] using hr
  | v :: vs, us, l, ha, hr => by
    simp only [ArgRelL] at ha; obtain ⟨a, us', rfl, h1, h2⟩ := ha
    simp only [RepO] at hr ⊢
    obtain ⟨c, l', hc, h0, h3, h4⟩ := hr
    exact ⟨c, l', hc, h0, arg_rep hK h hD v a c h1 h3, argO_rep hK h hD vs us' l' h2 h4⟩
end
theorem argL_len {H : Heap} {ids bs : List Nat} : ∀ {vs us : List V}, ArgRelL H ids bs vs us → us.length = vs.length
  | [], us, h => by simp only [ArgRelL] at h; subst h; rfl
  | v :: vs, us, h => by
    simp only [ArgRelL] at h; obtain ⟨a, us', rfl, _, h2⟩ := h
    simp [argL_len h2]
theorem argL_get {H : Heap} {ids bs : List Nat} : ∀ {vs us : List V}, ArgRelL H ids bs vs us → ∀ (i : Nat) (u : V), us[i]? = some u → ∃ v, vs[i]? = some v ∧ ArgRel H ids bs v u
  | [], us, h, i, u, hu => by simp only [ArgRelL] at h; subst h; simp at hu
  | v :: vs, us, h, i, u, hu => by
    simp only [ArgRelL] at h; obtain ⟨a, us', rfl, h1, h2⟩ := h
    cases i with
    | zero => simp at hu; subst hu; exact ⟨v, rfl, h1⟩
    | succ i => exact argL_get h2 i u (by simpa using hu)
theorem CallCx.nil {K Kc : Cx} {H : Heap} {D : Nat → Prop} {ids bs : List Nat} (h : CallCx K Kc H D ids bs) : CallCx K Kc H D ids [] :=
  ⟨h.w, h.β, h.ro, fun id b _ hid => by cases hid⟩
theorem call_sound {P : Program} {f : Nat} {H : Heap} {args : List V} {v : V} {H' : Heap} {F W : List Nat} (hcall : CallRel P f H args v H' F W) {K : Cx} {D : Nat → Prop} (hK : HeapOK K H D)
    (hfresh : ∀ i, H.length ≤ i → i < H'.length → K.β i = none) (hF : ∀ i ∈ F, D i) {vs : List Value} (hargs : RepL K args vs) :
    Calls P f vs.toArray K.w fun e w' => ∃ c K', e = .returned c ∧ K'.w = w' ∧ HeapOK K' H' (Dn D H H') ∧ Step K H D K' H' (Dn D H H') ∧ Rep K' v c := by
  obtain ⟨ids, bs, args', Hin, r, Hout, hC, hnd, hlen, hle, hin, hnamed, hbsin, hrel, hro, rfl, rfl, rfl, hWW⟩ := hcall
  have hDids : ∀ i ∈ ids, D i := fun i hi => hF i (by simp [hi])
  have hDbs : ∀ i ∈ bs, D i := fun i hi => hF i (by simp [hi])
  let tr : Nat → Prop := fun b => ∃ i, i ∈ ids ∧ K.β i = some b
  have htrN : ∀ b, tr b → K.N b ∧ (K.R b ∨ K.B ≤ b) := fun b ⟨i, hi, hb⟩ => hK.own i b (hDids i hi) hb
  let Kc : Cx := { w := K.w, β := fun k => (ids[k]?).bind K.β, N := tr, B := K.w.heap.size, R := fun b => bs ≠ [] ∨ RoOK K b ∨ tr b }
  have hcx : CallCx K Kc H D ids bs := by
    refine ⟨rfl, fun k id hk => by show (ids[k]?).bind K.β = _; rw [hk]; rfl, fun b hb => ⟨fun ht => hb.1 (htrN b ht).1, .inl (.inr (.inl hb))⟩, fun id b hni hbs hD hb => ⟨?_, .inl (.inl ?_)⟩⟩
    · rintro ⟨i, hi, hb'⟩
      exact hni (hK.inj i id b (hDids i hi) hD hb' hb ▸ hi)
    · rintro rfl; cases hbs
  have hkap : ∀ k, kap (Hin.map some) k ↔ k < ids.length := fun k => by
    constructor
    · intro hk; have := hk.lt; simpa [hlen] using this
    · intro hk
      have : k < Hin.length := by omega
      exact ⟨Hin[k], by simp [List.getElem?_eq_getElem this]⟩
  have hβc : ∀ k b, Kc.β k = some b → ∃ id, ids[k]? = some id ∧ K.β id = some b := fun k b hb => by
    have hb' : (ids[k]?).bind K.β = some b := hb
    simpa [Option.bind_eq_some_iff] using hb'
  have hKc : HeapOK Kc (Hin.map some) (kap (Hin.map some)) := by
    refine ⟨?_, ?_, ?_, Nat.le_refl _⟩
    · intro i j b _ _ hbi hbj
      obtain ⟨x, hx, hxb⟩ := hβc i b hbi
      obtain ⟨y, hy, hyb⟩ := hβc j b hbj
      have hxy := hK.inj x y b (hDids x (List.mem_of_getElem? hx)) (hDids y (List.mem_of_getElem? hy)) hxb hyb
      subst hxy
      obtain ⟨hi1, hi2⟩ := List.getElem?_eq_some_iff.1 hx
      obtain ⟨hj1, hj2⟩ := List.getElem?_eq_some_iff.1 hy
      exact (List.getElem_inj hnd).1 (hi2.trans hj2.symm)
    · intro k hk
      have hk' := (hkap k).1 hk
      have hidk : ids[k]? = some ids[k] := List.getElem?_eq_getElem hk'
      obtain ⟨cells, cells', h1, h2, h3⟩ := hin k ids[k] hidk
      obtain ⟨b, cs, hb, hH, C, e, lo, up, hC, hcl, hfz, h1c, hcc⟩ := hK.blk ids[k] (hDids _ (List.getElem_mem hk'))
      rw [blkAt_iff, hH] at h2; cases h2
      refine ⟨b, cells', by rw [hcx.β k _ hidk]; exact hb, by simp [h1], C, e, lo, up, hC, by rw [argL_len h3]; exact hcl, hfz, h1c, fun i u hu => ?_⟩
      obtain ⟨u0, hu0, hrel0⟩ := argL_get h3 i u hu
      obtain ⟨c, hc1, hr⟩ := hcc i u0 hu0
      exact ⟨c, hc1, arg_rep hK hcx.nil (fun i hi => by cases hi) u0 u c hrel0 hr⟩
    · intro k b _ hb
      obtain ⟨id, hid, hb⟩ := hβc k b hb
      have : tr b := ⟨id, List.mem_of_getElem? hid, hb⟩
      exact ⟨this, .inl (.inr (.inr this))⟩
  have hdom : ∀ i b, Kc.β i = some b → i < Hin.length := fun i b hb => by
    obtain ⟨id, hid, _⟩ := hβc i b hb
    have := (List.getElem?_eq_some_iff.1 hid).1
    omega
  have hargs' : RepL Kc args' vs := argL_rep hK hcx hDbs args args' vs hrel hargs
  refine (hC Kc vs rfl hKc hdom hargs').mono ?_
  rintro e w' ⟨c, K2, rfl, hK2w, hOK2, hdom2, hst, hrep⟩
  subst hK2w
  have hlen' := putBack_len (ρof ids H.length) ids H Hout
  have hinR : ∀ i, H.length ≤ i → i < H.length + (Hout.length - ids.length) → K.β i = none := fun i h1 h2 => hfresh i h1 (by rw [hlen']; exact h2)
  let K' : Cx := { w := K2.w, β := fun i => if H.length ≤ i ∧ i < H.length + (Hout.length - ids.length) then K2.β (i - H.length + ids.length) else K.β i,
                   N := fun b => (K.N b ∧ ¬ tr b ∧ b < K.w.heap.size) ∨ K2.N b, B := K.B, R := K.R }
  have hβold : ∀ i, ¬ (H.length ≤ i ∧ i < H.length + (Hout.length - ids.length)) → K'.β i = K.β i := fun i hi => if_neg hi
  have hβnew : ∀ i, (H.length ≤ i ∧ i < H.length + (Hout.length - ids.length)) → K'.β i = K2.β (i - H.length + ids.length) := fun i hi => if_pos hi
  have hDlt : ∀ i, D i → i < H.length := fun i hi => (hK.live hi).lt
  have hβren : ∀ k b, K2.β k = some b → K'.β (ρof ids H.length k) = some b := by
    intro k b hb
    have hk := hdom2 k b hb
    by_cases hki : k < ids.length
    · have hidk : ids[k]? = some ids[k] := List.getElem?_eq_getElem hki
      have hρ : ρof ids H.length k = ids[k] := by simp [ρof, hki]
      rw [hρ, hβold _ (fun h => by have := hDlt _ (hDids _ (List.getElem_mem hki)); omega)]
      obtain ⟨b0, hb0⟩ := hK.def _ (hDids _ (List.getElem_mem hki))
      have := hst.ext k b0 (by rw [hcx.β k _ hidk]; exact hb0)
      rw [hb] at this; cases this
      exact hb0
    · have hρ : ρof ids H.length k = H.length + (k - ids.length) := by simp [ρof, hki]
      rw [hρ, hβnew _ ⟨by omega, by omega⟩]
      rw [show H.length + (k - ids.length) - H.length + ids.length = k by omega]
      exact hb
  have hK2N : ∀ b, K2.N b → tr b ∨ K.w.heap.size ≤ b := fun b hb => hst.nn b hb
  have hrores : bs = [] → ∀ b, RoOK K2 b → RoOK K' b := by
    intro hbs b ⟨hn, hr⟩
    rw [hst.R, hst.B] at hr
    refine ⟨?_, ?_⟩
    · rintro (⟨h1, h2, h3⟩ | h1)
      · rcases hr with (h4 | h4 | h4) | h4
        · exact h4 hbs
        · exact h4.1 h1
        · exact h2 h4
        · have h4' : K.w.heap.size ≤ b := h4
          omega
      · exact hn h1
    · rcases hr with (h4 | h4 | h4) | h4
      · exact absurd hbs h4
      · exact h4.2
      · exact (htrN b h4).2
      · have h4' : K.w.heap.size ≤ b := h4
        right; show K.B ≤ b; have := hK.low; omega
  have hsel : ∀ (u : V), NoRO u ∨ bs = [] → ((∀ b, RoOK K2 b → RoOK K' b) ∨ NoRO u) := fun u h => by
    rcases h with h | h
    · exact .inr h
    · exact .inl (hrores h)
  have hbsOr : NoRO r ∧ NoROH Hout ∨ bs = [] := by
    by_cases hb : bs = []
    · exact .inr hb
    · exact .inl (hro hb)
  have hOwnc : ∀ b, OwnD Kc (kap (Hin.map some)) b → tr b := fun b ⟨k, _, hb⟩ => by
    obtain ⟨id, hid, hb⟩ := hβc k b hb
    exact ⟨id, List.mem_of_getElem? hid, hb⟩
  have hstep : Step K H D K' (putBack H (ρof ids H.length) ids Hout) (Dn D H (putBack H (ρof ids H.length) ids Hout)) := by
    refine ⟨rfl, rfl, hst.os, hst.tape, hst.output, hst.size, by rw [hlen']; omega, ?_, ?_, ?_, fun b hb hlt hno => .inl ⟨hb, fun ⟨i, hi, hib⟩ => hno ⟨i, hDids i hi, hib⟩, hlt⟩, ?_, ?_, hst.shape⟩
    · intro i b hb
      by_cases hi : H.length ≤ i ∧ i < H.length + (Hout.length - ids.length)
      · rw [hinR i hi.1 hi.2] at hb; cases hb
      · rw [hβold i hi]; exact hb
    · intro i b hb
      by_cases hi : H.length ≤ i ∧ i < H.length + (Hout.length - ids.length)
      · rw [hβnew i hi] at hb
        refine .inr ⟨hinR i hi.1 hi.2, hi.1, by rw [hlen']; exact hi.2, ?_⟩
        rcases hst.new _ b hb with h1 | ⟨_, _, _, h3⟩
        · exfalso
          obtain ⟨id, hid, _⟩ := hβc _ b h1
          have := (List.getElem?_eq_some_iff.1 hid).1
          omega
        · rcases h3 with h3 | h3
          · exact .inl h3
          · obtain ⟨j, hj, hjb⟩ := hOwnc b h3
            exact .inr ⟨j, hDids j hj, hjb⟩
      · rw [hβold i hi] at hb; exact .inl hb
    · rintro b (⟨h1, _, _⟩ | h1)
      · exact .inl h1
      · rcases hK2N b h1 with h1 | h1
        · exact .inl (htrN b h1).1
        · exact .inr h1
    · rintro i ⟨h1, h2⟩
      rcases h1 with h1 | h1
      · exact .inl h1
      · have := h2.lt
        exact .inr ⟨hfresh i h1 this, h1, this⟩
    · intro b hb hno
      exact hst.frame b hb fun ho => hno (by obtain ⟨j, hj, hjb⟩ := hOwnc b ho; exact ⟨j, hDids j hj, hjb⟩)
  have hown2 : ∀ k b, kap Hout k → K2.β k = some b → tr b ∨ K.w.heap.size ≤ b := by
    intro k b hk hb
    rcases hst.own (fun i hi => by obtain ⟨b, _, hb, _⟩ := hKc.blk i hi; exact ⟨b, hb⟩) b ⟨k, hk, hb⟩ with h1 | h1
    · exact .inl (hOwnc b h1)
    · exact .inr h1
  -- what each live block of the caller is, behind the call
  have hcases : ∀ i, Dn D H (putBack H (ρof ids H.length) ids Hout) i →
      (D i ∧ i ∉ ids ∧ i < H.length) ∨ ∃ k, kap Hout k ∧ i = ρof ids H.length k ∧ (putBack H (ρof ids H.length) ids Hout)[i]? = (Hout[k]?).map (Option.map (renL (ρof ids H.length))) := by
    rintro i ⟨h1, h2⟩
    by_cases hi : i < H.length
    · have hDi : D i := by rcases h1 with h1 | h1; · exact h1
                           · omega
      by_cases hid : i ∈ ids
      · right
        obtain ⟨k, hk⟩ := List.getElem?_of_mem hid
        have hklt := (List.getElem?_eq_some_iff.1 hk).1
        have hp := putBack_ids (ρof ids H.length) ids H Hout k i hnd hk hi
        have hkO : Hout[k]? = some (Hout.getD k none) := by
          rw [List.getD_eq_getElem?_getD, List.getElem?_eq_getElem (by omega)]; rfl
        refine ⟨k, ?_, by simp only [ρof, hklt, if_true, List.getD_eq_getElem?_getD, hk, Option.getD_some], by rw [hp, hkO]; rfl⟩
        obtain ⟨cells, hcells⟩ := h2
        rw [hp] at hcells
        cases ho : Hout.getD k none with
        | none => rw [ho] at hcells; simp at hcells
        | some cs => exact ⟨cs, by rw [hkO, ho]⟩
      · exact .inl ⟨hDi, hid, hi⟩
    · right
      have hlt := h2.lt
      rw [hlen'] at hlt
      have hp := putBack_new (ρof ids H.length) ids H Hout (i - H.length)
      rw [show H.length + (i - H.length) = i by omega] at hp
      refine ⟨ids.length + (i - H.length), ?_, ?_, hp⟩
      · obtain ⟨cells, hcells⟩ := h2
        rw [hp] at hcells
        cases ho : Hout[ids.length + (i - H.length)]? with
        | none => rw [ho] at hcells; simp at hcells
        | some o =>
          rw [ho] at hcells
          cases o with
          | none => simp at hcells
          | some cs => exact ⟨cs, ho⟩
      · have : ¬ (ids.length + (i - H.length) < ids.length) := by omega
        simp only [ρof, this, if_false]
        omega
  refine ⟨c, K', rfl, rfl, ⟨?_, ?_, ?_, ?_⟩, hstep, ren_rep hβren rfl r c (hsel r (hbsOr.imp (·.1) id)) hrep⟩
  · intro i j b hi hj hbi hbj
    rcases hcases i hi with ⟨h1, h2, h3⟩ | ⟨k, hk, rfl, _⟩ <;> rcases hcases j hj with ⟨h4, h5, h6⟩ | ⟨l, hl, rfl, _⟩
    · rw [hβold i (by omega)] at hbi; rw [hβold j (by omega)] at hbj
      exact hK.inj i j b h1 h4 hbi hbj
    · exfalso
      rw [hβold i (by omega)] at hbi
      obtain ⟨b', _, hb', _, C0, _, _, _, _⟩ := hOK2.blk l hl
      have := hβren l b' hb'
      rw [hbj] at this; cases this
      rcases hown2 l b hl hb' with ⟨q, hq, hqb⟩ | hge
      · exact h2 (hK.inj q i b (hDids q hq) h1 hqb hbi ▸ hq)
      · obtain ⟨b0, _, hb0, _, C1, e1, lo1, up1, hC1, _⟩ := hK.blk i h1
        rw [hbi] at hb0; cases hb0
        have := (Array.getElem?_eq_some_iff.1 hC1).1
        omega
    · exfalso
      rw [hβold j (by omega)] at hbj
      obtain ⟨b', _, hb', _⟩ := hOK2.blk k hk
      have := hβren k b' hb'
      rw [hbi] at this; cases this
      rcases hown2 k b hk hb' with ⟨q, hq, hqb⟩ | hge
      · exact h5 (hK.inj q j b (hDids q hq) h4 hqb hbj ▸ hq)
      · obtain ⟨b0, _, hb0, _, C1, e1, lo1, up1, hC1, _⟩ := hK.blk j h4
        rw [hbj] at hb0; cases hb0
        have := (Array.getElem?_eq_some_iff.1 hC1).1
        omega
    · obtain ⟨b1, _, hb1, _⟩ := hOK2.blk k hk
      obtain ⟨b2, _, hb2, _⟩ := hOK2.blk l hl
      have e1 := hβren k b1 hb1
      have e2 := hβren l b2 hb2
      rw [hbi] at e1; cases e1
      rw [hbj] at e2; cases e2
      rw [hOK2.inj k l b hk hl hb1 hb2]
  · intro i hi
    rcases hcases i hi with ⟨h1, h2, h3⟩ | ⟨k, hk, rfl, hp⟩
    · obtain ⟨b, cells, hb, hH, hok⟩ := hK.blk i h1
      refine ⟨b, cells, by rw [hβold i (by omega)]; exact hb, by rw [putBack_old _ ids H Hout i h2 h3]; exact hH, hok.pres (hstep.pres hK) (hst.frame b ?_ fun ho => ?_)⟩
      · obtain ⟨C1, e1, lo1, up1, hC1, _⟩ := hok
        exact (Array.getElem?_eq_some_iff.1 hC1).1
      · obtain ⟨q, hq, hqb⟩ := hOwnc b ho
        exact h2 (hK.inj q i b (hDids q hq) h1 hqb hb ▸ hq)
    · obtain ⟨b, cells, hb, hH, hok⟩ := hOK2.blk k hk
      refine ⟨b, renL (ρof ids H.length) cells, hβren k b hb, by rw [hp, hH]; rfl, blk_ren hβren rfl ?_ hok⟩
      rcases hbsOr with h | h
      · exact .inr (h.2 k cells hH)
      · exact .inl (hrores h)
  · intro i b hi hb
    rcases hcases i hi with ⟨h1, h2, h3⟩ | ⟨k, hk, rfl, hp⟩
    · rw [hβold i (by omega)] at hb
      refine ⟨.inl ⟨(hK.own i b h1 hb).1, ?_, ?_⟩, (hK.own i b h1 hb).2⟩
      · rintro ⟨q, hq, hqb⟩
        exact h2 (hK.inj q i b (hDids q hq) h1 hqb hb ▸ hq)
      · obtain ⟨b0, _, hb0, _, C1, e1, lo1, up1, hC1, _⟩ := hK.blk i h1
        rw [hb] at hb0; cases hb0
        exact (Array.getElem?_eq_some_iff.1 hC1).1
    · obtain ⟨b0, _, hb0, _⟩ := hOK2.blk k hk
      have := hβren k b0 hb0
      rw [hb] at this; cases this
      refine ⟨.inr (hOK2.own k b hk hb0).1, ?_⟩
      rcases hown2 k b hk hb0 with h | h
      · exact (htrN b h).2
      · right; show K.B ≤ b; have := hK.low; omega
  · show K.B ≤ K2.w.heap.size
    have := hst.size
    have := hK.low
    have h3 : Kc.w.heap.size = K.w.heap.size := rfl
    omega
end Go.Proofs.YtfpoebmihjbknaaGreat.VA

/- What an operation of 'VA' does to the abstract memory; one step of a walk. -/
set_option linter.unusedVariables false
set_option linter.unusedSimpArgs false
namespace Go.Proofs.YtfpoebmihjbknaaGreat.VA
open Go
def HeapStep (H H' : Heap) (W : List Nat) : Prop :=
  H' = H ∨ (∃ x, H' = H ++ [x]) ∨ (∃ id x, id ∈ W ∧ LiveId H id ∧ H' = H.set id (some x)) ∨ (∃ id x, id ∈ W ∧ LiveId H id ∧ H' = H.set id none ++ [x])
theorem live_blk {H : Heap} {id : Nat} {cells : List V} (h : blkAt H id = some cells) : LiveId H id := ⟨cells, blkAt_iff.1 h⟩
theorem evOp_heap {S : List V} {H : Heap} {ao : AOp} {v : V} {H' : Heap} (he : evOp S H ao = some (v, H')) : HeapStep H H' (wrOp S ao) := by
  cases ao with
  | alloc zs => simp only [evOp] at he; cases he; exact .inr (.inl ⟨_, rfl⟩)
  | box x => simp only [evOp] at he; split at he <;> cases he; exact .inr (.inl ⟨_, rfl⟩)
  | buildSl sz n zs ps => simp only [evOp] at he; split at he <;> cases he; exact .inr (.inl ⟨_, rfl⟩)
  | toBytes x => simp only [evOp] at he; repeat' (split at he)
                 all_goals (first | (cases he; done) | (cases he; exact .inr (.inl ⟨_, rfl⟩)))
  | mkSl sz b zs l c => simp only [evOp] at he; repeat' (split at he)
                        all_goals (first | (cases he; done) | (cases he; exact .inr (.inl ⟨_, rfl⟩)))
  | growN sz b zs l c =>
    simp only [evOp] at he; repeat' (split at he)
    all_goals (first | (cases he; done) | (cases he; exact .inr (.inl ⟨_, rfl⟩)))
  | store n x y =>
    simp only [evOp] at he
    split at he
    · rename_i id off l hx hy
      split at he
      · rename_i cells hb
        split at he
        · cases he
          exact .inr (.inr (.inl ⟨id, _, by simp [wrOp, hx, idV], live_blk hb, rfl⟩))
        · cases he
      · cases he
    · cases he
  | append sz b x y =>
    simp only [evOp] at he
    split at he
    · split at he
      · repeat' (split at he)
        all_goals (first | (cases he; done) | (cases he; exact .inl rfl) | (cases he; exact .inr (.inl ⟨_, rfl⟩)))
      · rename_i id off n sz' hx
        split at he
        · rename_i cells hb
          split at he
          · cases he
            exact .inr (.inr (.inr ⟨id, _, by simp [wrOp, hx, idV], live_blk hb, rfl⟩))
          · cases he
        · cases he
      · cases he
    · cases he
  | copy sz x y =>
    simp only [evOp] at he
    split at he
    · rename_i m ys id off n sz' hy hx
      split at he
      · rename_i cells hb
        split at he
        · cases he
          exact .inr (.inr (.inl ⟨id, _, by simp [wrOp, hx, idV], live_blk hb, rfl⟩))
        · cases he
      · cases he
    · cases he
  | zap sz zs x =>
    simp only [evOp] at he
    split at he
    · cases he; exact .inl rfl
    · rename_i id off n sz' hx
      split at he
      · rename_i cells hb
        split at he
        · cases he
          exact .inr (.inr (.inl ⟨id, _, by simp [wrOp, hx, idV], live_blk hb, rfl⟩))
        · cases he
      · cases he
    · cases he
  | call f args => simp [evOp] at he
  | callv f args => simp [evOp] at he
  | ext f args => simp [evOp] at he
  | _ =>
    left
    simp only [evOp] at he
    repeat' (split at he)
    all_goals (first | (cases he; done) | (cases he; rfl) | (simp only [Option.map_eq_some_iff] at he; obtain ⟨_, _, he⟩ := he; cases he; rfl))
theorem HeapStep.len {H H' : Heap} {W : List Nat} (h : HeapStep H H' W) : H.length ≤ H'.length := by
  rcases h with rfl | ⟨x, rfl⟩ | ⟨id, x, _, _, rfl⟩ | ⟨id, x, _, _, rfl⟩ <;> simp
theorem HeapStep.live {H H' : Heap} {W : List Nat} (h : HeapStep H H' W) (i : Nat) (hi : i < H.length) (hl : LiveId H' i) : LiveId H i := by
  rcases h with rfl | ⟨x, rfl⟩ | ⟨id, x, _, hid, rfl⟩ | ⟨id, x, _, hid, rfl⟩
  · exact hl
  · obtain ⟨c, hc⟩ := hl; rw [List.getElem?_append_left hi] at hc; exact ⟨c, hc⟩
  · by_cases he : id = i
    · subst he; exact hid
    · obtain ⟨c, hc⟩ := hl; rw [List.getElem?_set_ne he] at hc; exact ⟨c, hc⟩
  · by_cases he : id = i
    · subst he; exact hid
    · obtain ⟨c, hc⟩ := hl; rw [List.getElem?_append_left (by simpa using hi), List.getElem?_set_ne he] at hc; exact ⟨c, hc⟩
theorem HeapStep.keep {H H' : Heap} {W : List Nat} (h : HeapStep H H' W) (i : Nat) (hi : i < H.length) (hw : i ∉ W) : H'[i]? = H[i]? := by
  rcases h with rfl | ⟨x, rfl⟩ | ⟨id, x, hid, _, rfl⟩ | ⟨id, x, hid, _, rfl⟩
  · rfl
  · rw [List.getElem?_append_left hi]
  · rw [List.getElem?_set_ne (fun he => hw (by rw [← he]; exact hid))]
  · rw [List.getElem?_append_left (by simpa using hi), List.getElem?_set_ne (fun he => hw (by rw [← he]; exact hid))]
theorem slCells_live {H : Heap} {sz : Nat} {v : V} {r : Nat × List V} (h : slCells H sz v = some r) : ∀ i ∈ idV v, LiveId H i := by
  unfold slCells at h
  split at h
  · simp [idV]
  · simp [idV]
  · rename_i id off n sz'
    split at h
    · rename_i cells hb
      intro i hi; simp only [idV, List.mem_singleton] at hi; subst hi; exact live_blk hb
    · cases h
  · cases h
theorem srcCells_live {H : Heap} {sz : Nat} {v : V} {r : Nat × List V} (h : srcCells H sz v = some r) : ∀ i ∈ idV v, LiveId H i := by
  unfold srcCells at h
  split at h
  · simp [idV]
  · exact slCells_live h
theorem evOp_foot {S : List V} {H : Heap} {ao : AOp} {v : V} {H' : Heap} (he : evOp S H ao = some (v, H')) : ∀ i ∈ footOp S ao, LiveId H i := by
  cases ao with
  | load k x =>
    simp only [evOp] at he; simp only [footOp]
    split at he
    · rename_i id off hx
      rw [hx]
      split at he
      · rename_i cells hb
        intro i hi; simp only [idV, List.mem_singleton] at hi; subst hi; exact live_blk hb
      · cases he
    · rename_i cs hx; rw [hx]; simp [idV]
    · cases he
  | store n x y =>
    simp only [evOp] at he; simp only [footOp]
    split at he
    · rename_i id off l hx hy
      rw [hx]
      split at he
      · rename_i cells hb
        intro i hi; simp only [idV, List.mem_singleton] at hi; subst hi; exact live_blk hb
      · cases he
    · cases he
  | mark x =>
    simp only [evOp] at he; simp only [footOp]
    split at he
    · rename_i id off n sz hx
      rw [hx]
      split at he
      · rename_i cells hb
        intro i hi; simp only [idV, List.mem_singleton] at hi; subst hi; exact live_blk hb
      · cases he
    · cases he
  | toStr x =>
    simp only [evOp] at he; simp only [footOp]
    split at he
    · rename_i n cs hx; exact slCells_live hx
    · cases he
  | sliceArr n sz x lo hi =>
    simp only [evOp] at he; simp only [footOp]
    split at he
    · split at he
      · split at he
        · rename_i id off hx
          rw [hx]
          split at he
          · rename_i cells hb
            intro i hi; simp only [idV, List.mem_singleton] at hi; subst hi; exact live_blk hb
          · cases he
        · rename_i cs hx; rw [hx]; simp [idV]
        · cases he
      · cases he
    · cases he
  | append sz b x y =>
    simp only [evOp] at he; simp only [footOp, List.mem_append]
    split at he
    · rename_i m ys hy
      intro i hi
      rcases hi with hi | hi
      · split at he
        · rename_i hx; rw [hx] at hi; simp [idV] at hi
        · rename_i id off n sz' hx
          rw [hx] at hi
          split at he
          · rename_i cells hb
            simp only [idV, List.mem_singleton] at hi; subst hi; exact live_blk hb
          · cases he
        · cases he
      · exact srcCells_live hy i hi
    · cases he
  | copy sz x y =>
    simp only [evOp] at he; simp only [footOp, List.mem_append]
    split at he
    · rename_i m ys id off n sz' hy hx
      intro i hi
      rcases hi with hi | hi
      · rw [hx] at hi
        split at he
        · rename_i cells hb
          simp only [idV, List.mem_singleton] at hi; subst hi; exact live_blk hb
        · cases he
      · exact srcCells_live hy i hi
    · cases he
  | zap sz zs x =>
    simp only [evOp] at he; simp only [footOp]
    split at he
    · rename_i hx; rw [hx]; simp [idV]
    · rename_i id off n sz' hx
      rw [hx]
      split at he
      · rename_i cells hb
        intro i hi; simp only [idV, List.mem_singleton] at hi; subst hi; exact live_blk hb
      · cases he
    · cases he
  | _ => simp [footOp]
theorem wr_foot (S : List V) (ao : AOp) : ∀ i ∈ wrOp S ao, i ∈ footOp S ao := by
  cases ao <;> simp [wrOp, footOp]
  all_goals (intro i hi; exact .inl hi)
structure EvFacts (H H' : Heap) (F W : List Nat) : Prop where
  len : H.length ≤ H'.length
  live : ∀ i, i < H.length → LiveId H' i → LiveId H i
  keep : ∀ i, i < H.length → i ∉ W → H'[i]? = H[i]?
  foot : ∀ i ∈ F, LiveId H i
  wf : ∀ i ∈ W, i ∈ F
theorem call_facts {P : Program} {f : Nat} {H : Heap} {args : List V} {v : V} {H' : Heap} {F W : List Nat} (h : CallRel P f H args v H' F W) : EvFacts H H' F W := by
  obtain ⟨ids, bs, args', Hin, r, Hout, hC, hnd, hlen, hle, hin, hnamed, hbsin, hrel, hro, rfl, rfl, rfl, hWW⟩ := h
  subst hWW
  have hids : ∀ i ∈ W, LiveId H i := fun i hi => by
    obtain ⟨k, hk⟩ := List.getElem?_of_mem hi
    obtain ⟨cells, _, _, hb, _⟩ := hin k i hk
    exact live_blk hb
  refine ⟨by rw [putBack_len]; omega, fun i hi hl => ?_, fun i hi hw => putBack_old _ W H Hout i hw hi, fun i hi => ?_, fun i hi => by simp [hi]⟩
  · by_cases hw : i ∈ W
    · exact hids i hw
    · obtain ⟨c, hc⟩ := hl
      rw [putBack_old _ W H Hout i hw hi] at hc
      exact ⟨c, hc⟩
  · rcases List.mem_append.1 hi with hi | hi
    · exact hids i hi
    · obtain ⟨_, cells, hb⟩ := hbsin i hi
      exact live_blk hb
theorem ev_facts {P : Program} {S : List V} {H : Heap} {ao : AOp} {v : V} {H' : Heap} {F W : List Nat} (h : EvOp P S H ao v H' F W) : EvFacts H H' F W := by
  have hplain : evOp S H ao = some (v, H') ∧ F = footOp S ao ∧ W = wrOp S ao → EvFacts H H' F W := by
    rintro ⟨he, rfl, rfl⟩
    have hs := evOp_heap he
    exact ⟨hs.len, hs.live, hs.keep, evOp_foot he, wr_foot S ao⟩
  cases ao with
  | call f args =>
    simp only [EvOp] at h
    exact call_facts h
  | callv f args =>
    simp only [EvOp] at h
    split at h
    · exact call_facts h.2
    · exact h.elim
  | ext f args =>
    simp only [EvOp] at h
    obtain ⟨_, rfl, rfl, rfl⟩ := h
    exact ⟨Nat.le_refl _, fun _ _ h => h, fun _ _ _ => rfl, (fun i hi => by cases hi), (fun i hi => by cases hi)⟩
  | _ => exact hplain h
mutual
theorem ids_def {K : Cx} : ∀ (v : V) (c : Value), Rep K v c → ∀ i ∈ idsIn v, ∃ b, K.β i = some b
  | .sc v, c, hr, i, hi => by simp [idsIn] at hi
  | .agg cs, c, hr, i, hi => by
    simp only [Rep] at hr; obtain ⟨l, _, hr⟩ := hr
    exact idsL_def cs l (RepO.iff.1 hr).1 i (by simpa [idsIn] using hi)
  | .tup vs, c, hr, i, hi => by
    simp only [Rep] at hr; obtain ⟨l, _, hr⟩ := hr
    exact idsL_def vs l hr i (by simpa [idsIn] using hi)
  | .sl n cs, c, hr, i, hi => by simp [idsIn] at hi
  | .box cs, c, hr, i, hi => by simp [idsIn] at hi
  | .ref id off, c, hr, i, hi => by
    simp only [Rep] at hr; obtain ⟨b, hb, _⟩ := hr
    simp only [idsIn, List.mem_singleton] at hi; subst hi; exact ⟨b, hb⟩
  | .sref id off n sz, c, hr, i, hi => by
    simp only [Rep] at hr; obtain ⟨b, _, _, hb, _⟩ := hr
    simp only [idsIn, List.mem_singleton] at hi; subst hi; exact ⟨b, hb⟩
  | .fn f caps, c, hr, i, hi => by
    simp only [Rep] at hr; obtain ⟨l, _, hr⟩ := hr
    exact idsL_def caps l hr i (by simpa [idsIn] using hi)
  | .dead, c, hr, i, hi => by simp [idsIn] at hi
theorem idsL_def {K : Cx} : ∀ (vs : List V) (l : List Value), RepL K vs l → ∀ i ∈ idsInL vs, ∃ b, K.β i = some b
  | [], l, hr, i, hi => by simp [idsInL] at hi
  | v :: vs, l, hr, i, hi => by
    simp only [RepL] at hr; obtain ⟨c, l', _, h1, h2⟩ := hr
    simp only [idsInL, List.mem_append] at hi
    rcases hi with hi | hi
    · exact ids_def v c h1 i hi
    · exact idsL_def vs l' h2 i hi
end
theorem idsInL_mem {i : Nat} : ∀ {vs : List V}, i ∈ idsInL vs → ∃ v ∈ vs, i ∈ idsIn v
  | [], h => by simp [idsInL] at h
  | v :: vs, h => by
    simp only [idsInL, List.mem_append] at h
    rcases h with h | h
    · exact ⟨v, by simp, h⟩
    · obtain ⟨u, hu, hi⟩ := idsInL_mem h
      exact ⟨u, by simp [hu], hi⟩
theorem call_def {P : Program} {f : Nat} {H : Heap} {args : List V} {v : V} {H' : Heap} {F W : List Nat} (h : CallRel P f H args v H' F W) {K : Cx} {l : List Value} (hargs : RepL K args l)
    (hcells : ∀ i ∈ F, (∃ b, K.β i = some b) → ∃ b cells, K.β i = some b ∧ H[i]? = some (some cells) ∧ BlkOK K b cells) : ∀ i ∈ F, ∃ b, K.β i = some b := by
  obtain ⟨ids, bs, args', Hin, r, Hout, hC, hnd, hlen, hle, hin, hnamed, hbsin, hrel, hro, rfl, rfl, rfl, hWW⟩ := h
  have hids : ∀ (n k : Nat), k < n → ∀ i, ids[k]? = some i → ∃ b, K.β i = some b := by
    intro n
    induction n with
    | zero => intro k hk; omega
    | succ n ih =>
      intro k hk i hi
      rcases hnamed k i hi with h1 | ⟨k', id', cells, hlt, hk', hb, hm⟩
      · exact idsL_def args l hargs i h1
      · have hdef := ih k' (by omega) id' hk'
        obtain ⟨b, cells', hb', hH, C, e, lo, up, _, _, _, _, hcc⟩ := hcells id' (by simp [List.mem_of_getElem? hk']) hdef
        rw [blkAt_iff, hH] at hb; cases hb
        obtain ⟨u, hu, hiu⟩ := idsInL_mem hm
        obtain ⟨j, hj⟩ := List.getElem?_of_mem hu
        obtain ⟨c, _, hr⟩ := hcc j u hj
        exact ids_def u c hr i hiu
  intro i hi
  rcases List.mem_append.1 hi with hi | hi
  · obtain ⟨k, hk⟩ := List.getElem?_of_mem hi
    exact hids (k + 1) k (by omega) i hk
  · rcases (hbsin i hi).1 with h1 | ⟨id', hid', h1, cells, hb, hm⟩
    · exact idsL_def args l hargs i h1
    · have hdef := idsL_def args l hargs id' h1
      obtain ⟨b, cells', hb', hH, C, e, lo, up, _, _, _, _, hcc⟩ := hcells id' (by simp [hid']) hdef
      rw [blkAt_iff, hH] at hb; cases hb
      obtain ⟨u, hu, hiu⟩ := idsInL_mem hm
      obtain ⟨j, hj⟩ := List.getElem?_of_mem hu
      obtain ⟨c, _, hr⟩ := hcc j u hj
      exact ids_def u c hr i hiu
theorem idV_def {K : Cx} {v : V} {c : Value} (h : Rep K v c) : ∀ i ∈ idV v, ∃ b, K.β i = some b := by
  cases v with
  | ref id off => intro i hi; exact ids_def _ _ h i (by simpa [idV, idsIn] using hi)
  | sref id off n sz => intro i hi; exact ids_def _ _ h i (by simpa [idV, idsIn] using hi)
  | _ => intro i hi; simp [idV] at hi
def isCall : AOp → Bool
  | .call _ _ => true
  | .callv _ _ => true
  | .ext _ _ => true
  | _ => false
theorem cBuiltin_noCall {P : Program} {args : Array Operand} {tys : Array TypeId} {b : Builtin} {ao : AOp} (hc : cBuiltin P args tys b = some ao) : isCall ao = false := by
  unfold cBuiltin at hc
  split at hc
  all_goals (repeat' (first | (split at hc) | (simp only [Option.map_eq_some_iff, Option.bind_eq_bind, Option.bind_eq_some_iff, Option.pure_def, Option.some.injEq, reduceCtorEq] at hc) | (obtain ⟨_, _, hc⟩ := hc)))
  all_goals first | rfl | (subst hc; rfl)
theorem cOp_noCall {P : Program} {op : Op} {ao : AOp} (hc : cOp P op = some ao) (hop : ∀ c, op ≠ .call c) : isCall ao = false := by
  unfold cOp at hc
  split at hc
  all_goals (try (exact absurd rfl (hop _)))
  all_goals (repeat' (first | (split at hc) | (simp only [Option.map_eq_some_iff, Option.bind_eq_bind, Option.bind_eq_some_iff, Option.pure_def, Option.some.injEq, reduceCtorEq, cEqA] at hc) | (obtain ⟨_, _, hc⟩ := hc)))
  all_goals first | rfl | (subst hc; rfl)
theorem EvOp_plain {P : Program} {S : List V} {H : Heap} {ao : AOp} {v : V} {H' : Heap} {F W : List Nat} (h : isCall ao = false) (he : EvOp P S H ao v H' F W) : evOp S H ao = some (v, H') ∧ F = footOp S ao ∧ W = wrOp S ao := by
  cases ao <;> first | (simp [isCall] at h; done) | exact he
theorem op_step {P : Program} {o : Oper} {ao : AOp} (hc : cOp P o.op = some ao) {S : List V} {H : Heap} {v : V} {H' : Heap} {F W : List Nat} (he : EvOp P S H ao v H' F W) {K : Cx} {D : Nat → Prop} {a : Act}
    (hK : HeapOK K H D) (hfresh : ∀ i, H.length ≤ i → i < H'.length → K.β i = none) (hF : ∀ i ∈ F, D i) (hS : ∀ x ∈ o.op.operands.toList, OnOd K S a x)
    {next : Act → World → Prop} {Q : Exit → Act → World → Prop}
    (hn : ∀ c K', HeapOK K' H' (Dn D H H') → Step K H D K' H' (Dn D H H') → Rep K' v c → next (a.put o.dst c) K'.w) : o.wp P a K.w next Q := by
  have hplain : isCall ao = false → o.wp P a K.w next Q := by
    intro hnc
    obtain ⟨he1, rfl, rfl⟩ := EvOp_plain hnc he
    obtain ⟨n, c, K', hrun, hnc, hOK, hst, hrep⟩ := op_sound hc he1 rfl hK hfresh hF hS
    unfold Oper.wp
    rw [hrun]
    rcases hnc with rfl | ⟨rfl, rfl⟩
    · exact hn c K' hOK hst hrep
    · exact hn undef K' hOK hst hrep
  have hcall : ∀ (g : Nat) (args : List V) (vs : List Value), CallRel P g H args v H' F W → RepL K args vs → (execOp a.eval o).run P K.w = .ok (.enter g vs.toArray) K.w → o.wp P a K.w next Q := by
    intro g args vs hrel hargs hrun
    unfold Oper.wp
    rw [hrun]
    refine (call_sound hrel hK hfresh hF hargs).mono ?_
    rintro e w' ⟨c, K', rfl, rfl, hOK, hst, hrep⟩
    exact hn c K' hOK hst hrep
  have callable : ∀ {g : Nat}, Callable P g = true → ∀ (args : Array Value) (w : World), (callFunc g args).run P w = .ok (.enter g args) w := by
    intro g hg args w
    unfold Callable at hg
    split at hg
    · rename_i fn hfn
      simp only [Bool.and_eq_true, bne_iff_ne, ne_eq] at hg
      have h1 : (fn.name == "runtime.NumGoroutine") = false := by simpa using hg.1
      have h2 : fn.body.isNone = false := by cases hb : fn.body <;> simp_all
      simp only [callFunc, Sem.run_bind, run_program, Result.andThen_ok, hfn, h1, h2, Bool.false_eq_true, if_false, Sem.run_pure]
    · cases hg
  by_cases hop : ∃ c, o.op = .call c
  · obtain ⟨c, ho⟩ := hop
    rw [ho] at hc hS
    obtain ⟨callee, args, tys⟩ := c
    have hx : ∀ x ∈ args.toList, OnOd K S a x := fun x hx => hS x (by
      simp only [Op.operands, Call.operands, Array.toList_append, List.mem_append]; exact .inr hx)
    have hargs : (args.map a.eval) = (args.toList.map a.eval).toArray := by apply Array.ext'; simp
    simp only [cOp, cCall] at hc
    split at hc
    · exact hplain (cBuiltin_noCall hc)
    · rename_i g
      split at hc
      · rename_i hg
        simp only [Option.bind_eq_bind, Option.bind_eq_some_iff, Option.pure_def, Option.some.injEq] at hc
        obtain ⟨ds, hds, rfl⟩ := hc
        simp only [EvOp] at he
        refine hcall g _ _ he (cOds_rep hds hx) ?_
        unfold execOp; rw [ho]
        simp only [Sem.run_bind, resolve, Act.eval, Deferred.ofValue, Sem.run_pure, Result.andThen_ok, invoke, Array.empty_append, Array.append_empty, callable hg, hargs]
      · split at hc
        · simp only [Option.bind_eq_bind, Option.bind_eq_some_iff, Option.pure_def, Option.some.injEq] at hc
          obtain ⟨ds, hds, rfl⟩ := hc
          simp only [EvOp] at he
          obtain ⟨hrel, rfl, rfl, rfl⟩ := he
          obtain ⟨c, hrun, hrep⟩ := hrel K _ (cOds_rep hds hx)
          have hsame := same_sound hK
          unfold Oper.wp
          have : (execOp a.eval o).run P K.w = .ok (.value c) K.w := by
            unfold execOp; rw [ho]
            simp only [Sem.run_bind, resolve, Act.eval, Deferred.ofValue, Sem.run_pure, Result.andThen_ok, invoke, Array.empty_append, Array.append_empty, hargs, hrun]
          rw [this]
          exact hn c K hsame.1 hsame.2 hrep
        · cases hc
    · rename_i f _
      simp only [Option.bind_eq_bind, Option.bind_eq_some_iff, Option.pure_def, Option.some.injEq] at hc
      obtain ⟨d, hd, ds, hds, rfl⟩ := hc
      simp only [EvOp] at he
      split at he
      · rename_i g caps hv
        have hrf := od_rep hd (hS f (by simp only [Op.operands, Call.operands, Array.toList_append, List.mem_append]; left; simp))
        rw [hv] at hrf
        simp only [Rep] at hrf
        obtain ⟨l, hl, hcaps⟩ := hrf
        have happ : RepL K (ds.map (·.ev S) ++ caps) (args.toList.map a.eval ++ l) := by
          have h1 := cOds_rep hds hx
          refine RepL.mk (by rw [List.length_append, List.length_append, RepL.length h1, RepL.length hcaps]) fun i v c hv hc => ?_
          have hlen := RepL.length h1
          by_cases hi : i < (ds.map (·.ev S)).length
          · rw [List.getElem?_append_left hi] at hv
            rw [List.getElem?_append_left (by omega)] at hc
            obtain ⟨c', hc', hr⟩ := h1.get i v hv
            rw [hc] at hc'; cases hc'; exact hr
          · rw [List.getElem?_append_right (by omega)] at hv
            rw [List.getElem?_append_right (by omega), hlen] at hc
            obtain ⟨c', hc', hr⟩ := hcaps.get _ v hv
            rw [hc] at hc'; cases hc'; exact hr
        refine hcall g _ _ he.2 happ ?_
        unfold execOp; rw [ho]
        simp only [Sem.run_bind, resolve, hl, Deferred.ofValue, Sem.run_pure, Result.andThen_ok, invoke, Array.empty_append, callable he.1, hargs]
        simp
      · exact he.elim
    · cases hc
  · exact hplain (cOp_noCall hc fun c h => hop ⟨c, h⟩)
end Go.Proofs.YtfpoebmihjbknaaGreat.VA

/- The soundness of regions of 'VA': one behind the other. -/
set_option linter.unusedVariables false
set_option linter.unusedSimpArgs false
namespace Go.Proofs.YtfpoebmihjbknaaGreat.VA
open Go
def Sim (B0 : Cx) (Hb : Heap) (S : List V) (H : Heap) (a : Act) (w : World) : Prop :=
  ∃ K : Cx, K.w = w ∧ HeapOK K H (kap H) ∧ (∀ i b, K.β i = some b → i < H.length) ∧ Step B0 Hb (kap Hb) K H (kap H) ∧ S.length = a.tmps.size ∧
    (∀ t, Rep K (S.getD t .dead) (a.tmps.getD t undef)) ∧ a.defers = []
theorem dn_kap {H H' : Heap} (hl : ∀ i, i < H.length → LiveId H' i → LiveId H i) : Dn (kap H) H H' = kap H' := by
  funext i
  refine propext ⟨fun h => h.2, fun h => ⟨?_, h⟩⟩
  by_cases hi : i < H.length
  · exact .inl (hl i hi h)
  · exact .inr (by omega)
theorem put_size (a : Act) (dst : Option Nat) (c : Value) : (a.put dst c).tmps.size = a.tmps.size := by
  cases dst <;> simp [Act.put]
theorem putS_len (S : List V) (dst : Option Nat) (v : V) : (putS S dst v).length = S.length := by
  cases dst <;> simp [putS]
theorem put_get (a : Act) (d : Nat) (c : Value) (t : Nat) : (a.put (some d) c).tmps.getD t undef = if t = d ∧ d < a.tmps.size then c else a.tmps.getD t undef := by
  simp only [Act.put, Array.getD_eq_getD_getElem?]
  by_cases h : t = d
  · subst h
    by_cases h2 : t < a.tmps.size
    · simp [h2, Array.getElem?_setIfInBounds]
    · simp [h2, Array.getElem?_setIfInBounds]
  · rw [Array.getElem?_setIfInBounds_ne (Ne.symm h)]
    simp [h]
theorem putS_get (S : List V) (d : Nat) (v : V) (t : Nat) : (putS S (some d) v).getD t .dead = if t = d ∧ d < S.length then v else S.getD t .dead := by
  simp only [putS, List.getD_eq_getElem?_getD]
  by_cases h : t = d
  · subst h
    by_cases h2 : t < S.length
    · simp [h2]
    · simp [h2]
  · rw [List.getElem?_set_ne (Ne.symm h)]
    simp [h]
theorem put_rel {K K' : Cx} {S : List V} {a : Act} {dst : Option Nat} {v : V} {c : Value} (hp : Pres K K') (hlen : S.length = a.tmps.size) (hs : ∀ t, Rep K (S.getD t .dead) (a.tmps.getD t undef)) (hv : Rep K' v c) :
    ∀ t, Rep K' ((putS S dst v).getD t .dead) ((a.put dst c).tmps.getD t undef) := by
  intro t
  cases dst with
  | none => exact Rep.pres hp _ _ (hs t)
  | some d =>
    rw [putS_get, put_get, hlen]
    by_cases h : t = d ∧ d < a.tmps.size
    · rw [if_pos h, if_pos h]; exact hv
    · rw [if_neg h, if_neg h]; exact Rep.pres hp _ _ (hs t)
theorem put_defers (a : Act) (dst : Option Nat) (c : Value) : (a.put dst c).defers = a.defers := by
  cases dst <;> rfl
theorem sim_step {P : Program} {o : Oper} {ao : AOp} (hc : cOp P o.op = some ao) {S : List V} {H : Heap} {v : V} {H' : Heap} {F W : List Nat} (he : EvOp P S H ao v H' F W) {B0 : Cx} {Hb : Heap} (hdef : ∀ i, kap Hb i → ∃ b, B0.β i = some b) {a : Act} {w : World}
    (hs : Sim B0 Hb S H a w) {next : Act → World → Prop} {Q : Exit → Act → World → Prop} (hn : ∀ c w', Sim B0 Hb (putS S o.dst v) H' (a.put o.dst c) w' → next (a.put o.dst c) w') : o.wp P a w next Q := by
  obtain ⟨K, rfl, hK, hdom, hst, hlen, hsl, hdf⟩ := hs
  have hf := ev_facts he
  refine op_step hc he hK (fun i h1 h2 => ?_) (fun i hi => hf.foot i hi) (fun x hx t ht => hsl t) ?_
  · cases hb : K.β i with
    | none => rfl
    | some b => have := hdom i b hb; omega
  · intro c K' hK' hst' hrep
    rw [dn_kap hf.live] at hK' hst'
    refine hn c K'.w ⟨K', rfl, hK', fun i b hb => ?_, hst.trans hst' hdef, by rw [putS_len, put_size]; exact hlen, put_rel (hst'.pres hK) hlen hsl hrep, by rw [put_defers]; exact hdf⟩
    rcases hst'.new i b hb with h | ⟨_, _, h, _⟩
    · exact Nat.lt_of_lt_of_le (hdom i b h) hf.len
    · exact h
theorem sim_skip {B0 : Cx} {Hb : Heap} {S : List V} {H : Heap} {a : Act} {w : World} (hs : Sim B0 Hb S H a w) (dst : Option Nat) : Sim B0 Hb (putS S dst (.sc undef)) H (a.put dst undef) w := by
  obtain ⟨K, rfl, hK, hdom, hst, hlen, hsl, hdf⟩ := hs
  exact ⟨K, rfl, hK, hdom, hst, by rw [putS_len, put_size]; exact hlen, put_rel ⟨fun _ _ h => h, fun b h _ => ⟨h, rfl⟩, fun b C e fz h => ⟨C, fz, h, rfl⟩⟩ hlen hsl (by simp [Rep]), by rw [put_defers]; exact hdf⟩
theorem undef_bool (b : Bool) : undef ≠ Value.bool b := by
  unfold undef
  intro h; cases h
theorem yielded_of {ops : Array Oper} {a : Act} {j d : Nat} {b : Bool} (hd : (ops[j]?).bind (·.dst) = some d) (h : a.tmps.getD d undef = .bool b) : yielded ops a.tmps j = some b := by
  unfold yielded
  rw [hd]
  simp only [Option.bind_some]
  cases ht : a.tmps[d]? with
  | none =>
    rw [Array.getD_eq_getD_getElem?, ht] at h
    exact absurd h (undef_bool b)
  | some x =>
    rw [Array.getD_eq_getD_getElem?, ht] at h
    simp only [Option.getD_some] at h
    subst h
    rfl
theorem yielded_undef {ops : Array Oper} {a : Act} {j d : Nat} (hd : (ops[j]?).bind (·.dst) = some d) (h : a.tmps.getD d undef = undef) : yielded ops a.tmps j = none := by
  unfold yielded
  rw [hd]
  simp only [Option.bind_some]
  rw [Array.getD_eq_getD_getElem?] at h
  cases hc : a.tmps[d]? with
  | none => rfl
  | some c =>
    rw [hc] at h
    simp only [Option.getD_some] at h
    subst h
    rfl
theorem cGuard_some {ops : Array Oper} {g : Option (Nat × Bool)} {r : Option (Nat × Bool)} (h : cGuard ops g = some r) : (g = none ∧ r = none) ∨ ∃ j want d, g = some (j, want) ∧ (ops[j]?).bind (·.dst) = some d ∧ r = some (d, want) := by
  unfold cGuard at h
  split at h
  · cases h; exact .inl ⟨rfl, rfl⟩
  · rename_i j want
    split at h
    · rename_i d hd
      cases h
      exact .inr ⟨j, want, d, rfl, hd, rfl⟩
    · cases h
theorem cOps_cons {P : Program} {ops : Array Oper} {o : Oper} {os : List Oper} {aos : List AOper} (h : cOps P ops (o :: os) = some aos) :
    ∃ ao g r, cOp P o.op = some ao ∧ cGuard ops o.guard = some g ∧ cOps P ops os = some r ∧ aos = { dst := o.dst, op := ao, guard := g } :: r := by
  simp only [cOps, Option.bind_eq_bind, Option.bind_eq_some_iff, Option.pure_def, Option.some.injEq] at h
  obtain ⟨ao, h1, g, h2, r, h3, rfl⟩ := h
  exact ⟨ao, g, r, h1, h2, h3, rfl⟩
theorem seq_sound {P : Program} {ops : Array Oper} {Q : List V → Heap → List (List Nat × List Nat) → Prop} {Q' : Exit → Act → World → Prop} {B0 : Cx} {Hb : Heap} (hdef : ∀ i, kap Hb i → ∃ b, B0.β i = some b)
    (hQ : ∀ S H FW a w, Sim B0 Hb S H a w → Q S H FW → Q' .normal a w) : ∀ (os : List Oper) (aos : List AOper) (k : Nat), cOps P ops os = some aos → (∀ j, j < os.length → ops[k + j]? = os[j]?) →
    ∀ S H FW a w, Sim B0 Hb S H a w → RunOps P Q aos S H FW → wpOps P ops Q' (List.range' k os.length) a w
  | [], aos, k, hc, hj, S, H, FW, a, w, hs, hr => by
    simp only [cOps] at hc; cases hc
    simp only [RunOps] at hr
    simpa [wpOps] using hQ S H FW a w hs hr
  | o :: os, aos, k, hc, hj, S, H, FW, a, w, hs, hr => by
    obtain ⟨ao, g, r, h1, h2, h3, rfl⟩ := cOps_cons hc
    have hk : ops[k]? = some o := by have := hj 0 (by simp); simpa using this
    have hj' : ∀ j, j < os.length → ops[k + 1 + j]? = os[j]? := fun j hlt => by
      have := hj (j + 1) (by simp; omega)
      rw [show k + (j + 1) = k + 1 + j by omega] at this
      simpa using this
    have ih := seq_sound hdef hQ os r (k + 1) h3 hj'
    rw [List.length_cons, List.range'_succ, wpOps_cons]
    unfold wpOp
    rw [hk]
    simp only [RunOps] at hr
    have hrun : ∀ v H' F W, EvOp P S H ao v H' F W → RunOps P Q r (putS S o.dst v) H' (FW ++ [(F, W)]) → o.wp P a w (wpOps P ops Q' (List.range' (k + 1) os.length)) Q' :=
      fun v H' F W he hr => sim_step h1 he hdef hs fun c w' hs' => ih _ _ _ _ _ hs' hr
    rcases cGuard_some h2 with ⟨hg, rfl⟩ | ⟨j, want, d, hg, hd, rfl⟩
    · simp only [] at hr
      obtain ⟨v, H', F, W, he, hr⟩ := hr
      have hw : Region.wanted o (yielded ops a.tmps) = true := by unfold Region.wanted; rw [hg]
      simp only [hw, if_true]
      exact .inl (hrun v H' F W he hr)
    · simp only [] at hr
      have hslot : ∀ x, S.getD d .dead = .sc x → a.tmps.getD d undef = x := fun x hx => by
        obtain ⟨K, _, _, _, _, _, hsl, _⟩ := hs
        have := hsl d
        rw [hx] at this
        simpa [Rep] using this
      rcases hr with ⟨hb, v, H', F, W, he, hr⟩ | ⟨hb, hr⟩
      · have hw : Region.wanted o (yielded ops a.tmps) = true := by
          unfold Region.wanted; rw [hg]
          simp only [yielded_of hd (hslot _ hb)]
          cases want <;> rfl
        simp only [hw, if_true]
        exact .inl (hrun v H' F W he hr)
      · have hw : Region.wanted o (yielded ops a.tmps) = false := by
          unfold Region.wanted; rw [hg]
          rcases hb with hb | hb
          · simp only [yielded_of hd (hslot _ hb)]
            cases want <;> rfl
          · simp only [yielded_undef hd (hslot _ hb)]
            rfl
        simp only [hw, Bool.false_eq_true, if_false]
        exact ih _ _ _ _ _ (sim_skip hs o.dst) hr
def GuardRun (S : List V) (g : Option (Nat × Bool)) : Prop :=
  match g with
  | none => True
  | some (t, want) => S.getD t .dead = .sc (.bool want)
def GuardSkip (S : List V) (g : Option (Nat × Bool)) : Prop :=
  match g with
  | none => False
  | some (t, want) => S.getD t .dead = .sc (.bool (!want)) ∨ S.getD t .dead = .sc undef
def TStep (P : Program) (Ss : Nat → List V) (Hs : Nat → Heap) (vs : Nat → V) (Fs Ws : Nat → List Nat) (i : Nat) (o : AOper) : Prop :=
  Ss (i + 1) = putS (Ss i) o.dst (vs i) ∧
    ((GuardRun (Ss i) o.guard ∧ EvOp P (Ss i) (Hs i) o.op (vs i) (Hs (i + 1)) (Fs i) (Ws i)) ∨
     (GuardSkip (Ss i) o.guard ∧ vs i = .sc undef ∧ Hs (i + 1) = Hs i ∧ Fs i = [] ∧ Ws i = []))
theorem run_trace {P : Program} {Q : List V → Heap → List (List Nat × List Nat) → Prop} : ∀ (aos : List AOper) (S : List V) (H : Heap) (FW : List (List Nat × List Nat)), RunOps P Q aos S H FW →
    ∃ Ss Hs vs Fs Ws, Ss 0 = S ∧ Hs 0 = H ∧ (∀ i o, aos[i]? = some o → TStep P Ss Hs vs Fs Ws i o) ∧ Q (Ss aos.length) (Hs aos.length) (FW ++ (List.range aos.length).map fun i => (Fs i, Ws i))
  | [], S, H, FW, h => by
    simp only [RunOps] at h
    exact ⟨fun _ => S, fun _ => H, fun _ => .dead, fun _ => [], fun _ => [], rfl, rfl, fun i o ho => by simp at ho, by simpa using h⟩
  | o :: aos, S, H, FW, h => by
    have fin : ∀ (v : V) (H' : Heap) (F W : List Nat), ((GuardRun S o.guard ∧ EvOp P S H o.op v H' F W) ∨ (GuardSkip S o.guard ∧ v = .sc undef ∧ H' = H ∧ F = [] ∧ W = [])) → RunOps P Q aos (putS S o.dst v) H' (FW ++ [(F, W)]) →
        ∃ Ss Hs vs Fs Ws, Ss 0 = S ∧ Hs 0 = H ∧ (∀ i o', (o :: aos)[i]? = some o' → TStep P Ss Hs vs Fs Ws i o') ∧ Q (Ss (o :: aos).length) (Hs (o :: aos).length) (FW ++ (List.range (o :: aos).length).map fun i => (Fs i, Ws i)) := by
      intro v H' F W hst hr
      obtain ⟨Ss, Hs, vs, Fs, Ws, h1, h2, h3, h4⟩ := run_trace aos _ _ _ hr
      refine ⟨fun i => match i with | 0 => S | i + 1 => Ss i, fun i => match i with | 0 => H | i + 1 => Hs i, fun i => match i with | 0 => v | i + 1 => vs i,
        fun i => match i with | 0 => F | i + 1 => Fs i, fun i => match i with | 0 => W | i + 1 => Ws i, rfl, rfl, ?_, ?_⟩
      · intro i o' ho'
        cases i with
        | zero =>
          simp at ho'; subst ho'
          exact ⟨h1, by show (_ ∧ EvOp P S H _ v (Hs 0) F W) ∨ (_ ∧ _ ∧ Hs 0 = H ∧ _); rw [h2]; exact hst⟩
        | succ i => exact h3 i o' (by simpa using ho')
      · simp only [List.length_cons]
        rw [List.range_succ_eq_map]
        simpa [List.map_map, Function.comp_def] using h4
    simp only [RunOps] at h
    cases hg : o.guard with
    | none =>
      rw [hg] at h
      simp only [] at h
      obtain ⟨v, H', F, W, he, hr⟩ := h
      exact fin v H' F W (.inl ⟨by simp [GuardRun, hg], he⟩) hr
    | some q =>
      obtain ⟨t, want⟩ := q
      rw [hg] at h
      simp only [] at h
      rcases h with ⟨hb, v, H', F, W, he, hr⟩ | ⟨hb, hr⟩
      · exact fin v H' F W (.inl ⟨by simp only [GuardRun, hg]; exact hb, he⟩) hr
      · exact fin (.sc undef) H [] [] (.inr ⟨by simp only [GuardSkip, hg]; exact hb, rfl, rfl, rfl, rfl⟩) hr
theorem TStep.facts {P : Program} {Ss : Nat → List V} {Hs : Nat → Heap} {vs : Nat → V} {Fs Ws : Nat → List Nat} {i : Nat} {o : AOper} (h : TStep P Ss Hs vs Fs Ws i o) : EvFacts (Hs i) (Hs (i + 1)) (Fs i) (Ws i) := by
  rcases h.2 with ⟨_, he⟩ | ⟨_, _, h1, h2, h3⟩
  · exact ev_facts he
  · rw [h1, h2, h3]
    exact ⟨Nat.le_refl _, fun _ _ h => h, fun _ _ _ => rfl, (fun i hi => by cases hi), (fun i hi => by cases hi)⟩
def wrK : AOp → Bool
  | .store _ _ _ => true
  | .append _ _ _ _ => true
  | .copy _ _ _ => true
  | .zap _ _ _ => true
  | .call _ _ => true
  | .callv _ _ => true
  | .ext _ _ => true
  | _ => false
def ftK : AOp → Bool
  | .load _ _ => true
  | .store _ _ _ => true
  | .mark _ => true
  | .toStr _ => true
  | .sliceArr _ _ _ _ _ => true
  | .append _ _ _ _ => true
  | .copy _ _ _ => true
  | .zap _ _ _ => true
  | .call _ _ => true
  | .callv _ _ => true
  | .ext _ _ => true
  | _ => false
theorem cOp_wrK {P : Program} {op : Op} {ao : AOp} (hc : cOp P op = some ao) (h : mayWrite op = false) : wrK ao = false := by
  by_cases hop : ∃ c, op = .call c
  · obtain ⟨c, rfl⟩ := hop
    obtain ⟨callee, args, tys⟩ := c
    simp only [cOp, cCall] at hc
    split at hc
    · rename_i b
      unfold cBuiltin at hc
      split at hc
      all_goals (try (simp [mayWrite] at h; done))
      all_goals (repeat' (first | (split at hc) | (simp only [Option.map_eq_some_iff, Option.bind_eq_bind, Option.bind_eq_some_iff, Option.pure_def, Option.some.injEq, reduceCtorEq] at hc) | (obtain ⟨_, _, hc⟩ := hc)))
      all_goals first | rfl | (subst hc; rfl)
    · simp [mayWrite] at h
    · simp [mayWrite] at h
    · cases hc
  · have hop' : ∀ c, op ≠ .call c := fun c h => hop ⟨c, h⟩
    unfold cOp at hc
    split at hc
    all_goals (try (exact absurd rfl (hop' _)))
    all_goals (try (simp [mayWrite] at h; done))
    all_goals (repeat' (first | (split at hc) | (simp only [Option.map_eq_some_iff, Option.bind_eq_bind, Option.bind_eq_some_iff, Option.pure_def, Option.some.injEq, reduceCtorEq, cEqA] at hc) | (obtain ⟨_, _, hc⟩ := hc)))
    all_goals first | rfl | (subst hc; rfl)
theorem cOp_ftK {P : Program} {op : Op} {ao : AOp} (hc : cOp P op = some ao) (h : mayTouch op = false) : ftK ao = false := by
  by_cases hop : ∃ c, op = .call c
  · obtain ⟨c, rfl⟩ := hop
    obtain ⟨callee, args, tys⟩ := c
    simp only [cOp, cCall] at hc
    split at hc
    · rename_i b
      unfold cBuiltin at hc
      split at hc
      all_goals (try (simp [mayTouch] at h; done))
      all_goals (repeat' (first | (split at hc) | (simp only [Option.map_eq_some_iff, Option.bind_eq_bind, Option.bind_eq_some_iff, Option.pure_def, Option.some.injEq, reduceCtorEq] at hc) | (obtain ⟨_, _, hc⟩ := hc)))
      all_goals first | rfl | (subst hc; rfl)
    · simp [mayTouch] at h
    · simp [mayTouch] at h
    · cases hc
  · have hop' : ∀ c, op ≠ .call c := fun c h => hop ⟨c, h⟩
    unfold cOp at hc
    split at hc
    all_goals (try (exact absurd rfl (hop' _)))
    all_goals (try (simp [mayTouch] at h; done))
    all_goals (repeat' (first | (split at hc) | (simp only [Option.map_eq_some_iff, Option.bind_eq_bind, Option.bind_eq_some_iff, Option.pure_def, Option.some.injEq, reduceCtorEq, cEqA] at hc) | (obtain ⟨_, _, hc⟩ := hc)))
    all_goals first | rfl | (subst hc; rfl)
theorem wrK_nil {P : Program} {S : List V} {H : Heap} {ao : AOp} {v : V} {H' : Heap} {F W : List Nat} (he : EvOp P S H ao v H' F W) (h : wrK ao = false) : W = [] := by
  cases ao <;> first | (simp [wrK] at h; done) | (simp only [EvOp] at he; rw [he.2.2]; rfl)
theorem ftK_nil {P : Program} {S : List V} {H : Heap} {ao : AOp} {v : V} {H' : Heap} {F W : List Nat} (he : EvOp P S H ao v H' F W) (h : ftK ao = false) : F = [] := by
  cases ao <;> first | (simp [ftK] at h; done) | (simp only [EvOp] at he; rw [he.2.1]; rfl)
theorem or_fold_bit (f : Edge → Bool) (g : Edge → Nat) : ∀ (es : List Edge) (s : Nat) (i : Nat), (es.foldl (fun s e => if f e then s ||| 2 ^ e.on ||| g e else s) s).testBit i = true →
    s.testBit i = true ∨ ∃ e ∈ es, f e = true ∧ (i = e.on ∨ (g e).testBit i = true)
  | [], s, i, h => .inl h
  | e :: es, s, i, h => by
    simp only [List.foldl_cons] at h
    rcases or_fold_bit f g es _ i h with h | ⟨e', he', h1, h2⟩
    · by_cases hf : f e = true
      · rw [if_pos hf] at h
        simp only [Nat.testBit_or, Bool.or_eq_true, Nat.testBit_two_pow, decide_eq_true_eq] at h
        rcases h with (h | h) | h
        · exact .inl h
        · exact .inr ⟨e, by simp, hf, .inl h.symm⟩
        · exact .inr ⟨e, by simp, hf, .inr h⟩
      · rw [if_neg hf] at h; exact .inl h
    · exact .inr ⟨e', by simp [he'], h1, h2⟩
def Done (l : List Oper) (E : Nat → Prop) (j : Nat) : Prop := ∀ o, l[j]? = some o → ∀ e ∈ o.after.toList, Region.binds .any e = true → E e.on
theorem masks_ok {l : List Oper} {E : Nat → Prop} (hE : ∀ j, E j → Done l E j) : ∀ (os : List Oper) (acc : List Nat), (∀ j, os[j]? = l[acc.length + j]?) →
    (∀ j, j < acc.length → Done l E j → ∀ i, (acc.getD j 0).testBit i = true → E i) → ∀ j, Done l E j → ∀ i, ((masks os acc).getD j 0).testBit i = true → E i
  | [], acc, hos, hacc, j, hj, i, hi => by
    simp only [masks] at hi
    by_cases h : j < acc.length
    · exact hacc j h hj i hi
    · rw [List.getD_eq_getElem?_getD, List.getElem?_eq_none (by omega)] at hi
      simp at hi
  | o :: os, acc, hos, hacc, j, hj, i, hi => by
    simp only [masks] at hi
    refine masks_ok hE os _ ?_ ?_ j hj i hi
    · intro k
      have := hos (k + 1)
      simp only [List.getElem?_cons_succ] at this
      rw [this, List.length_append]
      congr 1; simp; omega
    · intro k hk hdone q hq
      simp only [List.length_append, List.length_cons, List.length_nil] at hk
      by_cases h : k < acc.length
      · rw [List.getD_eq_getElem?_getD, List.getElem?_append_left h, ← List.getD_eq_getElem?_getD] at hq
        exact hacc k h hdone q hq
      · have hkk : k = acc.length := by omega
        subst hkk
        rw [List.getD_eq_getElem?_getD, List.getElem?_append_right (Nat.le_refl _)] at hq
        simp only [Nat.sub_self, List.getElem?_cons_zero, Option.getD_some] at hq
        have ho : l[acc.length]? = some o := by have := hos 0; simpa using this.symm
        rcases or_fold_bit _ (fun e => acc.getD e.on 0) _ _ _ hq with h0 | ⟨e, he, hb, h1⟩
        · simp at h0
        · have hEe := hdone o ho e he hb
          rcases h1 with rfl | h1
          · exact hEe
          · by_cases hlt : e.on < acc.length
            · exact hacc e.on hlt (hE _ hEe) q h1
            · rw [List.getD_eq_getElem?_getD, List.getElem?_eq_none (by omega)] at h1
              simp at h1
theorem bef_ok {l : List Oper} {E : Nat → Prop} (hE : ∀ j, E j → Done l E j) {i j : Nat} (hb : bef (masks l []) i j = true) (hj : Done l E j) : E i :=
  masks_ok hE l [] (by simp) (fun k hk => by simp at hk) j hj i hb
theorem mem_allPairs {n i j : Nat} (hij : i < j) (hj : j < n) : (i, j) ∈ allPairs n := by
  unfold allPairs
  rw [List.mem_flatMap]
  exact ⟨j, List.mem_range.2 hj, List.mem_map.2 ⟨i, List.mem_range.2 hij, rfl⟩⟩
theorem mem_free {l : List Oper} {i j : Nat} (hij : i < j) (hj : j < l.length) (hb : bef (masks l []) i j = false) : (i, j) ∈ freePairs l := by
  unfold freePairs
  rw [List.mem_filter]
  exact ⟨mem_allPairs hij hj, by simp [hb]⟩
theorem disj_spec {a b : List Nat} (h : disj a b = true) : ∀ x ∈ a, x ∉ b := by
  intro x hx hb
  unfold disj at h
  have := List.all_eq_true.1 h x hx
  simp at this
  exact this hb
end Go.Proofs.YtfpoebmihjbknaaGreat.VA

/- The soundness of regions of 'VA' whose order is drawn. -/
set_option linter.unusedVariables false
set_option linter.unusedSimpArgs false
namespace Go.Proofs.YtfpoebmihjbknaaGreat.VA
open Go
structure Reg (P : Program) (ops : Array Oper) (l : List Oper) (aos : List AOper) (Ss : Nat → List V) (Hs : Nat → Heap) (vs : Nat → V) (Fs Ws : Nat → List Nat) : Prop where
  ol : l = ops.toList
  at_ : ∀ (i : Nat) (o : Oper), l[i]? = some o → ∃ ao g, cOp P o.op = some ao ∧ cGuard ops o.guard = some g ∧ aos[i]? = some { dst := o.dst, op := ao, guard := g }
  len : aos.length = l.length
  step : ∀ i o, aos[i]? = some o → TStep P Ss Hs vs Fs Ws i o
  back : ∀ (i : Nat) (o : Oper), l[i]? = some o → ∀ e ∈ o.after.toList, Region.binds .any e = true → e.on < i
  apart : ∀ i j, i < j → j < l.length → bef (masks l []) i j = false → apartOps ops (opAt l i) (opAt l j) = true
  disj1 : ∀ i j, i < j → j < l.length → bef (masks l []) i j = false → ∀ x ∈ Ws i, x ∉ Fs j
  disj2 : ∀ i j, i < j → j < l.length → bef (masks l []) i j = false → ∀ x ∈ Ws j, x ∉ Fs i
section
variable {P : Program} {ops : Array Oper} {l : List Oper} {aos : List AOper} {Ss : Nat → List V} {Hs : Nat → Heap} {vs : Nat → V} {Fs Ws : Nat → List Nat}
def dstOf (l : List Oper) (j : Nat) : Option Nat := (l[j]?).bind (·.dst)
theorem Reg.facts (R : Reg P ops l aos Ss Hs vs Fs Ws) {i : Nat} (hi : i < l.length) : EvFacts (Hs i) (Hs (i + 1)) (Fs i) (Ws i) := by
  have : i < aos.length := by rw [R.len]; exact hi
  exact (R.step i _ (List.getElem?_eq_getElem this)).facts
theorem Reg.hlen (R : Reg P ops l aos Ss Hs vs Fs Ws) {i j : Nat} (hij : i ≤ j) (hj : j ≤ l.length) : (Hs i).length ≤ (Hs j).length := by
  induction j with
  | zero => have : i = 0 := by omega
            subst this; exact Nat.le_refl _
  | succ j ih =>
    by_cases h : i = j + 1
    · subst h; exact Nat.le_refl _
    · exact Nat.le_trans (ih (by omega) (by omega)) (R.facts (by omega)).len
theorem Reg.sput (R : Reg P ops l aos Ss Hs vs Fs Ws) {i : Nat} (hi : i < l.length) : Ss (i + 1) = putS (Ss i) (dstOf l i) (vs i) := by
  obtain ⟨ao, g, _, _, h⟩ := R.at_ i l[i] (List.getElem?_eq_getElem hi)
  have := (R.step i _ h).1
  simpa [dstOf, List.getElem?_eq_getElem hi] using this
theorem Reg.sconst (R : Reg P ops l aos Ss Hs vs Fs Ws) (t : Nat) {i j : Nat} (hij : i ≤ j) (hj : j ≤ l.length) (h : ∀ k, i ≤ k → k < j → dstOf l k ≠ some t) : (Ss i).getD t .dead = (Ss j).getD t .dead := by
  induction j with
  | zero => have : i = 0 := by omega
            subst this; rfl
  | succ j ih =>
    by_cases he : i = j + 1
    · subst he; rfl
    · rw [ih (by omega) (by omega) (fun k h1 h2 => h k h1 (by omega)), R.sput (by omega)]
      have := h j (by omega) (by omega)
      cases hd : dstOf l j with
      | none => rfl
      | some d =>
        rw [putS_get, if_neg]
        rintro ⟨rfl, _⟩
        exact this hd
theorem Reg.hconst (R : Reg P ops l aos Ss Hs vs Fs Ws) (id : Nat) {i j : Nat} (hij : i ≤ j) (hj : j ≤ l.length) (hid : id < (Hs i).length) (h : ∀ k, i ≤ k → k < j → id ∉ Ws k) : (Hs j)[id]? = (Hs i)[id]? := by
  induction j with
  | zero => have : i = 0 := by omega
            subst this; rfl
  | succ j ih =>
    by_cases he : i = j + 1
    · subst he; rfl
    · rw [← ih (by omega) (by omega) (fun k h1 h2 => h k h1 (by omega))]
      exact (R.facts (by omega)).keep id (Nat.lt_of_lt_of_le hid (R.hlen (by omega) (by omega))) (h j (by omega) (by omega))
theorem Reg.hlive (R : Reg P ops l aos Ss Hs vs Fs Ws) (id : Nat) {i j : Nat} (hij : i ≤ j) (hj : j ≤ l.length) (hid : id < (Hs i).length) (h : LiveId (Hs j) id) : LiveId (Hs i) id := by
  induction j with
  | zero => have : i = 0 := by omega
            subst this; exact h
  | succ j ih =>
    by_cases he : i = j + 1
    · subst he; exact h
    · exact ih (by omega) (by omega) ((R.facts (by omega)).live id (Nat.lt_of_lt_of_le hid (R.hlen (by omega) (by omega))) h)
def Mk (Hs : Nat → Heap) (j id : Nat) : Prop := (Hs j).length ≤ id ∧ id < (Hs (j + 1)).length
theorem Reg.mk_one (R : Reg P ops l aos Ss Hs vs Fs Ws) {i j id : Nat} (hi : i < l.length) (hj : j < l.length) (h1 : Mk Hs i id) (h2 : Mk Hs j id) : i = j := by
  rcases Nat.lt_trichotomy i j with h | h | h
  · have := R.hlen (i := i + 1) (j := j) (by omega) (by omega)
    have := h1.2; have := h2.1; omega
  · exact h
  · have := R.hlen (i := j + 1) (j := i) (by omega) (by omega)
    have := h2.2; have := h1.1; omega
def SepS (l : List Oper) (E : Nat → Prop) (t k : Nat) : Prop := k ≤ l.length ∧ ∀ j, j < l.length → dstOf l j = some t → (E j ↔ j < k)
def SepH (l : List Oper) (Hs : Nat → Heap) (Ws : Nat → List Nat) (E : Nat → Prop) (id m : Nat) : Prop := m ≤ l.length ∧ ∀ j, j < l.length → (id ∈ Ws j ∨ Mk Hs j id) → (E j ↔ j < m)
def DE (l : List Oper) (Hs : Nat → Heap) (Ws : Nat → List Nat) (E : Nat → Prop) (id : Nat) : Prop := ∃ m, SepH l Hs Ws E id m ∧ LiveId (Hs m) id
theorem Reg.sepH_same (R : Reg P ops l aos Ss Hs vs Fs Ws) {E : Nat → Prop} {id m m' : Nat} (h : SepH l Hs Ws E id m) (h' : SepH l Hs Ws E id m') (hm : id < (Hs m).length) (hm' : id < (Hs m').length) : (Hs m)[id]? = (Hs m')[id]? := by
  have key : ∀ m m', m ≤ m' → SepH l Hs Ws E id m → SepH l Hs Ws E id m' → id < (Hs m).length → (Hs m)[id]? = (Hs m')[id]? := by
    intro m m' hle h h' hm
    refine (R.hconst id hle h'.1 hm fun k hk hk' hw => ?_).symm
    have h1 := (h.2 k (by have := h'.1; omega) (.inl hw))
    have h2 := (h'.2 k (by have := h'.1; omega) (.inl hw))
    have := h1.1 (h2.2 hk')
    omega
  rcases Nat.le_total m m' with hle | hle
  · exact key m m' hle h h' hm
  · exact (key m' m hle h' h hm').symm
structure Inv (P : Program) (B0 : Cx) (H0 : Heap) (l : List Oper) (Ss : Nat → List V) (Hs : Nat → Heap) (Fs Ws : Nat → List Nat) (E : Nat → Prop) (K : Cx) (a : Act) : Prop where
  down : ∀ j, E j → j < l.length ∧ Done l E j
  inj : ∀ i j b, DE l Hs Ws E i → DE l Hs Ws E j → K.β i = some b → K.β j = some b → i = j
  blk : ∀ id, DE l Hs Ws E id → ∃ b m cells, K.β id = some b ∧ SepH l Hs Ws E id m ∧ (Hs m)[id]? = some (some cells) ∧ BlkOK K b cells
  own : ∀ id b, DE l Hs Ws E id → K.β id = some b → K.N b ∧ (K.R b ∨ K.B ≤ b)
  low : K.B ≤ K.w.heap.size
  dom : ∀ id b, K.β id = some b → id < (Hs 0).length ∨ ∃ j, E j ∧ Mk Hs j id
  foot : ∀ j, E j → ∀ id ∈ Fs j, ∃ b, K.β id = some b
  step : Step B0 H0 (kap H0) K (Hs l.length) (DE l Hs Ws E)
  slen : (Ss 0).length = a.tmps.size
  slots : ∀ t, ∃ k, SepS l E t k ∧ Rep K ((Ss k).getD t .dead) (a.tmps.getD t undef)
  defers : a.defers = []
theorem Reg.slen (R : Reg P ops l aos Ss Hs vs Fs Ws) {i : Nat} (hi : i ≤ l.length) : (Ss i).length = (Ss 0).length := by
  induction i with
  | zero => rfl
  | succ i ih => rw [R.sput (by omega), putS_len, ih (by omega)]
theorem opAt_of {i : Nat} {o : Oper} (h : l[i]? = some o) : opAt l i = o := by
  unfold opAt; rw [List.getD_eq_getElem?_getD, h]; rfl
theorem Reg.apart' (R : Reg P ops l aos Ss Hs vs Fs Ws) {i j : Nat} {oi oj : Oper} (hi : l[i]? = some oi) (hj : l[j]? = some oj) (hij : i < j) (hb : bef (masks l []) i j = false) :
    (∀ d, oi.dst = some d → d ∉ looks ops oj ∧ oj.dst ≠ some d) ∧ (∀ d, oj.dst = some d → d ∉ looks ops oi) := by
  have := R.apart i j hij (List.getElem?_eq_some_iff.1 hj).1 hb
  rw [opAt_of hi, opAt_of hj] at this
  unfold apartOps at this
  simp only [Bool.and_eq_true] at this
  refine ⟨fun d hd => ?_, fun d hd => ?_⟩
  · have h1 := this.1
    rw [hd] at h1
    simpa using h1
  · have h2 := this.2
    rw [hd] at h2
    simpa using h2
variable {B0 : Cx} {H0 : Heap} {E : Nat → Prop} {K : Cx} {a : Act}
theorem Inv.look (R : Reg P ops l aos Ss Hs vs Fs Ws) (h : Inv P B0 H0 l Ss Hs Fs Ws E K a) {i : Nat} {o : Oper} (hi : l[i]? = some o) (hni : ¬ E i) (hdone : Done l E i) {t : Nat} (ht : t ∈ looks ops o) :
    Rep K ((Ss i).getD t .dead) (a.tmps.getD t undef) := by
  obtain ⟨k, hk, hrep⟩ := h.slots t
  have hil : i < l.length := (List.getElem?_eq_some_iff.1 hi).1
  have hE : ∀ j, E j → Done l E j := fun j hj => (h.down j hj).2
  have hw : ∀ j, j < l.length → dstOf l j = some t → (i ≤ j → j < k → False) ∧ (k ≤ j → j < i → False) := by
    intro j hj hd
    obtain ⟨oj, hoj⟩ : ∃ oj, l[j]? = some oj := ⟨l[j], List.getElem?_eq_getElem hj⟩
    have hdj : oj.dst = some t := by simpa [dstOf, hoj] using hd
    refine ⟨fun h1 h2 => ?_, fun h1 h2 => ?_⟩
    · have hEj := (hk.2 j hj hd).2 h2
      have hne : i ≠ j := fun he => hni (he ▸ hEj)
      cases hb : bef (masks l []) i j with
      | true => exact hni (bef_ok hE hb (h.down j hEj).2)
      | false => exact (R.apart' hi hoj (by omega) hb).2 t hdj ht
    · have hEj : ¬ E j := fun he => by have := (hk.2 j hj hd).1 he; omega
      cases hb : bef (masks l []) j i with
      | true => exact hEj (bef_ok hE hb hdone)
      | false => exact ((R.apart' hoj hi h2 hb).1 t hdj).1 ht
  have hsame : (Ss i).getD t .dead = (Ss k).getD t .dead := by
    rcases Nat.le_total i k with hle | hle
    · exact R.sconst t hle hk.1 fun j h1 h2 hd => (hw j (by have := hk.1; omega) hd).1 h1 h2
    · exact (R.sconst t hle (by omega) fun j h1 h2 hd => (hw j (by omega) hd).2 h1 h2).symm
  rw [hsame]; exact hrep
theorem Inv.sepAt (R : Reg P ops l aos Ss Hs vs Fs Ws) (h : Inv P B0 H0 l Ss Hs Fs Ws E K a) {i : Nat} (hil : i < l.length) (hni : ¬ E i) (hdone : Done l E i) {id : Nat} (hF : id ∈ Fs i) (hdef : ∃ b, K.β id = some b) :
    SepH l Hs Ws E id i ∧ LiveId (Hs i) id := by
  have hE : ∀ j, E j → Done l E j := fun j hj => (h.down j hj).2
  have hlive := (R.facts hil).foot id hF
  refine ⟨⟨by omega, fun j hj hw => ⟨fun hEj => ?_, fun hji => ?_⟩⟩, hlive⟩
  · rcases Nat.lt_or_ge j i with hlt | hge
    · exact hlt
    · exfalso
      have hne : i ≠ j := fun he => hni (he ▸ hEj)
      rcases hw with hw | hw
      · cases hb : bef (masks l []) i j with
        | true => exact hni (bef_ok hE hb (h.down j hEj).2)
        | false => exact R.disj2 i j (by omega) hj hb id hw hF
      · have h1 := hlive.lt
        have h2 := R.hlen (i := i) (j := j) hge (by omega)
        have := hw.1; omega
  · rcases hw with hw | hw
    · cases hb : bef (masks l []) j i with
      | true => exact bef_ok hE hb hdone
      | false => exact absurd hF (R.disj1 j i hji hil hb id hw)
    · obtain ⟨b, hb⟩ := hdef
      rcases h.dom id b hb with h1 | ⟨j', hj', hm⟩
      · have := hw.1
        have h2 := R.hlen (i := 0) (j := j) (by omega) (by omega)
        omega
      · have := R.mk_one (h.down j' hj').1 hj hm hw
        subst this; exact hj'
theorem foot_nil {S : List V} {ao : AOp} (h : ftK ao = false) : footOp S ao = [] := by
  cases ao <;> first | rfl | (simp [ftK] at h; done)
theorem foot_def {op : Op} {ao : AOp} (hc : cOp P op = some ao) {K : Cx} {S : List V} {a : Act} (hS : ∀ x ∈ op.operands.toList, OnOd K S a x) : ∀ i ∈ footOp S ao, ∃ b, K.β i = some b := by
  have one : ∀ {x : Operand} {d : Od}, x ∈ op.operands.toList → cOd x = some d → ∀ i ∈ idV (d.ev S), ∃ b, K.β i = some b := fun hx hd => idV_def (od_rep hd (hS _ hx))
  by_cases hm : mayTouch op = false
  · rw [foot_nil (cOp_ftK hc hm)]
    intro i hi; cases hi
  · cases op with
    | load t x =>
      simp only [cOp, Option.bind_eq_bind, Option.bind_eq_some_iff, Option.pure_def, Option.some.injEq] at hc
      obtain ⟨k, _, d, hd, rfl⟩ := hc
      exact one (by simp [Op.operands]) hd
    | store t x y =>
      simp only [cOp, Option.bind_eq_bind, Option.bind_eq_some_iff, Option.pure_def, Option.some.injEq] at hc
      obtain ⟨k, _, d, hd, d', hd', rfl⟩ := hc
      exact one (by simp [Op.operands]) hd
    | convert src dst x =>
      simp only [cOp] at hc
      split at hc
      · simp only [Option.map_eq_some_iff] at hc; obtain ⟨d, hd, rfl⟩ := hc; simp [footOp]
      · simp only [Option.map_eq_some_iff] at hc; obtain ⟨d, hd, rfl⟩ := hc; simp [footOp]
      · simp only [Option.map_eq_some_iff] at hc; obtain ⟨d, hd, rfl⟩ := hc; simp [footOp]
      · split at hc
        · split at hc
          · simp only [Option.map_eq_some_iff] at hc; obtain ⟨d, hd, rfl⟩ := hc
            exact one (by simp [Op.operands]) hd
          · cases hc
        · cases hc
      · split at hc
        · split at hc
          · simp only [Option.map_eq_some_iff] at hc; obtain ⟨d, hd, rfl⟩ := hc
            exact one (by simp [Op.operands]) hd
          · cases hc
        · cases hc
      · split at hc
        · split at hc
          · simp only [Option.map_eq_some_iff] at hc; obtain ⟨d, hd, rfl⟩ := hc; simp [footOp]
          · cases hc
        · cases hc
      · cases hc
    | slice t x lo hi mx =>
      cases mx with
      | some m => simp [cOp] at hc
      | none =>
        simp only [cOp] at hc
        split at hc
        · simp only [Option.bind_eq_bind, Option.bind_eq_some_iff] at hc
          obtain ⟨sz, hsz, hc⟩ := hc
          split at hc
          · cases hc
          · simp only [Option.bind_eq_some_iff, Option.pure_def, Option.some.injEq] at hc
            obtain ⟨d, hd, dl, hdl, dh, hdh, rfl⟩ := hc
            exact one (by simp [Op.operands]) hd
        · simp only [Option.bind_eq_bind, Option.bind_eq_some_iff] at hc
          obtain ⟨sz, hsz, hc⟩ := hc
          split at hc
          · cases hc
          · simp only [Option.bind_eq_some_iff, Option.pure_def, Option.some.injEq] at hc
            obtain ⟨d, hd, dl, hdl, dh, hdh, rfl⟩ := hc
            simp [footOp]
        · simp only [Option.bind_eq_bind, Option.bind_eq_some_iff, Option.pure_def, Option.some.injEq] at hc
          obtain ⟨d, hd, dl, hdl, dh, hdh, rfl⟩ := hc
          simp [footOp]
        · cases hc
    | call c =>
      obtain ⟨callee, args, tys⟩ := c
      have hget : ∀ (i : Nat) (x : Operand), args[i]? = some x → x ∈ (Op.call ⟨callee, args, tys⟩).operands.toList := fun i x hx => by
        simp only [Op.operands, Call.operands, Array.toList_append, List.mem_append]
        exact .inr (Array.mem_toList_iff.2 (Array.mem_of_getElem? hx))
      simp only [cOp, cCall] at hc
      split at hc
      · unfold cBuiltin at hc
        split at hc
        · simp [mayTouch] at hm
        · simp [mayTouch] at hm
        · simp [mayTouch] at hm
        · simp only [Option.bind_eq_bind, Option.bind_eq_some_iff] at hc
          obtain ⟨x, hx, y, hy, t, ht, u, hu, hc⟩ := hc
          have fin : ∀ {dx dy : Od} {sz b : Nat}, cOd x = some dx → cOd y = some dy → ao = .append sz b dx dy → ∀ i ∈ footOp S ao, ∃ b, K.β i = some b := by
            rintro dx dy sz b hdx hdy rfl i hi
            simp only [footOp, List.mem_append] at hi
            rcases hi with hi | hi
            · exact one (hget _ _ hx) hdx i hi
            · exact one (hget _ _ hy) hdy i hi
          split at hc
          · simp only [Option.bind_eq_some_iff] at hc
            obtain ⟨i, hi, zs, hz, hc⟩ := hc
            split at hc
            · split at hc
              · cases hc
              · simp only [Option.bind_eq_some_iff, Option.pure_def, Option.some.injEq] at hc
                obtain ⟨dx, hdx, dy, hdy, rfl⟩ := hc
                exact fin hdx hdy rfl
            · split at hc
              · cases hc
              · simp only [Option.bind_eq_some_iff, Option.pure_def, Option.some.injEq] at hc
                obtain ⟨dx, hdx, dy, hdy, rfl⟩ := hc
                exact fin hdx hdy rfl
            · split at hc
              · cases hc
              · simp only [Option.bind_eq_some_iff, Option.pure_def, Option.some.injEq] at hc
                obtain ⟨dx, hdx, dy, hdy, rfl⟩ := hc
                simp [footOp]
            · cases hc
          · cases hc
        · simp only [Option.bind_eq_bind, Option.bind_eq_some_iff] at hc
          obtain ⟨x, hx, y, hy, t, ht, hc⟩ := hc
          split at hc
          · simp only [Option.bind_eq_some_iff] at hc
            obtain ⟨i, hi, hc⟩ := hc
            split at hc
            · cases hc
            · simp only [Option.bind_eq_some_iff, Option.pure_def, Option.some.injEq] at hc
              obtain ⟨dx, hdx, dy, hdy, rfl⟩ := hc
              intro i hi
              simp only [footOp, List.mem_append] at hi
              rcases hi with hi | hi
              · exact one (hget _ _ hx) hdx i hi
              · exact one (hget _ _ hy) hdy i hi
          · cases hc
        · simp only [Option.bind_eq_bind, Option.bind_eq_some_iff] at hc
          obtain ⟨x, hx, t, ht, hc⟩ := hc
          split at hc
          · simp only [Option.map_eq_some_iff] at hc
            obtain ⟨d, hd, rfl⟩ := hc
            simp [footOp]
          · cases hc
        · simp only [Option.bind_eq_bind, Option.bind_eq_some_iff] at hc
          obtain ⟨x, hx, t, ht, hc⟩ := hc
          split at hc
          · simp only [Option.bind_eq_some_iff] at hc
            obtain ⟨i, hi, zs, hz, hc⟩ := hc
            split at hc
            · cases hc
            · simp only [Option.bind_eq_some_iff, Option.pure_def, Option.some.injEq] at hc
              obtain ⟨dx, hdx, rfl⟩ := hc
              intro i hi
              simp only [footOp] at hi
              exact one (hget _ _ hx) hdx i hi
          · cases hc
        · cases hc
      · split at hc
        · simp only [Option.bind_eq_bind, Option.bind_eq_some_iff, Option.pure_def, Option.some.injEq] at hc
          obtain ⟨ds, hds, rfl⟩ := hc
          simp [footOp]
        · split at hc
          · simp only [Option.bind_eq_bind, Option.bind_eq_some_iff, Option.pure_def, Option.some.injEq] at hc
            obtain ⟨ds, hds, rfl⟩ := hc
            simp [footOp]
          · cases hc
      · simp only [Option.bind_eq_bind, Option.bind_eq_some_iff, Option.pure_def, Option.some.injEq] at hc
        obtain ⟨d, hd, ds, hds, rfl⟩ := hc
        simp [footOp]
      · cases hc
    | _ => simp [mayTouch] at hm
theorem ev_def {op : Op} {ao : AOp} (hc : cOp P op = some ao) {K : Cx} {S : List V} {H : Heap} {v : V} {H' : Heap} {F W : List Nat} {a : Act} (he : EvOp P S H ao v H' F W) (hS : ∀ x ∈ op.operands.toList, OnOd K S a x)
    (hcells : ∀ i ∈ F, (∃ b, K.β i = some b) → ∃ b cells, K.β i = some b ∧ H[i]? = some (some cells) ∧ BlkOK K b cells) : ∀ i ∈ F, ∃ b, K.β i = some b := by
  by_cases hcall : isCall ao = false
  · obtain ⟨_, rfl, rfl⟩ := EvOp_plain hcall he
    exact foot_def hc hS
  · by_cases hop : ∃ c, op = .call c
    · obtain ⟨c, rfl⟩ := hop
      obtain ⟨callee, args, tys⟩ := c
      have hx : ∀ x ∈ args.toList, OnOd K S a x := fun x hx => hS x (by
        simp only [Op.operands, Call.operands, Array.toList_append, List.mem_append]; exact .inr hx)
      simp only [cOp, cCall] at hc
      split at hc
      · exact absurd (cBuiltin_noCall hc) hcall
      · split at hc
        · simp only [Option.bind_eq_bind, Option.bind_eq_some_iff, Option.pure_def, Option.some.injEq] at hc
          obtain ⟨ds, hds, rfl⟩ := hc
          simp only [EvOp] at he
          exact call_def he (cOds_rep hds hx) hcells
        · split at hc
          · simp only [Option.bind_eq_bind, Option.bind_eq_some_iff, Option.pure_def, Option.some.injEq] at hc
            obtain ⟨ds, hds, rfl⟩ := hc
            simp only [EvOp] at he
            obtain ⟨_, _, rfl, _⟩ := he
            exact fun i hi => by cases hi
          · cases hc
      · rename_i f _
        simp only [Option.bind_eq_bind, Option.bind_eq_some_iff, Option.pure_def, Option.some.injEq] at hc
        obtain ⟨d, hd, ds, hds, rfl⟩ := hc
        simp only [EvOp] at he
        split at he
        · rename_i g caps hv
          have hrf := od_rep hd (hS f (by simp only [Op.operands, Call.operands, Array.toList_append, List.mem_append]; left; simp))
          rw [hv] at hrf
          simp only [Rep] at hrf
          obtain ⟨lv, hl, hcaps⟩ := hrf
          have happ : RepL K (ds.map (·.ev S) ++ caps) (args.toList.map a.eval ++ lv) := by
            have h1 := cOds_rep hds hx
            refine RepL.mk (by rw [List.length_append, List.length_append, RepL.length h1, RepL.length hcaps]) fun i v c hv hc => ?_
            have hlen := RepL.length h1
            by_cases hi : i < (ds.map (·.ev S)).length
            · skip
              rw [List.getElem?_append_left hi] at hv
              rw [List.getElem?_append_left (by omega)] at hc
              obtain ⟨c', hc', hr⟩ := h1.get i v hv
              rw [hc] at hc'; cases hc'; exact hr
            · skip
              rw [List.getElem?_append_right (by omega)] at hv
              rw [List.getElem?_append_right (by omega), hlen] at hc
              obtain ⟨c', hc', hr⟩ := hcaps.get _ v hv
              rw [hc] at hc'; cases hc'; exact hr
          exact call_def he.2 happ hcells
        · exact he.elim
      · cases hc
    · exact absurd (cOp_noCall hc fun c h => hop ⟨c, h⟩) hcall
variable {B0 : Cx} {H0 : Heap} {E : Nat → Prop} {K : Cx} {a : Act}
theorem Inv.heap (R : Reg P ops l aos Ss Hs vs Fs Ws) (h : Inv P B0 H0 l Ss Hs Fs Ws E K a) {i : Nat} (hil : i < l.length) (hni : ¬ E i) (hdone : Done l E i) (hdef : ∀ id ∈ Fs i, ∃ b, K.β id = some b) :
    HeapOK K (Hs i) (fun id => id ∈ Fs i) := by
  have hDE : ∀ id ∈ Fs i, DE l Hs Ws E id := fun id hid => ⟨i, h.sepAt R hil hni hdone hid (hdef id hid)⟩
  refine ⟨fun x y b hx hy => h.inj x y b (hDE x hx) (hDE y hy), fun id hid => ?_, fun id b hid => h.own id b (hDE id hid), h.low⟩
  obtain ⟨b, m, cells, hb, hm, hH, hok⟩ := h.blk id (hDE id hid)
  obtain ⟨hsep, hlive⟩ := h.sepAt R hil hni hdone hid (hdef id hid)
  exact ⟨b, cells, hb, by rw [R.sepH_same hsep hm hlive.lt (List.getElem?_eq_some_iff.1 hH).1]; exact hH, hok⟩
theorem Inv.next (R : Reg P ops l aos Ss Hs vs Fs Ws) (h : Inv P B0 H0 l Ss Hs Fs Ws E K a) (hdef0 : ∀ i, kap H0 i → ∃ b, B0.β i = some b) (hH0 : H0.length ≤ (Hs 0).length) (hl0 : ∀ i, i < H0.length → LiveId (Hs 0) i → kap H0 i)
    (hdom0 : ∀ i b, B0.β i = some b → i < H0.length)
    {i : Nat} {o : Oper} (hi : l[i]? = some o) (hni : ¬ E i) (hdone : Done l E i) (hdef : ∀ id ∈ Fs i, ∃ b, K.β id = some b) {K' : Cx} {c : Value}
    (hK' : HeapOK K' (Hs (i + 1)) (Dn (fun id => id ∈ Fs i) (Hs i) (Hs (i + 1)))) (hst : Step K (Hs i) (fun id => id ∈ Fs i) K' (Hs (i + 1)) (Dn (fun id => id ∈ Fs i) (Hs i) (Hs (i + 1)))) (hv : Rep K' (vs i) c) :
    Inv P B0 H0 l Ss Hs Fs Ws (fun j => E j ∨ j = i) K' (a.put o.dst c) := by
  have hil : i < l.length := (List.getElem?_eq_some_iff.1 hi).1
  have hE : ∀ j, E j → Done l E j := fun j hj => (h.down j hj).2
  have hK := h.heap R hil hni hdone hdef
  have hf := R.facts hil
  have hpres : Pres K K' := hst.pres hK
  have hDEF : ∀ id ∈ Fs i, DE l Hs Ws E id := fun id hid => ⟨i, h.sepAt R hil hni hdone hid (hdef id hid)⟩
  have hsz : ∀ id b, DE l Hs Ws E id → K.β id = some b → b < K.w.heap.size := fun id b hid hb => by
    obtain ⟨b', m, cells, hb', _, _, C, e, lo, up, hC, _⟩ := h.blk id hid
    rw [hb] at hb'; cases hb'
    exact (Array.getElem?_eq_some_iff.1 hC).1
  -- a block that was written or made by 'i' is, from then on, as 'i' left it
  have hsepW : ∀ id, (id ∈ Ws i ∨ Mk Hs i id) → SepH l Hs Ws (fun j => E j ∨ j = i) id (i + 1) := by
    intro id hid
    refine ⟨by omega, fun j hj hw => ?_⟩
    by_cases hji : j = i
    · subst hji; exact ⟨fun _ => by omega, fun _ => .inr rfl⟩
    · constructor
      · rintro (hEj | hEj)
        · rcases Nat.lt_or_ge j (i + 1) with hlt | hge
          · exact hlt
          · exfalso
            cases hb : bef (masks l []) i j with
            | true => exact hni (bef_ok hE hb (h.down j hEj).2)
            | false =>
              rcases hid with hid | hid
              · have hFi := hf.wf id hid
                rcases hw with hw | hw
                · exact R.disj2 i j (by omega) hj hb id hw hFi
                · have h1 := (hf.foot id hFi).lt
                  have h2 := R.hlen (i := i) (j := j) (by omega) (by omega)
                  have := hw.1; omega
              · rcases hw with hw | hw
                · obtain ⟨b, hbb⟩ := h.foot j hEj id ((R.facts hj).wf id hw)
                  rcases h.dom id b hbb with h1 | ⟨j', hj', hm⟩
                  · have h2 := R.hlen (i := 0) (j := i) (by omega) (by omega)
                    have := hid.1; omega
                  · have := R.mk_one (h.down j' hj').1 hil hm hid
                    subst this; exact hni hj'
                · have := R.mk_one hj hil hw hid; exact hji this
        · exact absurd hEj hji
      · intro hlt
        left
        have hjlt : j < i := by omega
        rcases hid with hid | hid
        · exact ((h.sepAt R hil hni hdone (hf.wf id hid) (hdef id (hf.wf id hid))).1.2 j hj hw).2 hjlt
        · exfalso
          have h2 := R.hlen (i := j + 1) (j := i) (by omega) (by omega)
          have := hid.1
          rcases hw with hw | hw
          · have h3 := ((R.facts hj).foot id ((R.facts hj).wf id hw)).lt
            have h4 := R.hlen (i := j) (j := i) (by omega) (by omega)
            omega
          · have := hw.2; omega
  have hback : ∀ id m, SepH l Hs Ws (fun j => E j ∨ j = i) id m → ¬ (id ∈ Ws i ∨ Mk Hs i id) → SepH l Hs Ws E id m := by
    intro id m hm hn
    refine ⟨hm.1, fun j hj hw => ?_⟩
    have hji : j ≠ i := fun he => hn (he ▸ hw)
    have := hm.2 j hj hw
    simpa [hji] using this
  -- the live blocks behind 'i'
  have hcases : ∀ id, DE l Hs Ws (fun j => E j ∨ j = i) id →
      (Dn (fun id => id ∈ Fs i) (Hs i) (Hs (i + 1)) id ∧ SepH l Hs Ws (fun j => E j ∨ j = i) id (i + 1)) ∨ (DE l Hs Ws E id ∧ id ∉ Fs i ∧ ¬ (id ∈ Ws i ∨ Mk Hs i id)) := by
    rintro id ⟨m, hm, hl⟩
    by_cases hid : id ∈ Ws i ∨ Mk Hs i id
    · left
      have hs := hsepW id hid
      have hlt1 : id < (Hs (i + 1)).length := by
        rcases hid with hid | hid
        · exact Nat.lt_of_lt_of_le (hf.foot id (hf.wf id hid)).lt hf.len
        · exact hid.2
      refine ⟨⟨?_, ?_⟩, hs⟩
      · rcases hid with hid | hid
        · exact .inl (hf.wf id hid)
        · exact .inr hid.1
      · obtain ⟨cells, hc⟩ := hl
        exact ⟨cells, by rw [← R.sepH_same hm hs (List.getElem?_eq_some_iff.1 hc).1 hlt1]; exact hc⟩
    · by_cases hF : id ∈ Fs i
      · left
        have hsE := hback id m hm hid
        obtain ⟨hsi, hli⟩ := h.sepAt R hil hni hdone hF (hdef id hF)
        have hk : (Hs (i + 1))[id]? = (Hs i)[id]? := hf.keep id hli.lt fun hw => hid (.inl hw)
        refine ⟨⟨.inl hF, by obtain ⟨cells, hc⟩ := hli; exact ⟨cells, by rw [hk]; exact hc⟩⟩, by omega, fun j hj hw => ?_⟩
        have hji : j ≠ i := fun he => hid (he ▸ hw)
        have := hsi.2 j hj hw
        simp only [hji, or_false]
        rw [this]; omega
      · right
        exact ⟨⟨m, hback id m hm hid, hl⟩, hF, hid⟩
  have hownE : ∀ b, OwnD K (fun id => id ∈ Fs i) b → OwnD K (DE l Hs Ws E) b := fun b ⟨id, hid, hb⟩ => ⟨id, hDEF id hid, hb⟩
  have hextK : ∀ id b, DE l Hs Ws E id → K'.β id = some b → K.β id = some b := fun id b hid hb => by
    obtain ⟨b', _, _, hb', _⟩ := h.blk id hid
    have := hst.ext id b' hb'
    rw [hb] at this; cases this; exact hb'
  -- a touched block and an untouched one are two
  have hcross : ∀ x y b, Dn (fun id => id ∈ Fs i) (Hs i) (Hs (i + 1)) x → DE l Hs Ws E y → y ∉ Fs i → K'.β x = some b → K'.β y = some b → False := by
    intro x y b hx hy hyF hxb hyb
    have hyb' := hextK y b hy hyb
    rcases hst.own (fun q hq => hdef q hq) b ⟨x, hx, hxb⟩ with ⟨q, hq, hqb⟩ | hge
    · have := h.inj q y b (hDEF q hq) hy hqb hyb'
      subst this; exact hyF hq
    · have := hsz y b hy hyb'; omega
  refine ⟨?_, ?_, ?_, ?_, hK'.low, ?_, ?_, ?_, by rw [put_size]; exact h.slen, ?_, by rw [put_defers]; exact h.defers⟩
  · rintro j (hj | rfl)
    · exact ⟨(h.down j hj).1, fun o' ho' e he hb => .inl ((h.down j hj).2 o' ho' e he hb)⟩
    · exact ⟨hil, fun o' ho' e he hb => .inl (hdone o' ho' e he hb)⟩
  · intro x y b hx hy hxb hyb
    rcases hcases x hx with ⟨h1, _⟩ | ⟨h1, h2, _⟩ <;> rcases hcases y hy with ⟨h3, _⟩ | ⟨h3, h4, _⟩
    · exact hK'.inj x y b h1 h3 hxb hyb
    · exact (hcross x y b h1 h3 h4 hxb hyb).elim
    · exact (hcross y x b h3 h1 h2 hyb hxb).elim
    · exact h.inj x y b h1 h3 (hextK x b h1 hxb) (hextK y b h3 hyb)
  · intro id hid
    rcases hcases id hid with ⟨h1, h2⟩ | ⟨h1, h2, h3⟩
    · obtain ⟨b, cells, hb, hH, hok⟩ := hK'.blk id h1
      exact ⟨b, i + 1, cells, hb, h2, hH, hok⟩
    · obtain ⟨b, m, cells, hb, hm, hH, hok⟩ := h.blk id h1
      refine ⟨b, m, cells, hst.ext id b hb, ⟨hm.1, fun j hj hw => ?_⟩, hH, hok.pres hpres (hst.frame b (hsz id b h1 hb) fun ho => ?_)⟩
      · have hji : j ≠ i := fun he => h3 (he ▸ hw)
        have := hm.2 j hj hw
        simpa [hji] using this
      · obtain ⟨q, hq, hqb⟩ := ho
        have := h.inj q id b (hDEF q hq) h1 hqb hb
        subst this; exact h2 hq
  · intro id b hid hb
    rcases hcases id hid with ⟨h1, h2⟩ | ⟨h1, h2, h3⟩
    · exact hK'.own id b h1 hb
    · have hb' := hextK id b h1 hb
      obtain ⟨hN, hRB⟩ := h.own id b h1 hb'
      refine ⟨hst.nk b hN (hsz id b h1 hb') fun ho => ?_, by rw [hst.R, hst.B]; exact hRB⟩
      obtain ⟨q, hq, hqb⟩ := ho
      have := h.inj q id b (hDEF q hq) h1 hqb hb'
      subst this; exact h2 hq
  · intro id b hb
    rcases hst.new id b hb with h1 | ⟨_, h1, h2, _⟩
    · rcases h.dom id b h1 with h2 | ⟨j, hj, hm⟩
      · exact .inl h2
      · exact .inr ⟨j, .inl hj, hm⟩
    · exact .inr ⟨i, .inr rfl, h1, h2⟩
  · rintro j (hj | rfl) id hid
    · obtain ⟨b, hb⟩ := h.foot j hj id hid
      exact ⟨b, hst.ext id b hb⟩
    · obtain ⟨b, hb⟩ := hdef id hid
      exact ⟨b, hst.ext id b hb⟩
  · have s := h.step
    have hn : ∀ q, K.β q = none → B0.β q = none := fun q hq => by
      cases hk : B0.β q with
      | none => rfl
      | some b0 => rw [s.ext q b0 hk] at hq; cases hq
    refine ⟨hst.B.trans s.B, hst.R.trans s.R, hst.os.trans s.os, hst.tape.trans s.tape, hst.output.trans s.output, Nat.le_trans s.size hst.size, s.len, fun q b hb => hst.ext q b (s.ext q b hb), ?_, ?_, ?_, ?_, ?_, ?_⟩
    · intro q b hb
      rcases hst.new q b hb with h1 | ⟨h0, h1, h2, h3⟩
      · exact s.new q b h1
      · have e1 := R.hlen (i := 0) (j := i) (by omega) (by omega)
        have e2 := R.hlen (i := i + 1) (j := l.length) (by omega) (by omega)
        refine .inr ⟨hn q h0, by omega, by omega, ?_⟩
        rcases h3 with h3 | h3
        · exact .inl (Nat.le_trans s.size h3)
        · exact (s.own hdef0 b (hownE b h3)).symm
    · intro b hb
      rcases hst.nn b hb with h1 | h1
      · exact s.nn b h1
      · exact .inr (Nat.le_trans s.size h1)
    · intro b hb hlt hno
      refine hst.nk b (s.nk b hb hlt hno) (Nat.lt_of_lt_of_le hlt s.size) fun ho => ?_
      rcases s.own hdef0 b (hownE b ho) with h1 | h1
      · exact hno h1
      · omega
    · rintro q ⟨m, hm, hl⟩
      by_cases hq : q < H0.length
      · left
        exact hl0 q hq (R.hlive q (Nat.zero_le _) hm.1 (by omega) hl)
      · right
        refine ⟨?_, by omega, Nat.lt_of_lt_of_le hl.lt (R.hlen hm.1 (Nat.le_refl _))⟩
        cases hk : B0.β q with
        | none => rfl
        | some b0 => have := hdom0 q b0 hk; omega
    · intro b hlt hno
      rw [hst.frame b (Nat.lt_of_lt_of_le hlt s.size) (fun ho => ?_), s.frame b hlt hno]
      rcases s.own hdef0 b (hownE b ho) with h1 | h1
      · exact hno h1
      · omega
    · intro b C e fz hC
      obtain ⟨C', fz', hC', hs⟩ := s.shape b C e fz hC
      obtain ⟨C'', fz'', hC'', hs'⟩ := hst.shape b C' e fz' hC'
      exact ⟨C'', fz'', hC'', hs'.trans hs⟩
  · intro t
    have hdi : dstOf l i = o.dst := by simp [dstOf, hi]
    by_cases ht : o.dst = some t
    · refine ⟨i + 1, ⟨by omega, fun j hj hd => ?_⟩, ?_⟩
      · by_cases hji : j = i
        · subst hji; exact ⟨fun _ => by omega, fun _ => .inr rfl⟩
        · obtain ⟨oj, hoj⟩ : ∃ oj, l[j]? = some oj := ⟨l[j], List.getElem?_eq_getElem hj⟩
          have hdj : oj.dst = some t := by simpa [dstOf, hoj] using hd
          constructor
          · rintro (hEj | hEj)
            · rcases Nat.lt_or_ge j (i + 1) with hlt | hge
              · exact hlt
              · exfalso
                cases hb : bef (masks l []) i j with
                | true => exact hni (bef_ok hE hb (h.down j hEj).2)
                | false => exact ((R.apart' hi hoj (by omega) hb).1 t ht).2 hdj
            · exact absurd hEj hji
          · intro hlt
            left
            cases hb : bef (masks l []) j i with
            | true => exact bef_ok hE hb hdone
            | false => exact absurd ht ((R.apart' hoj hi (by omega) hb).1 t hdj).2
      · rw [R.sput hil, hdi, ht, putS_get, put_get, R.slen (by omega), h.slen]
        by_cases hlt : t < a.tmps.size
        · rw [if_pos ⟨rfl, hlt⟩, if_pos ⟨rfl, hlt⟩]; exact hv
        · rw [if_neg (fun h => hlt h.2), if_neg (fun h => hlt h.2)]
          have hout : (Ss i).getD t .dead = .dead := by
            rw [List.getD_eq_getElem?_getD, List.getElem?_eq_none (by rw [R.slen (by omega), h.slen]; omega)]; rfl
          rw [hout]; simp [Rep]
    · obtain ⟨k, hk, hrep⟩ := h.slots t
      refine ⟨k, ⟨hk.1, fun j hj hd => ?_⟩, ?_⟩
      · have hji : j ≠ i := fun he => by subst he; rw [hdi] at hd; exact ht hd
        have := hk.2 j hj hd
        simpa [hji] using this
      · have hput : (a.put o.dst c).tmps.getD t undef = a.tmps.getD t undef := by
          cases hd : o.dst with
          | none => rfl
          | some d =>
            rw [put_get, if_neg]
            rintro ⟨rfl, _⟩
            exact ht hd
        rw [hput]
        exact Rep.pres hpres _ _ hrep
end
end Go.Proofs.YtfpoebmihjbknaaGreat.VA

/- The soundness of 'VA': regions, code, functions. -/
set_option linter.unusedVariables false
set_option linter.unusedSimpArgs false
namespace Go.Proofs.YtfpoebmihjbknaaGreat.VA
open Go
theorem cOps_at {P : Program} {ops : Array Oper} : ∀ {l : List Oper} {aos : List AOper}, cOps P ops l = some aos → aos.length = l.length ∧
    ∀ (i : Nat) (o : Oper), l[i]? = some o → ∃ ao g, cOp P o.op = some ao ∧ cGuard ops o.guard = some g ∧ aos[i]? = some { dst := o.dst, op := ao, guard := g }
  | [], aos, h => by simp only [cOps] at h; cases h; exact ⟨rfl, fun i o ho => by simp at ho⟩
  | o :: os, aos, h => by
    obtain ⟨ao, g, r, h1, h2, h3, rfl⟩ := cOps_cons h
    have ih := cOps_at h3
    refine ⟨by simp [ih.1], fun i o' ho' => ?_⟩
    cases i with
    | zero => simp at ho'; subst ho'; exact ⟨ao, g, h1, h2, rfl⟩
    | succ i => simpa using ih.2 i o' (by simpa using ho')
theorem reg_of {P : Program} {ops : Array Oper} {l : List Oper} {aos : List AOper} (hl : l = ops.toList) (hc : cOps P ops l = some aos) (hd : drawOK ops l (freePairs l) = true)
    {Ss : Nat → List V} {Hs : Nat → Heap} {vs : Nat → V} {Fs Ws : Nat → List Nat} (hst : ∀ i o, aos[i]? = some o → TStep P Ss Hs vs Fs Ws i o)
    (hk : chk ((List.range l.length).map fun i => (Fs i, Ws i)) (askedPairs l (freePairs l)) = true) : Reg P ops l aos Ss Hs vs Fs Ws := by
  obtain ⟨hlen, hat⟩ := cOps_at hc
  unfold drawOK at hd
  simp only [Bool.and_eq_true] at hd
  have hFW : ∀ i, i < l.length → ((List.range l.length).map fun i => (Fs i, Ws i)).getD i ([], []) = (Fs i, Ws i) := fun i hi => by
    rw [List.getD_eq_getElem?_getD, List.getElem?_map, List.getElem?_range hi]; rfl
  have hdis : ∀ i j, i < j → j < l.length → bef (masks l []) i j = false → (∀ x ∈ Ws i, x ∉ Fs j) ∧ (∀ x ∈ Ws j, x ∉ Fs i) := by
    intro i j hij hj hb
    have hfree := mem_free hij hj hb
    by_cases ha : (i, j) ∈ askedPairs l (freePairs l)
    · unfold chk at hk
      have := List.all_eq_true.1 hk (i, j) ha
      simp only [hFW i (by omega), hFW j hj, Bool.and_eq_true] at this
      exact ⟨disj_spec this.1, disj_spec this.2⟩
    · have hn : ¬ ((mayWrite (opAt l i).op && mayTouch (opAt l j).op) || (mayWrite (opAt l j).op && mayTouch (opAt l i).op)) = true := fun h => ha (by
        unfold askedPairs; rw [List.mem_filter]; exact ⟨hfree, h⟩)
      simp only [Bool.or_eq_true, Bool.and_eq_true, not_or, not_and, Bool.not_eq_true] at hn
      have hnil : ∀ k, k < l.length → (mayWrite (opAt l k).op = false → Ws k = []) ∧ (mayTouch (opAt l k).op = false → Fs k = []) := by
        intro k hk
        have hlk : l[k]? = some l[k] := List.getElem?_eq_getElem hk
        obtain ⟨ao, g, h1, h2, h3⟩ := hat k l[k] hlk
        rw [opAt_of hlk]
        rcases (hst k _ h3).2 with ⟨_, he⟩ | ⟨_, _, _, h4, h5⟩
        · exact ⟨fun h => wrK_nil he (cOp_wrK h1 h), fun h => ftK_nil he (cOp_ftK h1 h)⟩
        · exact ⟨fun _ => h5, fun _ => h4⟩
      constructor
      · by_cases hw : mayWrite (opAt l i).op = true
        · rw [(hnil j hj).2 (hn.1 hw)]
          intro x _ hx; cases hx
        · rw [(hnil i (by omega)).1 (by simpa using hw)]
          intro x hx; cases hx
      · by_cases hw : mayWrite (opAt l j).op = true
        · rw [(hnil i (by omega)).2 (hn.2 hw)]
          intro x _ hx; cases hx
        · rw [(hnil j hj).1 (by simpa using hw)]
          intro x hx; cases hx
  refine ⟨hl, hat, hlen, hst, ?_, ?_, fun i j h1 h2 h3 => (hdis i j h1 h2 h3).1, fun i j h1 h2 h3 => (hdis i j h1 h2 h3).2⟩
  · intro i o ho e he hb
    have hm : (o, i) ∈ l.zipIdx := by
      rw [List.mem_zipIdx_iff_getElem?]
      exact ho
    have := List.all_eq_true.1 hd.1 (o, i) hm
    have := List.all_eq_true.1 this e he
    simpa [hb] using this
  · intro i j hij hj hb
    have := List.all_eq_true.1 hd.2 (i, j) (mem_free hij hj hb)
    simpa using this
theorem sim_drawn {B0 : Cx} {Hb : Heap} {S : List V} {H : Heap} {a : Act} {w : World} (h : Sim B0 Hb S H a w) : Sim B0 Hb S H a { w with drawn := w.drawn + 1 } := by
  obtain ⟨K, rfl, hK, hdom, hst, hlen, hsl, hdf⟩ := h
  have hp : Pres K { K with w := { K.w with drawn := K.w.drawn + 1 } } := ⟨fun _ _ h => h, fun b h _ => ⟨h, rfl⟩, fun b C e fz h => ⟨C, fz, h, rfl⟩⟩
  refine ⟨{ K with w := { K.w with drawn := K.w.drawn + 1 } }, rfl, ⟨hK.inj, fun i hi => ?_, hK.own, hK.low⟩, hdom,
    ⟨hst.B, hst.R, hst.os, hst.tape, hst.output, hst.size, hst.len, hst.ext, hst.new, hst.nn, hst.nk, hst.dd, hst.frame, hst.shape⟩, hlen, fun t => Rep.pres hp _ _ (hsl t), hdf⟩
  obtain ⟨b, cells, hb, hH, hok⟩ := hK.blk i hi
  exact ⟨b, cells, hb, hH, hok.pres hp rfl⟩
section
variable {P : Program} {ops : Array Oper} {l : List Oper} {aos : List AOper} {Ss : Nat → List V} {Hs : Nat → Heap} {vs : Nat → V} {Fs Ws : Nat → List Nat}
theorem Reg.made (R : Reg P ops l aos Ss Hs vs Fs Ws) {id : Nat} (h0 : (Hs 0).length ≤ id) : ∀ {m : Nat}, m ≤ l.length → id < (Hs m).length → ∃ j, j < m ∧ Mk Hs j id
  | 0, _, h => by omega
  | m + 1, hm, h => by
    by_cases hlt : id < (Hs m).length
    · obtain ⟨j, hj, hmk⟩ := Reg.made R h0 (by omega) hlt
      exact ⟨j, by omega, hmk⟩
    · exact ⟨m, by omega, by omega, h⟩
theorem inv_start (R : Reg P ops l aos Ss Hs vs Fs Ws) {B0 : Cx} {Hb : Heap} {a : Act} {w : World} (h : Sim B0 Hb (Ss 0) (Hs 0) a w) {E : Nat → Prop} (hE : ∀ j, ¬ E j) :
    ∃ K, K.w = w ∧ Inv P B0 Hb l Ss Hs Fs Ws E K a := by
  obtain ⟨K, hw, hK, hdom, hst, hlen, hsl, hdf⟩ := h
  have hDE : ∀ id, DE l Hs Ws E id → kap (Hs 0) id ∧ SepH l Hs Ws E id 0 := by
    rintro id ⟨m, hm, hl⟩
    have hlt : id < (Hs 0).length := by
      rcases Nat.lt_or_ge id (Hs 0).length with h | h
      · exact h
      · obtain ⟨j, hj, hmk⟩ := R.made h hm.1 hl.lt
        exact absurd ((hm.2 j (by have := hm.1; omega) (.inr hmk)).2 hj) (hE j)
    exact ⟨R.hlive id (Nat.zero_le _) hm.1 hlt hl, Nat.zero_le _, fun j hj hw => ⟨fun h => absurd h (hE j), fun h => by omega⟩⟩
  refine ⟨K, hw, fun j hj => absurd hj (hE j), fun i j b hi hj => hK.inj i j b (hDE i hi).1 (hDE j hj).1, fun id hid => ?_, fun id b hid hb => hK.own id b (hDE id hid).1 hb, hK.low, fun id b hb => .inl (hdom id b hb),
    fun j hj => absurd hj (hE j), ?_, hlen, fun t => ⟨0, ⟨Nat.zero_le _, fun j hj _ => ⟨fun h => absurd h (hE j), fun h => by omega⟩⟩, hsl t⟩, hdf⟩
  · obtain ⟨b, cells, hb, hH, hok⟩ := hK.blk id (hDE id hid).1
    exact ⟨b, 0, cells, hb, (hDE id hid).2, hH, hok⟩
  · have hle := R.hlen (i := 0) (j := l.length) (by omega) (by omega)
    refine ⟨hst.B, hst.R, hst.os, hst.tape, hst.output, hst.size, Nat.le_trans hst.len hle, hst.ext, fun i b hb => ?_, hst.nn, hst.nk, fun i hi => ?_, hst.frame, hst.shape⟩
    · rcases hst.new i b hb with h1 | ⟨h0, h1, h2, h3⟩
      · exact .inl h1
      · exact .inr ⟨h0, h1, by omega, h3⟩
    · rcases hst.dd i (hDE i hi).1 with h1 | ⟨h0, h1, h2⟩
      · exact .inl h1
      · exact .inr ⟨h0, h1, by omega⟩
theorem inv_end (R : Reg P ops l aos Ss Hs vs Fs Ws) {B0 : Cx} {Hb : Heap} {a : Act} {E : Nat → Prop} {K : Cx} (h : Inv P B0 Hb l Ss Hs Fs Ws E K a) (hE : ∀ j, j < l.length → E j) :
    Sim B0 Hb (Ss l.length) (Hs l.length) a K.w := by
  have hsepn : ∀ id, SepH l Hs Ws E id l.length := fun id => ⟨Nat.le_refl _, fun j hj _ => ⟨fun _ => hj, fun _ => hE j hj⟩⟩
  have hDE : DE l Hs Ws E = kap (Hs l.length) := by
    funext id
    refine propext ⟨?_, fun hl => ⟨l.length, hsepn id, hl⟩⟩
    rintro ⟨m, hm, cells, hc⟩
    have hlt := (List.getElem?_eq_some_iff.1 hc).1
    exact ⟨cells, by rw [← R.sepH_same hm (hsepn id) hlt (Nat.lt_of_lt_of_le hlt (R.hlen hm.1 (Nat.le_refl _)))]; exact hc⟩
  have hstep := h.step
  have hinj := h.inj
  have hown := h.own
  rw [hDE] at hstep
  refine ⟨K, rfl, ⟨fun i j b hi hj => hinj i j b (by rw [hDE]; exact hi) (by rw [hDE]; exact hj), fun id hid => ?_, fun id b hid => hown id b (by rw [hDE]; exact hid), h.low⟩, fun id b hb => ?_, hstep, ?_, fun t => ?_, h.defers⟩
  · obtain ⟨b, m, cells, hb, hm, hH, hok⟩ := h.blk id (by rw [hDE]; exact hid)
    have hlt := (List.getElem?_eq_some_iff.1 hH).1
    exact ⟨b, cells, hb, by rw [← R.sepH_same hm (hsepn id) hlt hid.lt]; exact hH, hok⟩
  · rcases h.dom id b hb with h1 | ⟨j, hj, hm⟩
    · exact Nat.lt_of_lt_of_le h1 (R.hlen (by omega) (by omega))
    · have := (h.down j hj).1
      exact Nat.lt_of_lt_of_le hm.2 (R.hlen (by omega) (by omega))
  · rw [R.slen (Nat.le_refl _)]; exact h.slen
  · obtain ⟨k, hk, hrep⟩ := h.slots t
    rw [← R.sconst t hk.1 (Nat.le_refl _) fun j h1 h2 hd => by have := (hk.2 j h2 hd).1 (hE j h2); omega]
    exact hrep
theorem any_sound (R : Reg P ops l aos Ss Hs vs Fs Ws) {B0 : Cx} {Hb : Heap} (hdef0 : ∀ i, kap Hb i → ∃ b, B0.β i = some b) (hdom0 : ∀ i b, B0.β i = some b → i < Hb.length) (hH0 : Hb.length ≤ (Hs 0).length) (hl0 : ∀ i, i < Hb.length → LiveId (Hs 0) i → kap Hb i)
    {Q' : Exit → Act → World → Prop} (hQ : ∀ a w, Sim B0 Hb (Ss l.length) (Hs l.length) a w → Q' .normal a w) :
    ∀ (fuel : Nat) (listed : Array Bool) (a : Act) (K : Cx), listed.size = l.length → listed.toList.countP (fun b => !b) = fuel → Inv P B0 Hb l Ss Hs Fs Ws (fun j => listed.getD j false = true) K a →
      wpAny P .any ops Q' fuel listed a K.w := by
  have hops : ∀ i, ops[i]? = l[i]? := fun i => by rw [R.ol]; exact Array.getElem?_toList.symm
  have hosz : ops.size = l.length := by rw [R.ol]; simp
  intro fuel
  induction fuel with
  | zero =>
    intro listed a K hsz hcnt h
    have hall : ∀ j, j < l.length → listed.getD j false = true := by
      intro j hj
      rw [List.countP_eq_zero] at hcnt
      have hjl : j < listed.size := by omega
      have := hcnt listed[j] (by simp)
      rw [Array.getD_eq_getD_getElem?, Array.getElem?_eq_getElem hjl]
      simpa using this
    refine ⟨?_, hQ a K.w (inv_end R h hall)⟩
    apply List.eq_nil_iff_forall_not_mem.2
    intro j hj
    rw [mem_ready] at hj
    obtain ⟨h0, o, ho, _⟩ := hj
    rw [hops] at ho
    have hjl := (List.getElem?_eq_some_iff.1 ho).1
    have := hall j hjl
    rw [Array.getD_eq_getD_getElem?, Array.getElem?_eq_getElem (by omega)] at this h0
    simp at this h0
    rw [this] at h0; cases h0
  | succ fuel ih =>
    intro listed a K hsz hcnt h
    have hE : ∀ j, listed.getD j false = true → Done l (fun j => listed.getD j false = true) j := fun j hj => (h.down j hj).2
    refine ⟨fun hnil => ?_, fun i hi => ?_⟩
    · exfalso
      -- the first that is not done is ready
      have hex : ∃ j, j < l.length ∧ listed.getD j false = false := by
        obtain ⟨b, hb, hbf⟩ := List.countP_pos_iff.1 (show 0 < listed.toList.countP (fun b => !b) by omega)
        obtain ⟨j, hj, rfl⟩ := List.getElem_of_mem hb
        have hjs : j < listed.size := by simpa using hj
        exact ⟨j, by omega, by rw [Array.getD_eq_getD_getElem?, Array.getElem?_eq_getElem hjs]; simpa using hbf⟩
      obtain ⟨j, ⟨hj, hf⟩, hmin⟩ := exists_least hex
      have hlj : l[j]? = some l[j] := List.getElem?_eq_getElem hj
      have hmem : j ∈ Region.ready .any ops listed := by
        rw [mem_ready]
        refine ⟨?_, l[j], by rw [hops]; exact hlj, fun e he hb => ?_⟩
        · rw [Array.getD_eq_getD_getElem?, Array.getElem?_eq_getElem (by omega)] at hf ⊢
          simpa using hf
        · have hlt := R.back j _ hlj e (by simpa using he) hb
          cases hv : listed.getD e.on false with
          | true => rfl
          | false => have := hmin e.on ⟨by omega, hv⟩; omega
      rw [hnil] at hmem; cases hmem
    · rw [mem_ready] at hi
      obtain ⟨h0, o, ho, hall⟩ := hi
      have hlo : l[i]? = some o := by rw [← hops]; exact ho
      have hil := (List.getElem?_eq_some_iff.1 hlo).1
      have hnf : listed.getD i false = false := by
        rw [Array.getD_eq_getD_getElem?, Array.getElem?_eq_getElem (by omega)] at h0 ⊢
        simpa using h0
      have hni : ¬ listed.getD i false = true := by rw [hnf]; simp
      have hdone : Done l (fun j => listed.getD j false = true) i := fun o' ho' e he hb => by
        rw [hlo] at ho'; cases ho'
        exact hall e (by simpa using he) hb
      obtain ⟨ao, g, hc, hg, haos⟩ := R.at_ i o hlo
      have hEnew : (fun j => (listed.setIfInBounds i true).getD j false = true) = fun j => listed.getD j false = true ∨ j = i := by
        funext j
        by_cases hji : j = i
        · subst hji
          simp only [or_true, eq_iff_iff, iff_true]
          rw [Array.getD_eq_getD_getElem?]
          simp [Array.getElem?_setIfInBounds, show j < listed.size by omega]
        · rw [getD_set_ne false (Ne.symm hji)]
          simp [hji]
      have hcnt' : (listed.setIfInBounds i true).toList.countP (fun b => !b) = fuel := by
        have hlt : i < listed.toList.length := by simp; omega
        have hget : listed.toList[i] = false := by
          rw [Array.getD_eq_getD_getElem?, Array.getElem?_eq_getElem (by omega)] at hnf
          simpa using hnf
        rw [Array.toList_setIfInBounds, List.countP_set hlt, hget, hcnt]
        simp
      have hlook : ∀ t, t ∈ looks ops o → Rep K ((Ss i).getD t .dead) (a.tmps.getD t undef) := fun t ht => h.look R hlo hni hdone ht
      have hfin : ∀ c K', Inv P B0 Hb l Ss Hs Fs Ws (fun j => listed.getD j false = true ∨ j = i) K' (a.put o.dst c) → wpAny P .any ops Q' fuel (listed.setIfInBounds i true) (a.put o.dst c) K'.w := fun c K' hinv =>
        ih _ _ _ (by simpa using hsz) hcnt' (by rw [hEnew]; exact hinv)
      have hts := R.step i _ haos
      have hrunc : GuardRun (Ss i) g → EvOp P (Ss i) (Hs i) ao (vs i) (Hs (i + 1)) (Fs i) (Ws i) → o.wp P a K.w (wpAny P .any ops Q' fuel (listed.setIfInBounds i true)) Q' := by
        intro _ he
        have hOd : ∀ x ∈ o.op.operands.toList, OnOd K (Ss i) a x := fun x hx t ht => hlook t (by
          unfold looks
          rw [List.mem_append]
          left
          exact List.mem_filterMap.2 ⟨x, hx, by rw [ht]⟩)
        have hdef : ∀ id ∈ Fs i, ∃ b, K.β id = some b := ev_def hc he hOd fun id hid hd => by
          obtain ⟨b, m, cells, hb, hm, hH, hok⟩ := h.blk id ⟨i, h.sepAt R hil hni hdone hid hd⟩
          obtain ⟨hsep, hlive⟩ := h.sepAt R hil hni hdone hid hd
          exact ⟨b, cells, hb, by rw [R.sepH_same hsep hm hlive.lt (List.getElem?_eq_some_iff.1 hH).1]; exact hH, hok⟩
        refine op_step hc he (h.heap R hil hni hdone hdef) (fun id h1 h2 => ?_) (fun id hid => hid) hOd ?_
        · cases hb : K.β id with
          | none => rfl
          | some b =>
            exfalso
            rcases h.dom id b hb with h3 | ⟨j, hj, hm⟩
            · have := R.hlen (i := 0) (j := i) (by omega) (by omega); omega
            · have := R.mk_one (h.down j hj).1 hil hm ⟨h1, h2⟩
              subst this; exact hni hj
        · intro c K' hK' hst' hrep
          exact hfin c K' (h.next R hdef0 hH0 hl0 hdom0 hlo hni hdone hdef hK' hst' hrep)
      have hskipc : vs i = .sc undef → Hs (i + 1) = Hs i → Fs i = [] → wpAny P .any ops Q' fuel (listed.setIfInBounds i true) (a.put o.dst undef) K.w := by
        intro hv hH hF
        have hD : (Dn (fun id => id ∈ Fs i) (Hs i) (Hs (i + 1))) = fun _ => False := by
          funext id
          refine propext ⟨?_, False.elim⟩
          rintro ⟨h1 | h1, h2⟩
          · rw [hF] at h1; cases h1
          · rw [hH] at h2; have := h2.lt; omega
        have hDF : (fun id => id ∈ Fs i) = fun _ => False := by funext id; rw [hF]; simp
        refine hfin undef K (h.next R hdef0 hH0 hl0 hdom0 hlo hni hdone (fun id hid => by rw [hF] at hid; cases hid) ?_ ?_ (by rw [hv]; simp [Rep]))
        · rw [hD]; exact ⟨fun _ _ _ h => h.elim, fun _ h => h.elim, fun _ _ h => h.elim, h.low⟩
        · rw [hD, hDF, hH]; exact Step.refl _ _ _
      unfold wpOp
      rw [ho]
      simp only []
      rcases cGuard_some hg with ⟨hgn, rfl⟩ | ⟨j, want, d, hgs, hd, rfl⟩
      · have hw : Region.wanted o (yielded ops a.tmps) = true := by unfold Region.wanted; rw [hgn]
        simp only [hw, if_true]
        rcases hts.2 with ⟨h1, h2⟩ | ⟨h1, _⟩
        · exact .inl (hrunc h1 h2)
        · exact h1.elim
      · have hdl : d ∈ looks ops o := by
          unfold looks
          rw [List.mem_append]
          right
          rw [hgs]
          simp [hd]
        have hrepd := hlook d hdl
        have hslot : ∀ x, (Ss i).getD d .dead = .sc x → a.tmps.getD d undef = x := fun x hx => by
          rw [hx] at hrepd
          simpa [Rep] using hrepd
        rcases hts.2 with ⟨h1, h2⟩ | ⟨h1, h2, h3, h4, h5⟩
        · have h1' : (Ss i).getD d .dead = .sc (.bool want) := h1
          have hw : Region.wanted o (yielded ops a.tmps) = true := by
            unfold Region.wanted; rw [hgs]
            simp only [yielded_of hd (hslot _ h1')]
            cases want <;> rfl
          simp only [hw, if_true]
          exact .inl (hrunc h1 h2)
        · have h1' : (Ss i).getD d .dead = .sc (.bool (!want)) ∨ (Ss i).getD d .dead = .sc undef := h1
          have hw : Region.wanted o (yielded ops a.tmps) = false := by
            unfold Region.wanted; rw [hgs]
            rcases h1' with hb | hb
            · simp only [yielded_of hd (hslot _ hb)]
              cases want <;> rfl
            · simp only [yielded_undef hd (hslot _ hb)]
              rfl
          simp only [hw, Bool.false_eq_true, if_false]
          exact hskipc h2 h3 h4
end
end Go.Proofs.YtfpoebmihjbknaaGreat.VA

/- The soundness of 'VA': code and functions. -/
set_option linter.unusedVariables false
set_option linter.unusedSimpArgs false
namespace Go.Proofs.YtfpoebmihjbknaaGreat.VA
open Go
theorem draw_sound {P : Program} (hm : P.follows .mixedOrders = true) {id : Nat} {ops : Array Oper} {aos : List AOper} (hc : cOps P ops ops.toList = some aos) (hd : drawOK ops ops.toList (freePairs ops.toList) = true)
    {B0 : Cx} {Hb : Heap} (hdef : ∀ i, kap Hb i → ∃ b, B0.β i = some b) (hdom : ∀ i b, B0.β i = some b → i < Hb.length)
    {Q : List V → Heap → Prop} {Q' : Exit → Act → World → Prop} (hQ : ∀ S H a w, Sim B0 Hb S H a w → Q S H → Q' .normal a w)
    {S : List V} {H : Heap} {a : Act} {w : World} (hs : Sim B0 Hb S H a w)
    (hr : RunOps P (fun S H FW => chk FW (askedPairs ops.toList (freePairs ops.toList)) = true ∧ Q S H) aos S H []) : (Code.region id ops true).wp P Q' a w := by
  obtain ⟨Ss, Hs, vs, Fs, Ws, h0, h1, hst, hck, hq⟩ := run_trace aos S H [] hr
  have hlen := (cOps_at hc).1
  have R : Reg P ops ops.toList aos Ss Hs vs Fs Ws := reg_of rfl hc hd hst (by rw [hlen] at hck; simpa using hck)
  rw [← h0, ← h1] at hs
  refine wp_region_any hm ?_
  have hsz : ops.toList.length = ops.size := by simp
  obtain ⟨K, hw, hinv⟩ := inv_start R (sim_drawn hs) (E := fun j => (Array.replicate ops.size false).getD j false = true) (fun j => by
    rw [Array.getD_eq_getD_getElem?, Array.getElem?_replicate]; split <;> simp)
  rw [← hw]
  have hs' := hs
  obtain ⟨K0, _, _, _, hst0, _, _, _⟩ := hs'
  refine any_sound R hdef hdom hst0.len (fun i hi hl => ?_) (fun a w h => hQ _ _ a w h (by rw [← hlen]; exact hq)) ops.size _ a K (by simp) (by simp [List.countP_replicate]) hinv
  rcases hst0.dd i hl with h | ⟨_, h, _⟩
  · exact h
  · omega
theorem frz_getD (id : Nat) (cells : List V) (S : List V) (t : Nat) : (S.map (frzV id cells)).getD t .dead = frzV id cells (S.getD t .dead) := by
  simp only [List.getD_eq_getElem?_getD, List.getElem?_map]
  cases S[t]? <;> simp [frzV]
theorem addr_off (b o : Nat) : (⟨b, 0, none⟩ : Addr).add o = ⟨b, o, none⟩ := by unfold Addr.add; split <;> simp_all
theorem frz_rep {K K' : Cx} {H : Heap} {id b : Nat} {cells : List V} (hp : Pres K K') (hw : K'.w = K.w) (hb : K.β id = some b) (hok : BlkOK K' b cells) (hro : RoOK K' b) (v : V) (c : Value) (hr : Rep K v c) : Rep K' (frzV id cells v) c := by
  unfold frzV
  split
  · rename_i i off
    split
    · subst_vars
      simp only [Rep] at hr ⊢; obtain ⟨b2, hb2, hc⟩ := hr
      rw [hb] at hb2; cases hb2
      refine ⟨⟨b, off, none⟩, hc, .inr hro, ?_⟩
      rw [← addr_off]
      exact (RepC.of_blk hok).drop off
    · exact Rep.pres hp _ c hr
  · rename_i i off n sz
    split
    · subst_vars
      split
      · rename_i hle
        simp only [Rep] at hr ⊢; obtain ⟨b2, o, cap, hb2, hc, hn, ho, _⟩ := hr
        rw [hb] at hb2; cases hb2
        refine ⟨⟨b, o, none⟩, cap, hc, hn, .inr hro, ?_⟩
        by_cases hn0 : n = 0
        · subst hn0; simp [RepC]
        · have : o = off := by
            rcases ho with ho | ho
            · omega
            · exact ho
          subst this
          rw [← addr_off]
          exact ((RepC.of_blk hok).drop o).take (n * sz)
      · simp [Rep]
    · exact Rep.pres hp _ c hr
  · exact Rep.pres hp _ c hr
theorem kap_set {H : Heap} {id i : Nat} : kap (H.set id none) i ↔ i ≠ id ∧ kap H i := by
  unfold kap LiveId
  by_cases h : id = i
  · subst h
    rw [List.getElem?_set_self']
    constructor
    · rintro ⟨c, hc⟩
      cases hH : H[id]? <;> simp [hH] at hc
    · rintro ⟨h, _⟩; exact absurd rfl h
  · rw [List.getElem?_set_ne h]
    exact ⟨fun h' => ⟨fun e => h e.symm, h'⟩, fun h' => h'.2⟩
theorem keepS_len {H : Heap} {sel : List Nat} : ∀ {S S' : List V}, KeepS H sel S S' → S.length = S'.length
  | [], [], _ => rfl
  | v :: vs, a :: us, h => by simp only [KeepS] at h; simp [keepS_len h.2]
  | [], a :: us, h => by simp [KeepS] at h
  | v :: vs, [], h => by simp [KeepS] at h
theorem keepS_get {H : Heap} {sel : List Nat} : ∀ {S S' : List V}, KeepS H sel S S' → ∀ t, S'.getD t .dead = .dead ∨ ArgRel H sel [] (S.getD t .dead) (S'.getD t .dead)
  | [], [], _, t => .inl (by simp)
  | v :: vs, a :: us, h, t => by
    simp only [KeepS] at h
    cases t with
    | zero => exact h.1
    | succ t => simpa using keepS_get h.2 t
  | [], a :: us, h, _ => by simp [KeepS] at h
  | v :: vs, [], h, _ => by simp [KeepS] at h
theorem keepH_len {H : Heap} {sel : List Nat} : ∀ {l : List Nat} {H' : Heap}, KeepH H sel l H' → l.length = H'.length
  | [], [], _ => rfl
  | id :: ids, none :: H', h => by simp only [KeepH] at h; simp [keepH_len h]
  | id :: ids, some c :: H', h => by simp only [KeepH] at h; simp [keepH_len h.2]
  | [], a :: us, h => by simp [KeepH] at h
  | v :: vs, [], h => by simp [KeepH] at h
theorem keepH_get {H : Heap} {sel : List Nat} : ∀ {l : List Nat} {H' : Heap}, KeepH H sel l H' → ∀ (k : Nat) (cells' : List V), H'[k]? = some (some cells') → ∃ id cells, l[k]? = some id ∧ blkAt H id = some cells ∧ ArgRelL H sel [] cells cells'
  | [], [], _, k, c, hk => by simp at hk
  | id :: ids, none :: H', h, k, c, hk => by
    simp only [KeepH] at h
    cases k with
    | zero => simp at hk
    | succ k => simpa using keepH_get h k c (by simpa using hk)
  | id :: ids, some cs :: H', h, k, c, hk => by
    simp only [KeepH] at h
    cases k with
    | zero => simp at hk; subst hk; obtain ⟨cells, h1, h2⟩ := h.1; exact ⟨id, cells, rfl, h1, h2⟩
    | succ k => simpa using keepH_get h.2 k c (by simpa using hk)
  | [], a :: us, h, _, _, _ => by simp [KeepH] at h
  | v :: vs, [], h, _, _, _ => by simp [KeepH] at h
theorem weak_sim {B0 : Cx} {Hb : Heap} (hdef : ∀ i, kap Hb i → ∃ b, B0.β i = some b) (hdom : ∀ i b, B0.β i = some b → i < Hb.length) {a : Act} {w : World} {σ σ' : St} (hk : Weak Hb.length σ σ') (hs : Sim B0 Hb σ.S σ.H a w) : Sim B0 Hb σ'.S σ'.H a w := by
  induction hk with
  | refl => exact hs
  | trans _ _ h1 h2 => exact h2 (h1 hs)
  | frz σ id cells h =>
    obtain ⟨K, rfl, hK, hdom, hst, hlen, hsl, hdf⟩ := hs
    have hlive : kap σ.H id := ⟨cells, blkAt_iff.1 h⟩
    obtain ⟨b, cells', hb, hH, hok⟩ := hK.blk id hlive
    rw [blkAt_iff, hH] at h; cases h
    have hown := hK.own id b hlive hb
    let K' : Cx := { K with N := fun x => K.N x ∧ x ≠ b }
    have hp : Pres K K' := ⟨fun _ _ h => h, fun x hx _ => ⟨⟨fun hn => hx.1 hn.1, hx.2⟩, rfl⟩, fun b C e fz h => ⟨C, fz, h, rfl⟩⟩
    have hro : RoOK K' b := ⟨fun hn => hn.2 rfl, hown.2⟩
    refine ⟨K', rfl, ⟨fun i j x hi hj => hK.inj i j x (kap_set.1 hi).2 (kap_set.1 hj).2, fun i hi => ?_, fun i x hi hx => ?_, hK.low⟩, fun i x hx => by simpa using hdom i x hx,
      ⟨hst.B, hst.R, hst.os, hst.tape, hst.output, hst.size, by simpa using hst.len, hst.ext, fun i x hx => by simpa using hst.new i x hx, fun x hx => hst.nn x hx.1, fun x hx hlt hno => ⟨hst.nk x hx hlt hno, ?_⟩, fun i hi => by simpa using hst.dd i (kap_set.1 hi).2, hst.frame, hst.shape⟩,
      by simpa using hlen, fun t => ?_, hdf⟩
    · obtain ⟨hne, hi'⟩ := kap_set.1 hi
      obtain ⟨x, cs, hx, hHi, hokx⟩ := hK.blk i hi'
      exact ⟨x, cs, hx, by rw [List.getElem?_set_ne (Ne.symm hne)]; exact hHi, hokx.pres hp rfl⟩
    · obtain ⟨hne, hi'⟩ := kap_set.1 hi
      have := hK.own i x hi' hx
      exact ⟨⟨this.1, fun e => hne (hK.inj i id x hi' hlive hx (by rw [e]; exact hb))⟩, this.2⟩
    · rintro rfl
      rcases hst.own hdef x ⟨id, hlive, hb⟩ with h1 | h1
      · exact hno h1
      · omega
    · rw [frz_getD]
      exact frz_rep (H := σ.H) hp rfl hb (hok.pres hp rfl) hro _ _ (hsl t)
  | ren σ S' H' sel hnd hlo hS hH =>
    obtain ⟨K', rfl, hK', hdomk, hst, hlen, hsl, hdf⟩ := hs
    have hcells := keepH_get hH
    have hsl1 := keepH_len hH
    have hn : Hb.length ≤ H'.length := by
      rw [← hsl1]
      by_cases h0 : Hb.length = 0
      · omega
      · have := (List.getElem?_eq_some_iff.1 (hlo (Hb.length - 1) (by omega))).1
        omega
    let K2 : Cx := { K' with β := fun k => (sel[k]?).bind K'.β }
    have hβ : ∀ k id, sel[k]? = some id → K2.β k = K'.β id := fun k id hk => by show (sel[k]?).bind K'.β = _; rw [hk]; rfl
    have hβ' : ∀ k b, K2.β k = some b → ∃ id, sel[k]? = some id ∧ K'.β id = some b := fun k b hb => by
      have hb' : (sel[k]?).bind K'.β = some b := hb
      simpa [Option.bind_eq_some_iff] using hb'
    have hcx : CallCx K' K2 σ.H (kap σ.H) sel [] := ⟨rfl, hβ, fun b h => h, fun id b _ h => by cases h⟩
    have hselinj : ∀ i j x, sel[i]? = some x → sel[j]? = some x → i = j := fun i j x hi hj => by
      obtain ⟨hi1, hi2⟩ := List.getElem?_eq_some_iff.1 hi
      obtain ⟨hj1, hj2⟩ := List.getElem?_eq_some_iff.1 hj
      exact (List.getElem_inj hnd).1 (hi2.trans hj2.symm)
    have hout : ∀ k, kap H' k → ∃ id cells, sel[k]? = some id ∧ σ.H[id]? = some (some cells) ∧ K2.β k = K'.β id := fun k ⟨cs, hcs⟩ => by
      obtain ⟨id, cells, h1, h2, _⟩ := hcells k cs hcs
      exact ⟨id, cells, h1, blkAt_iff.1 h2, hβ k id h1⟩
    refine ⟨K2, rfl, ⟨?_, ?_, ?_, hK'.low⟩, ?_, ?_, by rw [← keepS_len hS]; exact hlen, fun t => ?_, hdf⟩
    · intro i j b hi hj hbi hbj
      obtain ⟨x, cx, hx, hHx, hbx⟩ := hout i hi
      obtain ⟨y, cy, hy, hHy, hby⟩ := hout j hj
      rw [hbx] at hbi; rw [hby] at hbj
      have := hK'.inj x y b ⟨cx, hHx⟩ ⟨cy, hHy⟩ hbi hbj
      subst this
      exact hselinj i j x hx hy
    · rintro k ⟨cs, hcs⟩
      obtain ⟨id, cells, h1, h2, h3⟩ := hcells k cs hcs
      rw [blkAt_iff] at h2
      obtain ⟨b, cells2, hb, hH2, C, e, lo, up, hC, hcl, hfz, h1c, hcc⟩ := hK'.blk id ⟨cells, h2⟩
      rw [h2] at hH2; cases hH2
      refine ⟨b, cs, by rw [hβ k id h1]; exact hb, hcs, C, e, lo, up, hC, by rw [argL_len h3]; exact hcl, hfz, h1c, fun i u hu => ?_⟩
      obtain ⟨u0, hu0, hrel0⟩ := argL_get h3 i u hu
      obtain ⟨c, hc1, hr⟩ := hcc i u0 hu0
      exact ⟨c, hc1, arg_rep hK' hcx (fun i hi => by cases hi) u0 u c hrel0 hr⟩
    · intro k b hk hb
      obtain ⟨id, cells, h1, h2, h3⟩ := hout k hk
      rw [h3] at hb
      exact hK'.own id b ⟨cells, h2⟩ hb
    · intro k b hb
      obtain ⟨id, h1, _⟩ := hβ' k b hb
      have := (List.getElem?_eq_some_iff.1 h1).1
      show k < H'.length
      omega
    · refine ⟨hst.B, hst.R, hst.os, hst.tape, hst.output, hst.size, hn, fun i b hb => ?_, fun k b hb => ?_, hst.nn, hst.nk, fun k hk => ?_, hst.frame, hst.shape⟩
      · rw [hβ i i (hlo i (hdom i b hb))]; exact hst.ext i b hb
      · obtain ⟨id, h1, h2⟩ := hβ' k b hb
        have hkl := (List.getElem?_eq_some_iff.1 h1).1
        by_cases hkn : k < Hb.length
        · have := hlo k hkn
          rw [h1] at this; cases this
          rcases hst.new k b h2 with h3 | ⟨_, h3, _⟩
          · exact .inl h3
          · omega
        · have hKk : B0.β k = none := by
            cases hkb : B0.β k with
            | none => rfl
            | some x => exact absurd (hdom k x hkb) hkn
          refine .inr ⟨hKk, by omega, by show k < H'.length; omega, ?_⟩
          rcases hst.new id b h2 with h3 | ⟨_, _, _, h3⟩
          · exfalso
            have := hdom id b h3
            have := hselinj id k id (hlo id this) h1
            omega
          · exact h3
      · by_cases hkn : k < Hb.length
        · left
          obtain ⟨cs, hcs⟩ := hk
          obtain ⟨id, cells, h1, h2, _⟩ := hcells k cs hcs
          rw [hlo k hkn] at h1; cases h1
          rcases hst.dd k ⟨cells, blkAt_iff.1 h2⟩ with h | ⟨_, h, _⟩
          · exact h
          · omega
        · refine .inr ⟨?_, by omega, hk.lt⟩
          cases hkb : B0.β k with
          | none => rfl
          | some x => exact absurd (hdom k x hkb) hkn
    · rcases keepS_get hS t with h | h
      · show Rep K2 (S'.getD t .dead) _
        rw [h]; simp [Rep]
      · exact arg_rep hK' hcx (fun i hi => by cases hi) _ _ _ h (hsl t)
def toExit : AExit → Exit
  | .normal => .normal
  | .exit id => .exit id
  | .ret => .ret
theorem code_sound {P : Program} (hm : P.follows .mixedOrders = true) {B0 : Cx} {Hb : Heap} (hdef : ∀ i, kap Hb i → ∃ b, B0.β i = some b) (hdom : ∀ i b, B0.β i = some b → i < Hb.length) :
    ∀ (c : Code) (A : ACode), cCode P c = some A → ∀ (Qa : AExit → St → Prop) (Q : Exit → Act → World → Prop), (∀ e σ a w, Sim B0 Hb σ.S σ.H a w → Qa e σ → Q (toExit e) a w) →
      ∀ σ a w, Sim B0 Hb σ.S σ.H a w → wpA P Hb.length A Qa σ → c.wp P Q a w
  | .skip, A, hc, Qa, Q, hQ, σ, a, w, hs, hw => by
    simp only [cCode] at hc; cases hc
    exact wp_skip (hQ .normal σ a w hs hw)
  | .region id ops draw, A, hc, Qa, Q, hQ, σ, a, w, hs, hw => by
    cases draw with
    | false =>
      simp only [cCode, Option.map_eq_some_iff] at hc
      obtain ⟨aos, hc, rfl⟩ := hc
      obtain ⟨σ', hk, hr⟩ := hw
      have hs' := weak_sim hdef hdom hk hs
      refine wp_region ?_
      rw [List.range_eq_range', ← Array.length_toList]
      exact seq_sound hdef (fun S H FW a w hs hq => hQ .normal ⟨S, H⟩ a w hs hq.2) ops.toList aos 0 hc (fun j hj => by simp) _ _ _ a w hs' hr
    | true =>
      simp only [cCode] at hc
      split at hc
      · rename_i hd
        simp only [Option.map_eq_some_iff] at hc
        obtain ⟨aos, hc, rfl⟩ := hc
        obtain ⟨σ', hk, hr⟩ := hw
        have hs' := weak_sim hdef hdom hk hs
        exact draw_sound hm hc hd hdef hdom (Q := fun S H => Qa .normal ⟨S, H⟩) (fun S H a w hs hq => hQ .normal ⟨S, H⟩ a w hs hq) hs' hr
      · cases hc
  | .seq x y, A, hc, Qa, Q, hQ, σ, a, w, hs, hw => by
    simp only [cCode, Option.bind_eq_bind, Option.bind_eq_some_iff, Option.pure_def, Option.some.injEq] at hc
    obtain ⟨A1, h1, A2, h2, rfl⟩ := hc
    refine wp_seq (code_sound hm hdef hdom x A1 h1 _ _ ?_ σ a w hs hw)
    intro e σ' a' w' hs' hq
    cases e with
    | normal => exact code_sound hm hdef hdom y A2 h2 Qa Q hQ σ' a' w' hs' hq
    | exit i => exact hQ (.exit i) σ' a' w' hs' hq
    | ret => exact hQ .ret σ' a' w' hs' hq
  | .cond c x y, A, hc, Qa, Q, hQ, σ, a, w, hs, hw => by
    simp only [cCode, Option.bind_eq_bind, Option.bind_eq_some_iff, Option.pure_def, Option.some.injEq] at hc
    obtain ⟨d, h0, A1, h1, A2, h2, rfl⟩ := hc
    obtain ⟨t, ht, hyes, hno⟩ := hw
    have hev : a.eval c = .bool t := by
      obtain ⟨K, _, _, _, _, _, hsl, _⟩ := hs
      have := od_rep h0 (show OnOd K σ.S a c from fun t _ => hsl t)
      rw [ht] at this
      exact rep_bool this
    exact wp_cond_split hev (fun h => code_sound hm hdef hdom x A1 h1 Qa Q hQ σ a w hs (hyes h)) (fun h => code_sound hm hdef hdom y A2 h2 Qa Q hQ σ a w hs (hno h))
  | .block id x, A, hc, Qa, Q, hQ, σ, a, w, hs, hw => by
    simp only [cCode, Option.map_eq_some_iff] at hc
    obtain ⟨A1, h1, rfl⟩ := hc
    refine wp_block (code_sound hm hdef hdom x A1 h1 _ _ ?_ σ a w hs hw)
    intro e σ' a' w' hs' hq
    cases e with
    | normal => exact hQ .normal σ' a' w' hs' hq
    | exit i =>
      by_cases hi : i = id
      · simp only [hi, if_true] at hq
        simpa [toExit, Exit.inBlock, hi] using hQ .normal σ' a' w' hs' hq
      · simp only [hi, if_false] at hq
        simpa [toExit, Exit.inBlock, hi] using hQ (.exit i) σ' a' w' hs' hq
    | ret => exact hQ .ret σ' a' w' hs' hq
  | .loop x, A, hc, Qa, Q, hQ, σ, a, w, hs, hw => by
    simp only [cCode, Option.map_eq_some_iff] at hc
    obtain ⟨A1, h1, rfl⟩ := hc
    obtain ⟨I, m, σ1, hk, h0, hround⟩ := hw
    refine wp_loop_ghost (fun n a w => ∃ σ, Sim B0 Hb σ.S σ.H a w ∧ I n σ) m ⟨σ1, weak_sim hdef hdom hk hs, h0⟩ ?_
    rintro n a w ⟨σ, hs, hI⟩
    refine code_sound hm hdef hdom x A1 h1 _ _ ?_ σ a w hs (hround n σ hI)
    intro e σ' a' w' hs' hq
    cases e with
    | normal =>
      obtain ⟨n', σ2, hn, hk', hI'⟩ := hq
      exact ⟨n', hn, σ2, weak_sim hdef hdom hk' hs', hI'⟩
    | exit i => exact hQ (.exit i) σ' a' w' hs' hq
    | ret => exact hQ .ret σ' a' w' hs' hq
  | .exit id, A, hc, Qa, Q, hQ, σ, a, w, hs, hw => by
    simp only [cCode] at hc; cases hc
    exact wp_exit (hQ (.exit id) σ a w hs hw)
  | .ret, A, hc, Qa, Q, hQ, σ, a, w, hs, hw => by
    simp only [cCode] at hc; cases hc
    exact wp_ret (hQ .ret σ a w hs hw)
  | .rangeFunc .., A, hc, _, _, _, _, _, _, _, _ => by simp [cCode] at hc
  | .scope .., A, hc, _, _, _, _, _, _, _, _ => by simp [cCode] at hc
  | .label .., A, hc, _, _, _, _, _, _, _, _ => by simp [cCode] at hc
  | .goto .., A, hc, _, _, _, _, _, _, _, _ => by simp [cCode] at hc
  | .refuse .., A, hc, _, _, _, _, _, _, _, _ => by simp [cCode] at hc
def resOf (tmps : Array Value) : ResultVar → Sem Value
  | .tmp t => pure (tmps.getD t undef)
  | .cell x t => do loadVar t (← asAddr (tmps.getD x undef))
theorem results_eq (fn : Func) (tmps : Array Value) : results fn tmps = (do
    let vs ← fn.results.mapM (resOf tmps)
    pure (if h : vs.size = 1 then vs[0] else .tuple vs)) := by
  unfold results
  congr 1
theorem resV_sound {P : Program} {K : Cx} {S : List V} {H : Heap} (hK : HeapOK K H (kap H)) {a : Act} (hsl : ∀ t, Rep K (S.getD t .dead) (a.tmps.getD t undef)) {rs : List ResultVar} {ars : List ARes} {vs : List V} :
    cRes P rs = some ars → resL S H ars = some vs → ∃ cs, (rs.mapM (resOf a.tmps)).run P K.w = Result.ok cs K.w ∧ RepL K vs cs := by
  induction rs generalizing ars vs with
  | nil =>
    intro hc hv
    simp only [cRes] at hc; cases hc
    simp only [resL] at hv; cases hv
    exact ⟨[], by simp, by simp [RepL]⟩
  | cons r rs ih =>
    intro hc hv
    cases r with
    | tmp t =>
      simp only [cRes, Option.bind_eq_bind, Option.bind_eq_some_iff, Option.pure_def, Option.some.injEq] at hc
      obtain ⟨ars', h1, rfl⟩ := hc
      simp only [resL, resV] at hv
      split at hv
      · rename_i v vs' hv1 hv2
        cases hv1; cases hv
        obtain ⟨cs, hrun, hrep⟩ := ih h1 hv2
        exact ⟨a.tmps.getD t undef :: cs, by simp [List.mapM_cons, resOf, hrun], by simp only [RepL]; exact ⟨_, _, rfl, hsl t, hrep⟩⟩
      · cases hv
    | cell x ty =>
      simp only [cRes, Option.bind_eq_bind, Option.bind_eq_some_iff, Option.pure_def, Option.some.injEq] at hc
      obtain ⟨k, hk, ars', h1, rfl⟩ := hc
      simp only [resL] at hv
      split at hv
      · rename_i v vs' hv1 hv2
        cases hv
        obtain ⟨cs, hrun, hrep⟩ := ih h1 hv2
        simp only [resV] at hv1
        split at hv1
        · rename_i id off hS
          split at hv1
          · rename_i cells hblk
            have hx := hsl x
            rw [hS] at hx
            simp only [Rep] at hx
            obtain ⟨b, hb, hcx⟩ := hx
            rw [blkAt_iff] at hblk
            obtain ⟨b2, cells2, hb2, hH2, hok⟩ := hK.blk id ⟨cells, hblk⟩
            rw [hb] at hb2; cases hb2
            rw [hblk] at hH2; cases hH2
            obtain ⟨c, hload, hc⟩ := rd_sound hk hv1 (RepC.of_blk hok)
            rw [addr_off] at hload
            refine ⟨c :: cs, ?_, by simp only [RepL]; exact ⟨_, _, rfl, hc, hrep⟩⟩
            simp [List.mapM_cons, resOf, hcx, asAddr, hload, hrun]
          · cases hv1
        · cases hv1
      · cases hv
theorem resAll_sound {P : Program} {K : Cx} {S : List V} {H : Heap} (hK : HeapOK K H (kap H)) {a : Act} (hsl : ∀ t, Rep K (S.getD t .dead) (a.tmps.getD t undef)) {fn : Func} {ars : List ARes} {v : V}
    (hc : cRes P fn.results.toList = some ars) (hv : resAll S H ars = some v) : ∃ c, (results fn a.tmps).run P K.w = Result.ok c K.w ∧ Rep K v c := by
  unfold resAll at hv
  have key : ∀ vs, resL S H ars = some vs → ∃ cs : List Value, (results fn a.tmps).run P K.w = Result.ok (if h : cs.toArray.size = 1 then cs.toArray[0] else .tuple cs.toArray) K.w ∧ RepL K vs cs := by
    intro vs hvs
    obtain ⟨cs, hrun, hrep⟩ := resV_sound hK hsl hc hvs
    refine ⟨cs, ?_, hrep⟩
    rw [results_eq, Array.mapM_eq_mapM_toList]
    simp [hrun]
  split at hv
  · rename_i u hr
    cases hv
    obtain ⟨cs, hrun, hrep⟩ := key _ hr
    simp only [RepL] at hrep
    obtain ⟨c, l', rfl, h1, rfl⟩ := hrep
    exact ⟨c, by simpa using hrun, h1⟩
  · rename_i vs hne hr
    cases hv
    obtain ⟨cs, hrun, hrep⟩ := key _ hr
    have hl := hrep.length
    have h1 : ¬ cs.toArray.size = 1 := by
      intro h
      have h1 : vs.length = 1 := by rw [← hl]; simpa using h
      match vs, h1 with
      | [u], _ => exact hne u rfl
    rw [dif_neg h1] at hrun
    exact ⟨_, hrun, by simp only [Rep]; exact ⟨cs, rfl, hrep⟩⟩
  · cases hv
theorem C_of_sim {P : Program} {f : Nat} {fn : Func} {c : Code} {ars : List ARes} (hf : P.funcs[f]? = some fn) (hb : fn.body = some c)
    (hR : cRes P fn.results.toList = some ars) {args : List V} {Hin : List (List V)} {r : V} {Hout : Heap}
    (h : ∀ (K : Cx) (a : Act) (w : World), (∀ i, kap (Hin.map some) i → ∃ b, K.β i = some b) → (∀ i b, K.β i = some b → i < (Hin.map some).length) → Sim K (Hin.map some) (args ++ List.replicate (fn.ntmps - args.length) .dead) (Hin.map some) a w →
      c.wp P (fun e a w => ∃ σ : St, Sim K (Hin.map some) σ.S σ.H a w ∧ (e = .normal ∨ e = .ret) ∧ ∃ v, resAll σ.S σ.H ars = some v ∧ OutOK Hin.length σ.H v r Hout) a w) : C P f args Hin r Hout := by
  intro K vs hB hK hdom hargs
  refine calls_of_wp hf hb ?_
  have hlv := hargs.length
  have hdom' : ∀ i b, K.β i = some b → i < (Hin.map some).length := fun i b hb => by simpa using hdom i b hb
  have hsim : Sim K (Hin.map some) (args ++ List.replicate (fn.ntmps - args.length) .dead) (Hin.map some) { tmps := vs.toArray ++ Array.replicate (fn.ntmps - vs.toArray.size) undef, defers := [] } K.w := by
    refine ⟨K, rfl, hK, hdom', Step.refl _ _ _, by simp [hlv], fun t => ?_, rfl⟩
    by_cases ht : t < args.length
    · obtain ⟨c, hc, hr⟩ := hargs.get t args[t] (List.getElem?_eq_getElem ht)
      rw [List.getD_eq_getElem?_getD, List.getElem?_append_left ht, List.getElem?_eq_getElem ht]
      rw [Array.getD_eq_getD_getElem?, Array.getElem?_append_left (by simpa [hlv] using ht)]
      simpa [hc] using hr
    · have : (args ++ List.replicate (fn.ntmps - args.length) V.dead).getD t .dead = .dead := by
        rw [List.getD_eq_getElem?_getD, List.getElem?_append_right (by omega), List.getElem?_replicate]
        split <;> rfl
      rw [this]; simp [Rep]
  refine wp_mono (h K _ _ hK.def hdom' hsim) ?_
  rintro e a w ⟨σ, ⟨K', rfl, hK', hdomk, hst, hlen, hsl, hdf⟩, he, v, hv, sel, bs, hnd, hsl1, hn, hold, hbs, harg, hcells⟩
  obtain ⟨c, hrun, hrep⟩ := resAll_sound hK' hsl hR hv
  suffices hfin : ∃ c' K'', Ending.returned c = .returned c' ∧ K''.w = K'.w ∧ HeapOK K'' Hout (kap Hout) ∧ (∀ i b, K''.β i = some b → i < Hout.length) ∧
      Step K (Hin.map some) (kap (Hin.map some)) K'' Hout (kap Hout) ∧ Rep K'' r c' by
    rcases he with rfl | rfl
    · exact ⟨hdf, c, hrun, hfin⟩
    · exact ⟨hdf, c, hrun, hfin⟩
  let frz : Nat → Prop := fun b => ∃ x, x ∈ bs ∧ x ∉ sel ∧ K'.β x = some b
  let K2 : Cx := { K' with β := fun k => (sel[k]?).bind K'.β, N := fun b => K'.N b ∧ ¬ frz b }
  have hbsD : ∀ x, x ∈ bs → kap σ.H x := fun x hx => by
    obtain ⟨cells, hc⟩ := hbs x hx
    exact ⟨cells, blkAt_iff.1 hc⟩
  have hβ : ∀ k id, sel[k]? = some id → K2.β k = K'.β id := fun k id hk => by show (sel[k]?).bind K'.β = _; rw [hk]; rfl
  have hβ' : ∀ k b, K2.β k = some b → ∃ id, sel[k]? = some id ∧ K'.β id = some b := fun k b hb => by
    have hb' : (sel[k]?).bind K'.β = some b := hb
    simpa [Option.bind_eq_some_iff] using hb'
  have hcx : CallCx K' K2 σ.H (kap σ.H) sel bs := ⟨rfl, hβ, fun b h => ⟨fun hn => h.1 hn.1, h.2⟩, fun id b hni hid hD hb => ⟨fun hn => hn.2 ⟨id, hid, hni, hb⟩, (hK'.own id b hD hb).2⟩⟩
  have hselinj : ∀ i j x, sel[i]? = some x → sel[j]? = some x → i = j := fun i j x hi hj => by
    obtain ⟨hi1, hi2⟩ := List.getElem?_eq_some_iff.1 hi
    obtain ⟨hj1, hj2⟩ := List.getElem?_eq_some_iff.1 hj
    exact (List.getElem_inj hnd).1 (hi2.trans hj2.symm)
  have hout : ∀ k, kap Hout k → ∃ id cells, sel[k]? = some id ∧ σ.H[id]? = some (some cells) ∧ K2.β k = K'.β id := fun k ⟨cs, hcs⟩ => by
    obtain ⟨id, cells, h1, h2, _⟩ := hcells k cs hcs
    exact ⟨id, cells, h1, blkAt_iff.1 h2, hβ k id h1⟩
  refine ⟨c, K2, rfl, rfl, ⟨?_, ?_, ?_, hK'.low⟩, ?_, ?_, arg_rep hK' hcx hbsD v r c harg hrep⟩
  · intro i j b hi hj hbi hbj
    obtain ⟨x, cx, hx, hHx, hbx⟩ := hout i hi
    obtain ⟨y, cy, hy, hHy, hby⟩ := hout j hj
    rw [hbx] at hbi; rw [hby] at hbj
    have := hK'.inj x y b ⟨cx, hHx⟩ ⟨cy, hHy⟩ hbi hbj
    subst this
    exact hselinj i j x hx hy
  · rintro k ⟨cs, hcs⟩
    obtain ⟨id, cells, h1, h2, h3⟩ := hcells k cs hcs
    rw [blkAt_iff] at h2
    obtain ⟨b, cells2, hb, hH2, C, e, lo, up, hC, hcl, hfz, h1c, hcc⟩ := hK'.blk id ⟨cells, h2⟩
    rw [h2] at hH2; cases hH2
    refine ⟨b, cs, by rw [hβ k id h1]; exact hb, hcs, C, e, lo, up, hC, by rw [argL_len h3]; exact hcl, hfz, h1c, fun i u hu => ?_⟩
    obtain ⟨u0, hu0, hrel0⟩ := argL_get h3 i u hu
    obtain ⟨c, hc1, hr⟩ := hcc i u0 hu0
    exact ⟨c, hc1, arg_rep hK' hcx hbsD u0 u c hrel0 hr⟩
  · intro k b hk hb
    obtain ⟨id, cells, h1, h2, h3⟩ := hout k hk
    rw [h3] at hb
    obtain ⟨o1, o2⟩ := hK'.own id b ⟨cells, h2⟩ hb
    refine ⟨⟨o1, ?_⟩, o2⟩
    rintro ⟨x, hx, hxs, hxb⟩
    have := hK'.inj id x b ⟨cells, h2⟩ (hbsD x hx) hb hxb
    subst this
    exact hxs (List.mem_of_getElem? h1)
  · intro k b hb
    obtain ⟨id, h1, _⟩ := hβ' k b hb
    have := (List.getElem?_eq_some_iff.1 h1).1
    omega
  · refine ⟨hst.B, hst.R, hst.os, hst.tape, hst.output, hst.size, by simpa using hn, fun i b hb => ?_, fun k b hb => ?_, fun b hb => hst.nn b hb.1, fun b hb hlt hno => ⟨hst.nk b hb hlt hno, ?_⟩, fun k hk => ?_, hst.frame, hst.shape⟩
    · rw [hβ i i (hold i (hdom i b hb))]; exact hst.ext i b hb
    · obtain ⟨id, h1, h2⟩ := hβ' k b hb
      have hkl := (List.getElem?_eq_some_iff.1 h1).1
      by_cases hkn : k < Hin.length
      · have := hold k hkn
        rw [h1] at this; cases this
        rcases hst.new k b h2 with h3 | ⟨_, h3, _⟩
        · exact .inl h3
        · simp at h3; omega
      · have hKk : K.β k = none := by
          cases hkb : K.β k with
          | none => rfl
          | some x => exact absurd (hdom k x hkb) hkn
        refine .inr ⟨hKk, by simpa using hkn, by omega, ?_⟩
        rcases hst.new id b h2 with h3 | ⟨_, _, _, h3⟩
        · exfalso
          have := hdom id b h3
          have := hselinj id k id (hold id this) h1
          omega
        · exact h3
    · rintro ⟨x, hx, hxs, hxb⟩
      rcases hst.new x b hxb with h3 | ⟨_, _, _, h3⟩
      · exact hxs (List.mem_of_getElem? (hold x (hdom x b h3)))
      · rcases h3 with h3 | h3
        · omega
        · exact hno h3
    · by_cases hkn : k < Hin.length
      · exact .inl ⟨Hin[k], by simp [List.getElem?_eq_getElem hkn]⟩
      · refine .inr ⟨?_, by simpa using hkn, hk.lt⟩
        cases hkb : K.β k with
        | none => rfl
        | some x => exact absurd (hdom k x hkb) hkn
theorem C_of_body {P : Program} (hm : P.follows .mixedOrders = true) {f : Nat} {fn : Func} {c : Code} {A : ACode} {ars : List ARes} (hf : P.funcs[f]? = some fn) (hb : fn.body = some c) (hA : cCode P c = some A)
    (hR : cRes P fn.results.toList = some ars) {args : List V} {Hin : List (List V)} {r : V} {Hout : Heap}
    (h : wpA P Hin.length A (fun e σ => (e = .normal ∨ e = .ret) ∧ ∃ v, resAll σ.S σ.H ars = some v ∧ OutOK Hin.length σ.H v r Hout) ⟨args ++ List.replicate (fn.ntmps - args.length) .dead, Hin.map some⟩) : C P f args Hin r Hout := by
  refine C_of_sim hf hb hR fun K a w hdef hdom hs => ?_
  refine code_sound hm hdef hdom c A hA (fun e σ => (e = .normal ∨ e = .ret) ∧ ∃ v, resAll σ.S σ.H ars = some v ∧ OutOK Hin.length σ.H v r Hout) _ ?_ _ _ _ hs (by rw [List.length_map]; exact h)
  rintro e σ a w hs' ⟨he, v, hv, ho⟩
  exact ⟨σ, hs', by rcases he with rfl | rfl <;> simp [toExit], v, hv, ho⟩
end Go.Proofs.YtfpoebmihjbknaaGreat.VA

/- How a proof goes through the compact code: one step behind the other. -/
set_option linter.unusedVariables false
set_option linter.unusedSimpArgs false
namespace Go.Proofs.YtfpoebmihjbknaaGreat.VA
open Go
noncomputable section
def StepS (P : Program) (S : List V) (H : Heap) (ao : AOp) (k : V → Heap → Prop) : Prop :=
  match ao with
  | .call f args => ∃ v H' F W, CallRel P f H (args.map (·.ev S)) v H' F W ∧ k v H'
  | .callv f args => ∃ v H' F W, EvOp P S H (.callv f args) v H' F W ∧ k v H'
  | .ext f args => ∃ v, ExtRel P f (args.map (·.ev S)) v ∧ k v H
  | ao => match evOp S H ao with
    | some (v, H') => k v H'
    | none => False
def RunS (P : Program) (Q : List V → Heap → Prop) : List AOper → List V → Heap → Prop
  | [], S, H => Q S H
  | o :: os, S, H =>
    match o.guard with
    | none => StepS P S H o.op fun v H' => RunS P Q os (putS S o.dst v) H'
    | some (t, want) =>
      match S.getD t .dead with
      | .sc (.bool b) => if b = want then StepS P S H o.op fun v H' => RunS P Q os (putS S o.dst v) H' else RunS P Q os (putS S o.dst (.sc undef)) H
      | .sc (.tuple ⟨[]⟩) => RunS P Q os (putS S o.dst (.sc undef)) H
      | _ => False
def StepF (P : Program) (S : List V) (H : Heap) (ao : AOp) (k : V → Heap → List Nat → List Nat → Prop) : Prop :=
  match ao with
  | .call f args => ∃ v H' F W, CallRel P f H (args.map (·.ev S)) v H' F W ∧ k v H' F W
  | .callv f args => ∃ v H' F W, EvOp P S H (.callv f args) v H' F W ∧ k v H' F W
  | .ext f args => ∃ v, ExtRel P f (args.map (·.ev S)) v ∧ k v H [] []
  | ao => match evOp S H ao with
    | some (v, H') => k v H' (footOp S ao) (wrOp S ao)
    | none => False
def RunF (P : Program) (Q : List V → Heap → List (List Nat × List Nat) → Prop) : List AOper → List V → Heap → List (List Nat × List Nat) → Prop
  | [], S, H, FW => Q S H FW
  | o :: os, S, H, FW =>
    match o.guard with
    | none => StepF P S H o.op fun v H' F W => RunF P Q os (putS S o.dst v) H' (FW ++ [(F, W)])
    | some (t, want) =>
      match S.getD t .dead with
      | .sc (.bool b) => if b = want then StepF P S H o.op fun v H' F W => RunF P Q os (putS S o.dst v) H' (FW ++ [(F, W)]) else RunF P Q os (putS S o.dst (.sc undef)) H (FW ++ [([], [])])
      | .sc (.tuple ⟨[]⟩) => RunF P Q os (putS S o.dst (.sc undef)) H (FW ++ [([], [])])
      | _ => False
theorem StepF.ev {P : Program} {S : List V} {H : Heap} {ao : AOp} {k : V → Heap → List Nat → List Nat → Prop} (h : StepF P S H ao k) : ∃ v H' F W, EvOp P S H ao v H' F W ∧ k v H' F W := by
  unfold StepF at h
  split at h
  · exact h
  · exact h
  · obtain ⟨v, h1, h2⟩ := h
    exact ⟨v, H, [], [], ⟨h1, rfl, rfl, rfl⟩, h2⟩
  · split at h
    · rename_i v H' he
      refine ⟨v, H', _, _, ?_, h⟩
      unfold EvOp
      split <;> simp_all
    · exact h.elim
theorem StepS.ev {P : Program} {S : List V} {H : Heap} {ao : AOp} {k : V → Heap → Prop} (h : StepS P S H ao k) : ∃ v H' F W, EvOp P S H ao v H' F W ∧ k v H' := by
  unfold StepS at h
  split at h
  · exact h
  · exact h
  · obtain ⟨v, h1, h2⟩ := h
    exact ⟨v, H, [], [], ⟨h1, rfl, rfl, rfl⟩, h2⟩
  · split at h
    · rename_i v H' he
      refine ⟨v, H', footOp S ao, wrOp S ao, ?_, h⟩
      unfold EvOp
      split <;> simp_all
    · exact h.elim
theorem RunF.ops {P : Program} {Q : List V → Heap → List (List Nat × List Nat) → Prop} : ∀ {os : List AOper} {S : List V} {H : Heap} {FW : List (List Nat × List Nat)}, RunF P Q os S H FW → RunOps P Q os S H FW
  | [], S, H, FW, h => h
  | o :: os, S, H, FW, h => by
    simp only [RunF] at h
    simp only [RunOps]
    cases hg : o.guard <;> rw [hg] at h
    · obtain ⟨v, H', F, W, h1, h2⟩ := h.ev
      exact ⟨v, H', F, W, h1, RunF.ops h2⟩
    · rename_i p
      obtain ⟨t, want⟩ := p
      simp only [] at h
      split at h
      · rename_i b hb
        by_cases hbw : b = want
        · rw [if_pos hbw] at h
          obtain ⟨v, H', F, W, h1, h2⟩ := h.ev
          exact .inl ⟨by rw [← hbw]; exact hb, v, H', F, W, h1, RunF.ops h2⟩
        · rw [if_neg hbw] at h
          exact .inr ⟨.inl (by rw [hb]; cases b <;> cases want <;> simp_all), RunF.ops h⟩
      · rename_i hb
        exact .inr ⟨.inr hb, RunF.ops h⟩
      · exact h.elim
theorem RunS.ops {P : Program} {Q : List V → Heap → Prop} {Q' : List V → Heap → List (List Nat × List Nat) → Prop} (hQ : ∀ S H FW, Q S H → Q' S H FW) : ∀ {os : List AOper} {S : List V} {H : Heap} {FW : List (List Nat × List Nat)}, RunS P Q os S H → RunOps P Q' os S H FW
  | [], S, H, FW, h => hQ S H FW h
  | o :: os, S, H, FW, h => by
    simp only [RunS] at h
    simp only [RunOps]
    cases hg : o.guard <;> rw [hg] at h
    · obtain ⟨v, H', F, W, h1, h2⟩ := h.ev
      exact ⟨v, H', F, W, h1, RunS.ops hQ h2⟩
    · rename_i p
      obtain ⟨t, want⟩ := p
      simp only [] at h
      split at h
      · rename_i b hb
        by_cases hbw : b = want
        · rw [if_pos hbw] at h
          obtain ⟨v, H', F, W, h1, h2⟩ := h.ev
          exact .inl ⟨by rw [← hbw]; exact hb, v, H', F, W, h1, RunS.ops hQ h2⟩
        · rw [if_neg hbw] at h
          exact .inr ⟨.inl (by rw [hb]; cases b <;> cases want <;> simp_all), RunS.ops hQ h⟩
      · rename_i hb
        exact .inr ⟨.inr hb, RunS.ops hQ h⟩
      · exact h.elim
def wpS (P : Program) (m0 : Nat) : ACode → (AExit → List V → Heap → Prop) → List V → Heap → Prop
  | .skip, Q, S, H => Q .normal S H
  | .region [] ops, Q, S, H => RunS P (fun S H => Q .normal S H) ops S H
  | .region (p :: pairs) ops, Q, S, H => RunF P (fun S H FW => chk FW (p :: pairs) = true ∧ Q .normal S H) ops S H []
  | .seq a b, Q, S, H => wpS P m0 a (fun e S H => match e with | .normal => wpS P m0 b Q S H | e => Q e S H) S H
  | .cond c a b, Q, S, H =>
    match c.ev S with
    | .sc (.bool t) => if t = true then wpS P m0 a Q S H else wpS P m0 b Q S H
    | _ => False
  | .block id c, Q, S, H => wpS P m0 c (fun e S H => match e with | .exit i => if i = id then Q .normal S H else Q (.exit i) S H | e => Q e S H) S H
  | .loop c, Q, S, H => ∃ (I : Nat → List V → Heap → Prop) (m : Nat) (S' : List V) (H' : Heap), Weak m0 ⟨S, H⟩ ⟨S', H'⟩ ∧ I m S' H' ∧
      ∀ n S H, I n S H → wpS P m0 c (fun e S H => match e with | .normal => ∃ n' S' H', n' < n ∧ Weak m0 ⟨S, H⟩ ⟨S', H'⟩ ∧ I n' S' H' | e => Q e S H) S H
  | .exit id, Q, S, H => Q (.exit id) S H
  | .ret, Q, S, H => Q .ret S H
theorem RunOps.mono {P : Program} {Q Q' : List V → Heap → List (List Nat × List Nat) → Prop} (hQ : ∀ S H FW, Q S H FW → Q' S H FW) : ∀ {os : List AOper} {S : List V} {H : Heap} {FW : List (List Nat × List Nat)}, RunOps P Q os S H FW → RunOps P Q' os S H FW
  | [], S, H, FW, h => hQ S H FW h
  | o :: os, S, H, FW, h => by
    simp only [RunOps] at h ⊢
    cases hg : o.guard <;> rw [hg] at h
    · obtain ⟨v, H', F, W, h1, h2⟩ := h
      exact ⟨v, H', F, W, h1, RunOps.mono hQ h2⟩
    · rcases h with ⟨hb, v, H', F, W, h1, h2⟩ | ⟨hb, h2⟩
      · exact .inl ⟨hb, v, H', F, W, h1, RunOps.mono hQ h2⟩
      · exact .inr ⟨hb, RunOps.mono hQ h2⟩
theorem wpA_mono' {P : Program} {m0 : Nat} : ∀ (c : ACode) {Q Q' : AExit → St → Prop} {σ : St}, wpA P m0 c Q σ → (∀ e σ, Q e σ → Q' e σ) → wpA P m0 c Q' σ
  | .skip, Q, Q', σ, h, hq => hq _ _ h
  | .region pairs ops, Q, Q', σ, h, hq => by
    obtain ⟨σ', hk, hr⟩ := h
    exact ⟨σ', hk, RunOps.mono (fun S H FW h => ⟨h.1, hq _ _ h.2⟩) hr⟩
  | .seq a b, Q, Q', σ, h, hq => by
    refine wpA_mono' a h fun e σ h => ?_
    cases e with
    | normal => exact wpA_mono' b h hq
    | exit i => exact hq _ _ h
    | ret => exact hq _ _ h
  | .cond c a b, Q, Q', σ, h, hq => by
    obtain ⟨t, h1, h2, h3⟩ := h
    exact ⟨t, h1, fun ht => wpA_mono' a (h2 ht) hq, fun ht => wpA_mono' b (h3 ht) hq⟩
  | .block id c, Q, Q', σ, h, hq => by
    refine wpA_mono' c h fun e σ h => ?_
    cases e with
    | normal => exact hq _ _ h
    | ret => exact hq _ _ h
    | exit i =>
      by_cases hi : i = id
      · simp only [hi, if_true] at h ⊢; exact hq _ _ h
      · simp only [hi, if_false] at h ⊢; exact hq _ _ h
  | .loop c, Q, Q', σ, h, hq => by
    obtain ⟨I, m, σ1, hw, h0, hr⟩ := h
    refine ⟨I, m, σ1, hw, h0, fun n σ hI => wpA_mono' c (hr n σ hI) fun e σ h => ?_⟩
    cases e with
    | normal => exact h
    | exit i => exact hq _ _ h
    | ret => exact hq _ _ h
  | .exit id, Q, Q', σ, h, hq => hq _ _ h
  | .ret, Q, Q', σ, h, hq => hq _ _ h
theorem wpS_sound {P : Program} {m0 : Nat} : ∀ (c : ACode) (Q : AExit → List V → Heap → Prop) (S : List V) (H : Heap), wpS P m0 c Q S H → wpA P m0 c (fun e σ => Q e σ.S σ.H) ⟨S, H⟩
  | .skip, Q, S, H, h => h
  | .region [] ops, Q, S, H, h => ⟨⟨S, H⟩, .refl _, RunS.ops (fun S H FW hq => ⟨by simp [chk], hq⟩) h⟩
  | .region (p :: pairs) ops, Q, S, H, h => ⟨⟨S, H⟩, .refl _, RunF.ops h⟩
  | .seq a b, Q, S, H, h => by
    have := wpS_sound a _ S H h
    refine wpA_mono' a this ?_
    intro e σ hq
    cases e with
    | normal => exact wpS_sound b Q σ.S σ.H hq
    | exit i => exact hq
    | ret => exact hq
  | .cond c a b, Q, S, H, h => by
    simp only [wpS] at h
    split at h
    · rename_i t h1
      refine ⟨t, h1, fun ht => wpS_sound a Q S H ?_, fun ht => wpS_sound b Q S H ?_⟩
      · rw [if_pos ht] at h; exact h
      · rw [if_neg (by simp [ht])] at h; exact h
    · exact h.elim
  | .block id c, Q, S, H, h => by
    refine wpA_mono' c (wpS_sound c _ S H h) ?_
    intro e σ hq
    cases e <;> exact hq
  | .loop c, Q, S, H, h => by
    obtain ⟨I, m, S', H', hw, h0, hr⟩ := h
    refine ⟨fun n σ => I n σ.S σ.H, m, ⟨S', H'⟩, hw, h0, fun n σ hI => wpA_mono' c (wpS_sound c _ σ.S σ.H (hr n σ.S σ.H hI)) ?_⟩
    intro e σ hq
    cases e with
    | normal =>
      obtain ⟨n', S', H', h1, h2, h3⟩ := hq
      exact ⟨n', ⟨S', H'⟩, h1, h2, h3⟩
    | exit i => exact hq
    | ret => exact hq
  | .exit id, Q, S, H, h => h
  | .ret, Q, S, H, h => h
inductive Kt where
  | fin
  | seq (b : ACode) (k : Kt)
  | blk (id : Nat) (k : Kt)
  | lp (J : List V → Heap → Prop) (k : Kt)
def kq (P : Program) (m0 : Nat) (Q : AExit → List V → Heap → Prop) : Kt → AExit → List V → Heap → Prop
  | .fin => Q
  | .seq b k => fun e S H => match e with | .normal => wpS P m0 b (kq P m0 Q k) S H | e => kq P m0 Q k e S H
  | .blk id k => fun e S H => match e with | .exit i => if i = id then kq P m0 Q k .normal S H else kq P m0 Q k (.exit i) S H | e => kq P m0 Q k e S H
  | .lp J k => fun e S H => match e with | .normal => J S H | e => kq P m0 Q k e S H
def WK (P : Program) (m0 : Nat) (Q : AExit → List V → Heap → Prop) (A : ACode) (k : Kt) (S : List V) (H : Heap) : Prop := wpS P m0 A (kq P m0 Q k) S H
def NK (P : Program) (m0 : Nat) (Q : AExit → List V → Heap → Prop) (k : Kt) (S : List V) (H : Heap) : Prop := kq P m0 Q k .normal S H
def XK (P : Program) (m0 : Nat) (Q : AExit → List V → Heap → Prop) (i : Nat) (k : Kt) (S : List V) (H : Heap) : Prop := kq P m0 Q k (.exit i) S H
def TK (P : Program) (m0 : Nat) (Q : AExit → List V → Heap → Prop) (k : Kt) (S : List V) (H : Heap) : Prop := kq P m0 Q k .ret S H
def RK (P : Program) (m0 : Nat) (Q : AExit → List V → Heap → Prop) (os : List AOper) (k : Kt) (S : List V) (H : Heap) : Prop := RunS P (fun S H => kq P m0 Q k .normal S H) os S H
def FK (P : Program) (m0 : Nat) (Q : AExit → List V → Heap → Prop) (pairs : List (Nat × Nat)) (os : List AOper) (k : Kt) (S : List V) (H : Heap) (FW : List (List Nat × List Nat)) : Prop :=
  RunF P (fun S H FW => chk FW pairs = true ∧ kq P m0 Q k .normal S H) os S H FW
section
variable {P : Program} {m0 : Nat} {Q : AExit → List V → Heap → Prop} {S : List V} {H : Heap} {k : Kt}
theorem wk_skip : WK P m0 Q .skip k S H = NK P m0 Q k S H := propext Iff.rfl
theorem wk_region (ops : List AOper) : WK P m0 Q (.region [] ops) k S H = RK P m0 Q ops k S H := propext Iff.rfl
theorem wk_regionF (p : Nat × Nat) (pairs : List (Nat × Nat)) (ops : List AOper) : WK P m0 Q (.region (p :: pairs) ops) k S H = FK P m0 Q (p :: pairs) ops k S H [] := propext Iff.rfl
theorem wk_seq (a b : ACode) : WK P m0 Q (.seq a b) k S H = WK P m0 Q a (.seq b k) S H := propext Iff.rfl
theorem wk_cond (c : Od) (a b : ACode) : WK P m0 Q (.cond c a b) k S H = (match c.ev S with | .sc (.bool t) => if t = true then WK P m0 Q a k S H else WK P m0 Q b k S H | _ => False) := propext Iff.rfl
theorem wk_block (id : Nat) (c : ACode) : WK P m0 Q (.block id c) k S H = WK P m0 Q c (.blk id k) S H := propext Iff.rfl
theorem wk_exit (id : Nat) : WK P m0 Q (.exit id) k S H = XK P m0 Q id k S H := propext Iff.rfl
theorem wk_ret : WK P m0 Q .ret k S H = TK P m0 Q k S H := propext Iff.rfl
theorem nk_fin : NK P m0 Q .fin S H = Q .normal S H := propext Iff.rfl
theorem nk_seq (b : ACode) : NK P m0 Q (.seq b k) S H = WK P m0 Q b k S H := propext Iff.rfl
theorem nk_blk (id : Nat) : NK P m0 Q (.blk id k) S H = NK P m0 Q k S H := propext Iff.rfl
theorem nk_lp (J : List V → Heap → Prop) : NK P m0 Q (.lp J k) S H = J S H := propext Iff.rfl
theorem xk_fin (i : Nat) : XK P m0 Q i .fin S H = Q (.exit i) S H := propext Iff.rfl
theorem xk_seq (i : Nat) (b : ACode) : XK P m0 Q i (.seq b k) S H = XK P m0 Q i k S H := propext Iff.rfl
theorem xk_blk (i id : Nat) : XK P m0 Q i (.blk id k) S H = if i = id then NK P m0 Q k S H else XK P m0 Q i k S H := propext Iff.rfl
theorem xk_lp (i : Nat) (J : List V → Heap → Prop) : XK P m0 Q i (.lp J k) S H = XK P m0 Q i k S H := propext Iff.rfl
theorem tk_fin : TK P m0 Q .fin S H = Q .ret S H := propext Iff.rfl
theorem tk_seq (b : ACode) : TK P m0 Q (.seq b k) S H = TK P m0 Q k S H := propext Iff.rfl
theorem tk_blk (id : Nat) : TK P m0 Q (.blk id k) S H = TK P m0 Q k S H := propext Iff.rfl
theorem tk_lp (J : List V → Heap → Prop) : TK P m0 Q (.lp J k) S H = TK P m0 Q k S H := propext Iff.rfl
theorem rk_nil : RK P m0 Q [] k S H = NK P m0 Q k S H := propext Iff.rfl
theorem rk_guard (d : Option Nat) (op : AOp) (t : Nat) (want : Bool) (os : List AOper) : RK P m0 Q (⟨d, op, some (t, want)⟩ :: os) k S H =
    (match S.getD t .dead with
      | .sc (.bool b) => if b = want then RK P m0 Q (⟨d, op, none⟩ :: os) k S H else RK P m0 Q os k (putS S d (.sc undef)) H
      | .sc (.tuple ⟨[]⟩) => RK P m0 Q os k (putS S d (.sc undef)) H
      | _ => False) := propext Iff.rfl
theorem fk_nil (pairs : List (Nat × Nat)) (FW : List (List Nat × List Nat)) : FK P m0 Q pairs [] k S H FW = (chk FW pairs = true ∧ NK P m0 Q k S H) := propext Iff.rfl
theorem fk_guard (pairs : List (Nat × Nat)) (FW : List (List Nat × List Nat)) (d : Option Nat) (op : AOp) (t : Nat) (want : Bool) (os : List AOper) : FK P m0 Q pairs (⟨d, op, some (t, want)⟩ :: os) k S H FW =
    (match S.getD t .dead with
      | .sc (.bool b) => if b = want then FK P m0 Q pairs (⟨d, op, none⟩ :: os) k S H FW else FK P m0 Q pairs os k (putS S d (.sc undef)) H (FW ++ [([], [])])
      | .sc (.tuple ⟨[]⟩) => FK P m0 Q pairs os k (putS S d (.sc undef)) H (FW ++ [([], [])])
      | _ => False) := propext Iff.rfl
theorem wk_loop {c : ACode} (I : Nat → List V → Heap → Prop) (m : Nat) {S' : List V} {H' : Heap} (h0 : I m S' H') (hw : Weak m0 ⟨S, H⟩ ⟨S', H'⟩)
    (hr : ∀ n S H, I n S H → ∀ J : List V → Heap → Prop, (∀ n' S H S' H', n' < n → I n' S' H' → Weak m0 ⟨S, H⟩ ⟨S', H'⟩ → J S H) → WK P m0 Q c (.lp J k) S H) : WK P m0 Q (.loop c) k S H :=
  ⟨I, m, S', H', hw, h0, fun n S H hI => hr n S H hI (fun S H => ∃ n' S' H', n' < n ∧ Weak m0 ⟨S, H⟩ ⟨S', H'⟩ ∧ I n' S' H') fun n' S H S' H' hlt hI hw => ⟨n', S', H', hlt, hw, hI⟩⟩
theorem rk_call {d : Option Nat} {f : Nat} {args : List Od} {os : List AOper} (v : V) (H' : Heap) {F W : List Nat} (h : CallRel P f H (args.map (·.ev S)) v H' F W) (hk : RK P m0 Q os k (putS S d v) H') : RK P m0 Q (⟨d, .call f args, none⟩ :: os) k S H :=
  ⟨v, H', F, W, h, hk⟩
theorem fk_call {pairs : List (Nat × Nat)} {FW : List (List Nat × List Nat)} {d : Option Nat} {f : Nat} {args : List Od} {os : List AOper} (v : V) (H' : Heap) {F W : List Nat} (h : CallRel P f H (args.map (·.ev S)) v H' F W) (hk : FK P m0 Q pairs os k (putS S d v) H' (FW ++ [(F, W)])) :
    FK P m0 Q pairs (⟨d, .call f args, none⟩ :: os) k S H FW := ⟨v, H', F, W, h, hk⟩
end
end
end Go.Proofs.YtfpoebmihjbknaaGreat.VA

/- What the operations of the compact code answer, a rule each. -/
set_option linter.unusedVariables false
set_option linter.unusedSimpArgs false
namespace Go.Proofs.YtfpoebmihjbknaaGreat.VA
open Go
noncomputable section
abbrev vi (k : IntKind) (n : Int) : V := .sc (.int k n)
abbrev vb (b : Bool) : V := .sc (.bool b)
abbrev vnil : V := .sc (.slice none 0 0)
theorem ev_t (S : List V) (i : Nat) : Od.ev S (.t i) = S.getD i .dead := rfl
theorem ev_ci (S : List V) (k : IntKind) (n : Int) : Od.ev S (.c (.int k n)) = .sc (.int k n) := rfl
theorem ev_cb (S : List V) (b : Bool) : Od.ev S (.c (.bool b)) = .sc (.bool b) := rfl
theorem ev_cs (S : List V) (s : ByteArray) : Od.ev S (.c (.string s)) = .sc (.string s) := rfl
theorem ev_csl (S : List V) (a : Option Addr) (n c : Nat) : Od.ev S (.c (.slice a n c)) = .sc (.slice a n c) := rfl
theorem ev_ca (S : List V) (cs : Array Value) : Od.ev S (.c (.agg cs)) = .agg (cs.toList.map .sc) := rfl
theorem ev_cf (S : List V) (f : Nat) : Od.ev S (.c (.func (.func f) #[] #[])) = .fn f [] := rfl
theorem putS_some (S : List V) (d : Nat) (v : V) : putS S (some d) v = S.set d v := rfl
theorem putS_none (S : List V) (v : V) : putS S none v = S := rfl
theorem bin_add (k : IntKind) (a b : Int) : evBin .add (.sc (.int k a)) (.sc (.int k b)) = some (.sc (.int k (k.wrap (a + b)))) := by simp [evBin, binOp, Op.intArith, pureV, pure]
theorem bin_sub (k : IntKind) (a b : Int) : evBin .sub (.sc (.int k a)) (.sc (.int k b)) = some (.sc (.int k (k.wrap (a - b)))) := by simp [evBin, binOp, Op.intArith, pureV, pure]
theorem bin_mul (k : IntKind) (a b : Int) : evBin .mul (.sc (.int k a)) (.sc (.int k b)) = some (.sc (.int k (k.wrap (a * b)))) := by simp [evBin, binOp, Op.intArith, pureV, pure]
theorem bin_quo (k : IntKind) (a b : Int) (h : b ≠ 0) : evBin .quo (.sc (.int k a)) (.sc (.int k b)) = some (.sc (.int k (k.wrap (a.tdiv b)))) := by simp [evBin, binOp, Op.intDiv, pureV, pure, h]
theorem bin_rem (k : IntKind) (a b : Int) (h : b ≠ 0) : evBin .rem (.sc (.int k a)) (.sc (.int k b)) = some (.sc (.int k (a.tmod b))) := by simp [evBin, binOp, Op.intDiv, pureV, pure, h]
theorem bin_and (k : IntKind) (a b : Int) : evBin .and (.sc (.int k a)) (.sc (.int k b)) = some (.sc (.int k (k.wrap (BitVec.ofInt k.bits a &&& BitVec.ofInt k.bits b).toNat))) := by simp [evBin, binOp, Op.intBits, pureV, pure]
theorem bin_or (k : IntKind) (a b : Int) : evBin .or (.sc (.int k a)) (.sc (.int k b)) = some (.sc (.int k (k.wrap (BitVec.ofInt k.bits a ||| BitVec.ofInt k.bits b).toNat))) := by simp [evBin, binOp, Op.intBits, pureV, pure]
theorem bin_xor (k : IntKind) (a b : Int) : evBin .xor (.sc (.int k a)) (.sc (.int k b)) = some (.sc (.int k (k.wrap (BitVec.ofInt k.bits a ^^^ BitVec.ofInt k.bits b).toNat))) := by simp [evBin, binOp, Op.intBits, pureV, pure]
theorem bin_shl (k yk : IntKind) (a b : Int) (h : 0 ≤ b) : evBin .shl (.sc (.int k a)) (.sc (.int yk b)) = some (.sc (.int k (k.wrap (a * 2 ^ (min b.toNat k.bits))))) := by simp [evBin, binOp, Op.shift, pureV, pure, Int.not_lt.2 h]
theorem bin_shr (k yk : IntKind) (a b : Int) (h : 0 ≤ b) : evBin .shr (.sc (.int k a)) (.sc (.int yk b)) = some (.sc (.int k (a.fdiv (2 ^ (min b.toNat k.bits))))) := by simp [evBin, binOp, Op.shift, pureV, pure, Int.not_lt.2 h]
theorem bin_eql (k : IntKind) (a b : Int) : evBin .eql (.sc (.int k a)) (.sc (.int k b)) = some (.sc (.bool (a == b))) := by simp [evBin, binOp, Op.intCmp, pureV, pure]
theorem bin_neq (k : IntKind) (a b : Int) : evBin .neq (.sc (.int k a)) (.sc (.int k b)) = some (.sc (.bool (a != b))) := by simp [evBin, binOp, Op.intCmp, pureV, pure]
theorem bin_lss (k : IntKind) (a b : Int) : evBin .lss (.sc (.int k a)) (.sc (.int k b)) = some (.sc (.bool (decide (a < b)))) := by simp [evBin, binOp, Op.intCmp, pureV, pure]
theorem bin_leq (k : IntKind) (a b : Int) : evBin .leq (.sc (.int k a)) (.sc (.int k b)) = some (.sc (.bool (decide (a ≤ b)))) := by simp [evBin, binOp, Op.intCmp, pureV, pure]
theorem bin_gtr (k : IntKind) (a b : Int) : evBin .gtr (.sc (.int k a)) (.sc (.int k b)) = some (.sc (.bool (decide (a > b)))) := by simp [evBin, binOp, Op.intCmp, pureV, pure]
theorem bin_geq (k : IntKind) (a b : Int) : evBin .geq (.sc (.int k a)) (.sc (.int k b)) = some (.sc (.bool (decide (a ≥ b)))) := by simp [evBin, binOp, Op.intCmp, pureV, pure]
section
variable {P : Program} {m0 : Nat} {Q : AExit → List V → Heap → Prop} {S : List V} {H : Heap} {k : Kt} {d : Option Nat} {os : List AOper} {pairs : List (Nat × Nat)} {FW : List (List Nat × List Nat)}
theorem rk_mov (x : Od) : RK P m0 Q (⟨d, .mov x, none⟩ :: os) k S H = RK P m0 Q os k (putS S d (x.ev S)) H := propext Iff.rfl
theorem fk_mov (x : Od) : FK P m0 Q pairs (⟨d, .mov x, none⟩ :: os) k S H FW = FK P m0 Q pairs os k (putS S d (x.ev S)) H (FW ++ [([], [])]) := propext Iff.rfl
theorem rk_pick (c a b : Od) : RK P m0 Q (⟨d, .pick c a b, none⟩ :: os) k S H = (match evOp S H (.pick c a b) with | some (v, H') => RK P m0 Q os k (putS S d v) H' | none => False) := propext Iff.rfl
theorem fk_pick (c a b : Od) : FK P m0 Q pairs (⟨d, .pick c a b, none⟩ :: os) k S H FW = (match evOp S H (.pick c a b) with | some (v, H') => FK P m0 Q pairs os k (putS S d v) H' (FW ++ [(footOp S (.pick c a b), wrOp S (.pick c a b))]) | none => False) := propext Iff.rfl
theorem rk_alloc (zs : List Value) : RK P m0 Q (⟨d, .alloc zs, none⟩ :: os) k S H = (match evOp S H (.alloc zs) with | some (v, H') => RK P m0 Q os k (putS S d v) H' | none => False) := propext Iff.rfl
theorem fk_alloc (zs : List Value) : FK P m0 Q pairs (⟨d, .alloc zs, none⟩ :: os) k S H FW = (match evOp S H (.alloc zs) with | some (v, H') => FK P m0 Q pairs os k (putS S d v) H' (FW ++ [(footOp S (.alloc zs), wrOp S (.alloc zs))]) | none => False) := propext Iff.rfl
theorem rk_box (x : Od) : RK P m0 Q (⟨d, .box x, none⟩ :: os) k S H = (match evOp S H (.box x) with | some (v, H') => RK P m0 Q os k (putS S d v) H' | none => False) := propext Iff.rfl
theorem fk_box (x : Od) : FK P m0 Q pairs (⟨d, .box x, none⟩ :: os) k S H FW = (match evOp S H (.box x) with | some (v, H') => FK P m0 Q pairs os k (putS S d v) H' (FW ++ [(footOp S (.box x), wrOp S (.box x))]) | none => False) := propext Iff.rfl
theorem rk_build (zs : List Value) (parts : List (Nat × Nat × Od)) : RK P m0 Q (⟨d, .build zs parts, none⟩ :: os) k S H = (match evOp S H (.build zs parts) with | some (v, H') => RK P m0 Q os k (putS S d v) H' | none => False) := propext Iff.rfl
theorem fk_build (zs : List Value) (parts : List (Nat × Nat × Od)) : FK P m0 Q pairs (⟨d, .build zs parts, none⟩ :: os) k S H FW = (match evOp S H (.build zs parts) with | some (v, H') => FK P m0 Q pairs os k (putS S d v) H' (FW ++ [(footOp S (.build zs parts), wrOp S (.build zs parts))]) | none => False) := propext Iff.rfl
theorem rk_buildSl (sz n : Nat) (zs : List Value) (parts : List (Nat × Nat × Od)) : RK P m0 Q (⟨d, .buildSl sz n zs parts, none⟩ :: os) k S H = (match evOp S H (.buildSl sz n zs parts) with | some (v, H') => RK P m0 Q os k (putS S d v) H' | none => False) := propext Iff.rfl
theorem fk_buildSl (sz n : Nat) (zs : List Value) (parts : List (Nat × Nat × Od)) : FK P m0 Q pairs (⟨d, .buildSl sz n zs parts, none⟩ :: os) k S H FW = (match evOp S H (.buildSl sz n zs parts) with | some (v, H') => FK P m0 Q pairs os k (putS S d v) H' (FW ++ [(footOp S (.buildSl sz n zs parts), wrOp S (.buildSl sz n zs parts))]) | none => False) := propext Iff.rfl
theorem rk_load (kd : Option Nat) (x : Od) : RK P m0 Q (⟨d, .load kd x, none⟩ :: os) k S H = (match evOp S H (.load kd x) with | some (v, H') => RK P m0 Q os k (putS S d v) H' | none => False) := propext Iff.rfl
theorem fk_load (kd : Option Nat) (x : Od) : FK P m0 Q pairs (⟨d, .load kd x, none⟩ :: os) k S H FW = (match evOp S H (.load kd x) with | some (v, H') => FK P m0 Q pairs os k (putS S d v) H' (FW ++ [(footOp S (.load kd x), wrOp S (.load kd x))]) | none => False) := propext Iff.rfl
theorem rk_store (n : Nat) (a x : Od) : RK P m0 Q (⟨d, .store n a x, none⟩ :: os) k S H = (match evOp S H (.store n a x) with | some (v, H') => RK P m0 Q os k (putS S d v) H' | none => False) := propext Iff.rfl
theorem fk_store (n : Nat) (a x : Od) : FK P m0 Q pairs (⟨d, .store n a x, none⟩ :: os) k S H FW = (match evOp S H (.store n a x) with | some (v, H') => FK P m0 Q pairs os k (putS S d v) H' (FW ++ [(footOp S (.store n a x), wrOp S (.store n a x))]) | none => False) := propext Iff.rfl
theorem rk_nilChk (x : Od) : RK P m0 Q (⟨d, .nilChk x, none⟩ :: os) k S H = (match evOp S H (.nilChk x) with | some (v, H') => RK P m0 Q os k (putS S d v) H' | none => False) := propext Iff.rfl
theorem fk_nilChk (x : Od) : FK P m0 Q pairs (⟨d, .nilChk x, none⟩ :: os) k S H FW = (match evOp S H (.nilChk x) with | some (v, H') => FK P m0 Q pairs os k (putS S d v) H' (FW ++ [(footOp S (.nilChk x), wrOp S (.nilChk x))]) | none => False) := propext Iff.rfl
theorem rk_bin (op : BinOp) (x y : Od) : RK P m0 Q (⟨d, .bin op x y, none⟩ :: os) k S H = (match evOp S H (.bin op x y) with | some (v, H') => RK P m0 Q os k (putS S d v) H' | none => False) := propext Iff.rfl
theorem fk_bin (op : BinOp) (x y : Od) : FK P m0 Q pairs (⟨d, .bin op x y, none⟩ :: os) k S H FW = (match evOp S H (.bin op x y) with | some (v, H') => FK P m0 Q pairs os k (putS S d v) H' (FW ++ [(footOp S (.bin op x y), wrOp S (.bin op x y))]) | none => False) := propext Iff.rfl
theorem rk_eqB (neg : Bool) (x y : Od) : RK P m0 Q (⟨d, .eqB neg x y, none⟩ :: os) k S H = (match evOp S H (.eqB neg x y) with | some (v, H') => RK P m0 Q os k (putS S d v) H' | none => False) := propext Iff.rfl
theorem fk_eqB (neg : Bool) (x y : Od) : FK P m0 Q pairs (⟨d, .eqB neg x y, none⟩ :: os) k S H FW = (match evOp S H (.eqB neg x y) with | some (v, H') => FK P m0 Q pairs os k (putS S d v) H' (FW ++ [(footOp S (.eqB neg x y), wrOp S (.eqB neg x y))]) | none => False) := propext Iff.rfl
theorem rk_eqA (neg : Bool) (sh : List Bool) (x y : Od) : RK P m0 Q (⟨d, .eqA neg sh x y, none⟩ :: os) k S H = (match evOp S H (.eqA neg sh x y) with | some (v, H') => RK P m0 Q os k (putS S d v) H' | none => False) := propext Iff.rfl
theorem fk_eqA (neg : Bool) (sh : List Bool) (x y : Od) : FK P m0 Q pairs (⟨d, .eqA neg sh x y, none⟩ :: os) k S H FW = (match evOp S H (.eqA neg sh x y) with | some (v, H') => FK P m0 Q pairs os k (putS S d v) H' (FW ++ [(footOp S (.eqA neg sh x y), wrOp S (.eqA neg sh x y))]) | none => False) := propext Iff.rfl
theorem rk_eqNil (neg : Bool) (x y : Od) : RK P m0 Q (⟨d, .eqNil neg x y, none⟩ :: os) k S H = (match evOp S H (.eqNil neg x y) with | some (v, H') => RK P m0 Q os k (putS S d v) H' | none => False) := propext Iff.rfl
theorem fk_eqNil (neg : Bool) (x y : Od) : FK P m0 Q pairs (⟨d, .eqNil neg x y, none⟩ :: os) k S H FW = (match evOp S H (.eqNil neg x y) with | some (v, H') => FK P m0 Q pairs os k (putS S d v) H' (FW ++ [(footOp S (.eqNil neg x y), wrOp S (.eqNil neg x y))]) | none => False) := propext Iff.rfl
theorem rk_un (op : UnOp) (x : Od) : RK P m0 Q (⟨d, .un op x, none⟩ :: os) k S H = (match evOp S H (.un op x) with | some (v, H') => RK P m0 Q os k (putS S d v) H' | none => False) := propext Iff.rfl
theorem fk_un (op : UnOp) (x : Od) : FK P m0 Q pairs (⟨d, .un op x, none⟩ :: os) k S H FW = (match evOp S H (.un op x) with | some (v, H') => FK P m0 Q pairs os k (putS S d v) H' (FW ++ [(footOp S (.un op x), wrOp S (.un op x))]) | none => False) := propext Iff.rfl
theorem rk_conv (kd : IntKind) (x : Od) : RK P m0 Q (⟨d, .conv kd x, none⟩ :: os) k S H = (match evOp S H (.conv kd x) with | some (v, H') => RK P m0 Q os k (putS S d v) H' | none => False) := propext Iff.rfl
theorem fk_conv (kd : IntKind) (x : Od) : FK P m0 Q pairs (⟨d, .conv kd x, none⟩ :: os) k S H FW = (match evOp S H (.conv kd x) with | some (v, H') => FK P m0 Q pairs os k (putS S d v) H' (FW ++ [(footOp S (.conv kd x), wrOp S (.conv kd x))]) | none => False) := propext Iff.rfl
theorem rk_same (x : Od) : RK P m0 Q (⟨d, .same x, none⟩ :: os) k S H = (match evOp S H (.same x) with | some (v, H') => RK P m0 Q os k (putS S d v) H' | none => False) := propext Iff.rfl
theorem fk_same (x : Od) : FK P m0 Q pairs (⟨d, .same x, none⟩ :: os) k S H FW = (match evOp S H (.same x) with | some (v, H') => FK P m0 Q pairs os k (putS S d v) H' (FW ++ [(footOp S (.same x), wrOp S (.same x))]) | none => False) := propext Iff.rfl
theorem rk_mark (x : Od) : RK P m0 Q (⟨d, .mark x, none⟩ :: os) k S H = (match evOp S H (.mark x) with | some (v, H') => RK P m0 Q os k (putS S d v) H' | none => False) := propext Iff.rfl
theorem fk_mark (x : Od) : FK P m0 Q pairs (⟨d, .mark x, none⟩ :: os) k S H FW = (match evOp S H (.mark x) with | some (v, H') => FK P m0 Q pairs os k (putS S d v) H' (FW ++ [(footOp S (.mark x), wrOp S (.mark x))]) | none => False) := propext Iff.rfl
theorem rk_toStr (x : Od) : RK P m0 Q (⟨d, .toStr x, none⟩ :: os) k S H = (match evOp S H (.toStr x) with | some (v, H') => RK P m0 Q os k (putS S d v) H' | none => False) := propext Iff.rfl
theorem fk_toStr (x : Od) : FK P m0 Q pairs (⟨d, .toStr x, none⟩ :: os) k S H FW = (match evOp S H (.toStr x) with | some (v, H') => FK P m0 Q pairs os k (putS S d v) H' (FW ++ [(footOp S (.toStr x), wrOp S (.toStr x))]) | none => False) := propext Iff.rfl
theorem rk_toBytes (x : Od) : RK P m0 Q (⟨d, .toBytes x, none⟩ :: os) k S H = (match evOp S H (.toBytes x) with | some (v, H') => RK P m0 Q os k (putS S d v) H' | none => False) := propext Iff.rfl
theorem fk_toBytes (x : Od) : FK P m0 Q pairs (⟨d, .toBytes x, none⟩ :: os) k S H FW = (match evOp S H (.toBytes x) with | some (v, H') => FK P m0 Q pairs os k (putS S d v) H' (FW ++ [(footOp S (.toBytes x), wrOp S (.toBytes x))]) | none => False) := propext Iff.rfl
theorem rk_mkSl (sz bytes : Nat) (zs : List Value) (l c : Od) : RK P m0 Q (⟨d, .mkSl sz bytes zs l c, none⟩ :: os) k S H = (match evOp S H (.mkSl sz bytes zs l c) with | some (v, H') => RK P m0 Q os k (putS S d v) H' | none => False) := propext Iff.rfl
theorem fk_mkSl (sz bytes : Nat) (zs : List Value) (l c : Od) : FK P m0 Q pairs (⟨d, .mkSl sz bytes zs l c, none⟩ :: os) k S H FW = (match evOp S H (.mkSl sz bytes zs l c) with | some (v, H') => FK P m0 Q pairs os k (putS S d v) H' (FW ++ [(footOp S (.mkSl sz bytes zs l c), wrOp S (.mkSl sz bytes zs l c))]) | none => False) := propext Iff.rfl
theorem rk_sliceArr (n sz : Nat) (x : Od) (lo hi : Option Od) : RK P m0 Q (⟨d, .sliceArr n sz x lo hi, none⟩ :: os) k S H = (match evOp S H (.sliceArr n sz x lo hi) with | some (v, H') => RK P m0 Q os k (putS S d v) H' | none => False) := propext Iff.rfl
theorem fk_sliceArr (n sz : Nat) (x : Od) (lo hi : Option Od) : FK P m0 Q pairs (⟨d, .sliceArr n sz x lo hi, none⟩ :: os) k S H FW = (match evOp S H (.sliceArr n sz x lo hi) with | some (v, H') => FK P m0 Q pairs os k (putS S d v) H' (FW ++ [(footOp S (.sliceArr n sz x lo hi), wrOp S (.sliceArr n sz x lo hi))]) | none => False) := propext Iff.rfl
theorem rk_sliceSl (sz : Nat) (x : Od) (lo hi : Option Od) : RK P m0 Q (⟨d, .sliceSl sz x lo hi, none⟩ :: os) k S H = (match evOp S H (.sliceSl sz x lo hi) with | some (v, H') => RK P m0 Q os k (putS S d v) H' | none => False) := propext Iff.rfl
theorem fk_sliceSl (sz : Nat) (x : Od) (lo hi : Option Od) : FK P m0 Q pairs (⟨d, .sliceSl sz x lo hi, none⟩ :: os) k S H FW = (match evOp S H (.sliceSl sz x lo hi) with | some (v, H') => FK P m0 Q pairs os k (putS S d v) H' (FW ++ [(footOp S (.sliceSl sz x lo hi), wrOp S (.sliceSl sz x lo hi))]) | none => False) := propext Iff.rfl
theorem rk_sliceStr (x : Od) (lo hi : Option Od) : RK P m0 Q (⟨d, .sliceStr x lo hi, none⟩ :: os) k S H = (match evOp S H (.sliceStr x lo hi) with | some (v, H') => RK P m0 Q os k (putS S d v) H' | none => False) := propext Iff.rfl
theorem fk_sliceStr (x : Od) (lo hi : Option Od) : FK P m0 Q pairs (⟨d, .sliceStr x lo hi, none⟩ :: os) k S H FW = (match evOp S H (.sliceStr x lo hi) with | some (v, H') => FK P m0 Q pairs os k (putS S d v) H' (FW ++ [(footOp S (.sliceStr x lo hi), wrOp S (.sliceStr x lo hi))]) | none => False) := propext Iff.rfl
theorem rk_fieldAddr (off : Nat) (x : Od) : RK P m0 Q (⟨d, .fieldAddr off x, none⟩ :: os) k S H = (match evOp S H (.fieldAddr off x) with | some (v, H') => RK P m0 Q os k (putS S d v) H' | none => False) := propext Iff.rfl
theorem fk_fieldAddr (off : Nat) (x : Od) : FK P m0 Q pairs (⟨d, .fieldAddr off x, none⟩ :: os) k S H FW = (match evOp S H (.fieldAddr off x) with | some (v, H') => FK P m0 Q pairs os k (putS S d v) H' (FW ++ [(footOp S (.fieldAddr off x), wrOp S (.fieldAddr off x))]) | none => False) := propext Iff.rfl
theorem rk_field (off : Nat) (kd : Option Nat) (x : Od) : RK P m0 Q (⟨d, .field off kd x, none⟩ :: os) k S H = (match evOp S H (.field off kd x) with | some (v, H') => RK P m0 Q os k (putS S d v) H' | none => False) := propext Iff.rfl
theorem fk_field (off : Nat) (kd : Option Nat) (x : Od) : FK P m0 Q pairs (⟨d, .field off kd x, none⟩ :: os) k S H FW = (match evOp S H (.field off kd x) with | some (v, H') => FK P m0 Q pairs os k (putS S d v) H' (FW ++ [(footOp S (.field off kd x), wrOp S (.field off kd x))]) | none => False) := propext Iff.rfl
theorem rk_idxArr (n sz : Nat) (x i : Od) : RK P m0 Q (⟨d, .idxArr n sz x i, none⟩ :: os) k S H = (match evOp S H (.idxArr n sz x i) with | some (v, H') => RK P m0 Q os k (putS S d v) H' | none => False) := propext Iff.rfl
theorem fk_idxArr (n sz : Nat) (x i : Od) : FK P m0 Q pairs (⟨d, .idxArr n sz x i, none⟩ :: os) k S H FW = (match evOp S H (.idxArr n sz x i) with | some (v, H') => FK P m0 Q pairs os k (putS S d v) H' (FW ++ [(footOp S (.idxArr n sz x i), wrOp S (.idxArr n sz x i))]) | none => False) := propext Iff.rfl
theorem rk_idxSl (sz : Nat) (x i : Od) : RK P m0 Q (⟨d, .idxSl sz x i, none⟩ :: os) k S H = (match evOp S H (.idxSl sz x i) with | some (v, H') => RK P m0 Q os k (putS S d v) H' | none => False) := propext Iff.rfl
theorem fk_idxSl (sz : Nat) (x i : Od) : FK P m0 Q pairs (⟨d, .idxSl sz x i, none⟩ :: os) k S H FW = (match evOp S H (.idxSl sz x i) with | some (v, H') => FK P m0 Q pairs os k (putS S d v) H' (FW ++ [(footOp S (.idxSl sz x i), wrOp S (.idxSl sz x i))]) | none => False) := propext Iff.rfl
theorem rk_indexArr (n sz : Nat) (kd : Option Nat) (x i : Od) : RK P m0 Q (⟨d, .indexArr n sz kd x i, none⟩ :: os) k S H = (match evOp S H (.indexArr n sz kd x i) with | some (v, H') => RK P m0 Q os k (putS S d v) H' | none => False) := propext Iff.rfl
theorem fk_indexArr (n sz : Nat) (kd : Option Nat) (x i : Od) : FK P m0 Q pairs (⟨d, .indexArr n sz kd x i, none⟩ :: os) k S H FW = (match evOp S H (.indexArr n sz kd x i) with | some (v, H') => FK P m0 Q pairs os k (putS S d v) H' (FW ++ [(footOp S (.indexArr n sz kd x i), wrOp S (.indexArr n sz kd x i))]) | none => False) := propext Iff.rfl
theorem rk_indexStr (x i : Od) : RK P m0 Q (⟨d, .indexStr x i, none⟩ :: os) k S H = (match evOp S H (.indexStr x i) with | some (v, H') => RK P m0 Q os k (putS S d v) H' | none => False) := propext Iff.rfl
theorem fk_indexStr (x i : Od) : FK P m0 Q pairs (⟨d, .indexStr x i, none⟩ :: os) k S H FW = (match evOp S H (.indexStr x i) with | some (v, H') => FK P m0 Q pairs os k (putS S d v) H' (FW ++ [(footOp S (.indexStr x i), wrOp S (.indexStr x i))]) | none => False) := propext Iff.rfl
theorem rk_extract (x : Od) (i : Nat) : RK P m0 Q (⟨d, .extract x i, none⟩ :: os) k S H = (match evOp S H (.extract x i) with | some (v, H') => RK P m0 Q os k (putS S d v) H' | none => False) := propext Iff.rfl
theorem fk_extract (x : Od) (i : Nat) : FK P m0 Q pairs (⟨d, .extract x i, none⟩ :: os) k S H FW = (match evOp S H (.extract x i) with | some (v, H') => FK P m0 Q pairs os k (putS S d v) H' (FW ++ [(footOp S (.extract x i), wrOp S (.extract x i))]) | none => False) := propext Iff.rfl
theorem rk_lenC (n : Nat) : RK P m0 Q (⟨d, .lenC n, none⟩ :: os) k S H = (match evOp S H (.lenC n) with | some (v, H') => RK P m0 Q os k (putS S d v) H' | none => False) := propext Iff.rfl
theorem fk_lenC (n : Nat) : FK P m0 Q pairs (⟨d, .lenC n, none⟩ :: os) k S H FW = (match evOp S H (.lenC n) with | some (v, H') => FK P m0 Q pairs os k (putS S d v) H' (FW ++ [(footOp S (.lenC n), wrOp S (.lenC n))]) | none => False) := propext Iff.rfl
theorem rk_lenStr (x : Od) : RK P m0 Q (⟨d, .lenStr x, none⟩ :: os) k S H = (match evOp S H (.lenStr x) with | some (v, H') => RK P m0 Q os k (putS S d v) H' | none => False) := propext Iff.rfl
theorem fk_lenStr (x : Od) : FK P m0 Q pairs (⟨d, .lenStr x, none⟩ :: os) k S H FW = (match evOp S H (.lenStr x) with | some (v, H') => FK P m0 Q pairs os k (putS S d v) H' (FW ++ [(footOp S (.lenStr x), wrOp S (.lenStr x))]) | none => False) := propext Iff.rfl
theorem rk_lenSl (x : Od) : RK P m0 Q (⟨d, .lenSl x, none⟩ :: os) k S H = (match evOp S H (.lenSl x) with | some (v, H') => RK P m0 Q os k (putS S d v) H' | none => False) := propext Iff.rfl
theorem fk_lenSl (x : Od) : FK P m0 Q pairs (⟨d, .lenSl x, none⟩ :: os) k S H FW = (match evOp S H (.lenSl x) with | some (v, H') => FK P m0 Q pairs os k (putS S d v) H' (FW ++ [(footOp S (.lenSl x), wrOp S (.lenSl x))]) | none => False) := propext Iff.rfl
theorem rk_minmax (mx : Bool) (xs : List Od) : RK P m0 Q (⟨d, .minmax mx xs, none⟩ :: os) k S H = (match evOp S H (.minmax mx xs) with | some (v, H') => RK P m0 Q os k (putS S d v) H' | none => False) := propext Iff.rfl
theorem fk_minmax (mx : Bool) (xs : List Od) : FK P m0 Q pairs (⟨d, .minmax mx xs, none⟩ :: os) k S H FW = (match evOp S H (.minmax mx xs) with | some (v, H') => FK P m0 Q pairs os k (putS S d v) H' (FW ++ [(footOp S (.minmax mx xs), wrOp S (.minmax mx xs))]) | none => False) := propext Iff.rfl
theorem rk_append (sz bytes : Nat) (x y : Od) : RK P m0 Q (⟨d, .append sz bytes x y, none⟩ :: os) k S H = (match evOp S H (.append sz bytes x y) with | some (v, H') => RK P m0 Q os k (putS S d v) H' | none => False) := propext Iff.rfl
theorem fk_append (sz bytes : Nat) (x y : Od) : FK P m0 Q pairs (⟨d, .append sz bytes x y, none⟩ :: os) k S H FW = (match evOp S H (.append sz bytes x y) with | some (v, H') => FK P m0 Q pairs os k (putS S d v) H' (FW ++ [(footOp S (.append sz bytes x y), wrOp S (.append sz bytes x y))]) | none => False) := propext Iff.rfl
theorem rk_copy (sz : Nat) (x y : Od) : RK P m0 Q (⟨d, .copy sz x y, none⟩ :: os) k S H = (match evOp S H (.copy sz x y) with | some (v, H') => RK P m0 Q os k (putS S d v) H' | none => False) := propext Iff.rfl
theorem fk_copy (sz : Nat) (x y : Od) : FK P m0 Q pairs (⟨d, .copy sz x y, none⟩ :: os) k S H FW = (match evOp S H (.copy sz x y) with | some (v, H') => FK P m0 Q pairs os k (putS S d v) H' (FW ++ [(footOp S (.copy sz x y), wrOp S (.copy sz x y))]) | none => False) := propext Iff.rfl
theorem rk_mkFunc (f : Nat) (caps : List Od) : RK P m0 Q (⟨d, .mkFunc f caps, none⟩ :: os) k S H = (match evOp S H (.mkFunc f caps) with | some (v, H') => RK P m0 Q os k (putS S d v) H' | none => False) := propext Iff.rfl
theorem fk_mkFunc (f : Nat) (caps : List Od) : FK P m0 Q pairs (⟨d, .mkFunc f caps, none⟩ :: os) k S H FW = (match evOp S H (.mkFunc f caps) with | some (v, H') => FK P m0 Q pairs os k (putS S d v) H' (FW ++ [(footOp S (.mkFunc f caps), wrOp S (.mkFunc f caps))]) | none => False) := propext Iff.rfl
theorem rk_capSl (x : Od) : RK P m0 Q (⟨d, .capSl x, none⟩ :: os) k S H = (match evOp S H (.capSl x) with | some (v, H') => RK P m0 Q os k (putS S d v) H' | none => False) := propext Iff.rfl
theorem fk_capSl (x : Od) : FK P m0 Q pairs (⟨d, .capSl x, none⟩ :: os) k S H FW = (match evOp S H (.capSl x) with | some (v, H') => FK P m0 Q pairs os k (putS S d v) H' (FW ++ [(footOp S (.capSl x), wrOp S (.capSl x))]) | none => False) := propext Iff.rfl
theorem rk_toArr (n sz : Nat) (x : Od) : RK P m0 Q (⟨d, .toArr n sz x, none⟩ :: os) k S H = (match evOp S H (.toArr n sz x) with | some (v, H') => RK P m0 Q os k (putS S d v) H' | none => False) := propext Iff.rfl
theorem fk_toArr (n sz : Nat) (x : Od) : FK P m0 Q pairs (⟨d, .toArr n sz x, none⟩ :: os) k S H FW = (match evOp S H (.toArr n sz x) with | some (v, H') => FK P m0 Q pairs os k (putS S d v) H' (FW ++ [(footOp S (.toArr n sz x), wrOp S (.toArr n sz x))]) | none => False) := propext Iff.rfl
theorem rk_growN (sz b : Nat) (zs : List Value) (x n : Od) : RK P m0 Q (⟨d, .growN sz b zs x n, none⟩ :: os) k S H = (match evOp S H (.growN sz b zs x n) with | some (v, H') => RK P m0 Q os k (putS S d v) H' | none => False) := propext Iff.rfl
theorem fk_growN (sz b : Nat) (zs : List Value) (x n : Od) : FK P m0 Q pairs (⟨d, .growN sz b zs x n, none⟩ :: os) k S H FW = (match evOp S H (.growN sz b zs x n) with | some (v, H') => FK P m0 Q pairs os k (putS S d v) H' (FW ++ [(footOp S (.growN sz b zs x n), wrOp S (.growN sz b zs x n))]) | none => False) := propext Iff.rfl
theorem rk_runeStr (x : Od) : RK P m0 Q (⟨d, .runeStr x, none⟩ :: os) k S H = (match evOp S H (.runeStr x) with | some (v, H') => RK P m0 Q os k (putS S d v) H' | none => False) := propext Iff.rfl
theorem fk_runeStr (x : Od) : FK P m0 Q pairs (⟨d, .runeStr x, none⟩ :: os) k S H FW = (match evOp S H (.runeStr x) with | some (v, H') => FK P m0 Q pairs os k (putS S d v) H' (FW ++ [(footOp S (.runeStr x), wrOp S (.runeStr x))]) | none => False) := propext Iff.rfl
end
theorem ex_bool {b : Bool} {p : Bool → Prop} : (∃ t, V.sc (.bool b) = .sc (.bool t) ∧ p t) ↔ p b := by simp
theorem wrap_id (n : Int) (h1 : -9223372036854775808 ≤ n) (h2 : n ≤ 9223372036854775807) : IntKind.i64.wrap n = n := IntWalk.i64_in n ⟨h1, h2⟩
mutual
theorem renV_closed (ρ : Nat → Nat) : ∀ (v : V), Closed v → renV ρ v = v
  | .sc v, _ => rfl
  | .agg cs, h => by simp only [renV]; rw [renL_closed ρ cs h]
  | .tup cs, h => by simp only [renV]; rw [renL_closed ρ cs h]
  | .sl n cs, h => by simp only [renV]; rw [renL_closed ρ cs h]
  | .box cs, h => by simp only [renV]; rw [renL_closed ρ cs h]
  | .ref id off, h => h.elim
  | .sref id off n sz, h => h.elim
  | .fn f cs, h => by simp only [renV]; rw [renL_closed ρ cs h]
  | .dead, _ => rfl
theorem renL_closed (ρ : Nat → Nat) : ∀ (l : List V), ClosedL l → renL ρ l = l
  | [], _ => rfl
  | v :: vs, h => by
    simp only [renL]
    rw [renV_closed ρ v h.1, renL_closed ρ vs h.2]
end
mutual
theorem arg_closed {H : Heap} {ids bs : List Nat} : ∀ (v : V), Closed v → ArgRel H ids bs v v
  | .sc v, _ => by simp [ArgRel]
  | .agg cs, h => by simp only [ArgRel]; exact ⟨cs, rfl, argL_closed cs h⟩
  | .tup cs, h => by simp only [ArgRel]; exact ⟨cs, rfl, argL_closed cs h⟩
  | .sl n cs, h => by simp only [ArgRel]; exact ⟨trivial, h⟩
  | .box cs, h => by simp only [ArgRel]; exact ⟨trivial, h⟩
  | .ref id off, h => h.elim
  | .sref id off n sz, h => h.elim
  | .fn f cs, h => by simp only [ArgRel]; exact ⟨cs, rfl, argL_closed cs h⟩
  | .dead, _ => by simp [ArgRel]
theorem argL_closed {H : Heap} {ids bs : List Nat} : ∀ (l : List V), ClosedL l → ArgRelL H ids bs l l
  | [], _ => by simp [ArgRelL]
  | v :: vs, h => by
    simp only [ArgRelL]
    exact ⟨v, vs, rfl, arg_closed v h.1, argL_closed vs h.2⟩
end
theorem closedL_sc (l : List Value) : ClosedL (l.map .sc) := ClosedL.mk fun v hv => by
  obtain ⟨x, _, rfl⟩ := List.mem_map.1 hv
  trivial
theorem closedL_u8 (l : List UInt8) : ClosedL (l.map u8V) := ClosedL.mk fun v hv => by
  obtain ⟨x, _, rfl⟩ := List.mem_map.1 hv
  trivial
theorem seen_closed {H : Heap} {ids bs : List Nat} : ∀ (l : List V), ClosedL l → SeenL H ids bs l l
  | [], _ => rfl
  | v :: vs, h => ⟨v, vs, rfl, .inl ⟨h.1, rfl⟩, seen_closed vs h.2⟩
theorem call_in2 {P : Program} {f : Nat} {args' : List V} {r : V} {Hout : Heap} (hC : C P f args' [] r Hout) {H : Heap} {args : List V} (bs : List Nat) (hbs : ∀ id ∈ bs, (id ∈ idsInL args ∨ ∃ id' ∈ bs, id' ∈ idsInL args ∧ ∃ cells, blkAt H id' = some cells ∧ id ∈ idsInL cells) ∧ ∃ cells, blkAt H id = some cells)
    (hrel : ArgRelL H [] bs args args') (hro : bs ≠ [] → NoRO r ∧ NoROH Hout) : CallRel P f H args (renV (fun k => H.length + k) r) (H ++ Hout.map (Option.map (renL fun k => H.length + k))) bs [] := by
  have hρ : ρof [] H.length = fun k => H.length + k := by funext k; simp [ρof]
  refine ⟨[], bs, args', [], r, Hout, hC, List.nodup_nil, rfl, Nat.zero_le _, fun k id h => by simp at h, fun k id h => by simp at h, hbs, hrel, hro, by rw [hρ], ?_, by simp, rfl⟩
  rw [hρ]; rfl
theorem call_in {P : Program} {f : Nat} {args' : List V} {r : V} {Hout : Heap} (hC : C P f args' [] r Hout) {H : Heap} {args : List V} (bs : List Nat) (hbs : ∀ id ∈ bs, id ∈ idsInL args ∧ ∃ cells, blkAt H id = some cells)
    (hrel : ArgRelL H [] bs args args') (hro : bs ≠ [] → NoRO r ∧ NoROH Hout) : CallRel P f H args (renV (fun k => H.length + k) r) (H ++ Hout.map (Option.map (renL fun k => H.length + k))) bs [] :=
  call_in2 hC bs (fun id h => ⟨.inl (hbs id h).1, (hbs id h).2⟩) hrel hro
theorem call_pure {P : Program} {f : Nat} {args : List V} {r : V} (hC : C P f args [] r []) (ha : ClosedL args) (hr : Closed r) {H : Heap} : CallRel P f H args r H [] [] := by
  have := call_in hC (H := H) [] (fun id h => by cases h) (argL_closed args ha) (fun h => absurd rfl h)
  rw [renV_closed _ r hr] at this
  simpa using this
theorem call_new {P : Program} {f : Nat} {args : List V} {n sz : Nat} {cells : List V} (hC : C P f args [] (.sref 0 0 n sz) [some cells]) (ha : ClosedL args) (hc : ClosedL cells) {H : Heap} :
    CallRel P f H args (.sref H.length 0 n sz) (H ++ [some cells]) [] [] := by
  have := call_in hC (H := H) [] (fun id h => by cases h) (argL_closed args ha) (fun h => absurd rfl h)
  simpa [renV, renL_closed _ cells hc] using this
def Post (ars : List ARes) (n : Nat) (r : V) (Hout : Heap) (e : AExit) (S : List V) (H : Heap) : Prop := (e = .normal ∨ e = .ret) ∧ ∃ v, resAll S H ars = some v ∧ OutOK n H v r Hout
theorem post_ret {ars : List ARes} {n : Nat} {r : V} {Hout : Heap} {S : List V} {H : Heap} : Post ars n r Hout .ret S H = ∃ v, resAll S H ars = some v ∧ OutOK n H v r Hout := by simp [Post]
theorem post_normal {ars : List ARes} {n : Nat} {r : V} {Hout : Heap} {S : List V} {H : Heap} : Post ars n r Hout .normal S H = ∃ v, resAll S H ars = some v ∧ OutOK n H v r Hout := by simp [Post]
theorem res_one (S : List V) (H : Heap) (t : Nat) : resAll S H [.tmp t] = some (S.getD t .dead) := by simp [resAll, resL, resV]
theorem C_of {P : Program} (hm : P.follows .mixedOrders = true) {f : Nat} {fn : Func} {A : ACode} {ars : List ARes} (hf : P.funcs[f]? = some fn) (hA : fn.body.bind (cCode P) = some A)
    (hR : cRes P fn.results.toList = some ars) {args : List V} {Hin : List (List V)} {r : V} {Hout : Heap} (nt : Nat) (hnt : fn.ntmps = nt)
    (h : WK P Hin.length (Post ars Hin.length r Hout) A .fin (args ++ List.replicate (nt - args.length) .dead) (Hin.map some)) : C P f args Hin r Hout := by
  simp only [Option.bind_eq_some_iff] at hA
  obtain ⟨c, hb, hA⟩ := hA
  subst hnt
  exact C_of_body hm hf hb hA hR (wpS_sound A _ _ _ h)
theorem out_val {H : Heap} {v : V} (hv : Closed v) : OutOK 0 H v v [] := ⟨[], [], List.nodup_nil, rfl, Nat.le_refl _, fun k h => by omega, (fun _ h => by cases h), arg_closed v hv, fun k c h => by simp at h⟩
theorem out_row {H : Heap} {id n sz : Nat} {cells : List V} (hb : blkAt H id = some cells) (hc : ClosedL cells) : OutOK 0 H (.sref id 0 n sz) (.sref 0 0 n sz) [some cells] := by
  refine ⟨[id], [], by simp, rfl, Nat.zero_le _, fun k h => by omega, (fun _ h => by cases h), ?_, fun k c h => ?_⟩
  · simp only [ArgRel]
    exact .inl ⟨0, rfl, rfl⟩
  · cases k with
    | zero => simp at h; subst h; exact ⟨id, cells, rfl, hb, argL_closed cells hc⟩
    | succ k => simp at h
end
end Go.Proofs.YtfpoebmihjbknaaGreat.VA

/- From a contract of the abstract machine to the arguments and the answer of a given row. -/
set_option linter.unusedVariables false
set_option linter.unusedSimpArgs false
namespace Go.Proofs.YtfpoebmihjbknaaGreat.VA
open Go Go.ChangeShapes Go.WideShapes Go.RowKit
def ArgT (P : Program) : Nat → TypeId → List V → Prop
  | 0, _, _ => False
  | n + 1, t, vs =>
    match P.underlying t with
    | some .bool => ∃ b, vs = [.sc (.bool b)]
    | some (.int k) => ∃ i, (Lit.int k i).wf = true ∧ vs = [.sc (.int k i)]
    | some .string => ∃ s, s.size ≤ maxLen ∧ vs = [.sc (.string s)]
    | some (.slice e) => vs = [.sc (.slice none 0 0)] ∨ ∃ parts : List (List V), parts.length ≤ maxLen ∧ (∀ p ∈ parts, ArgT P n e p) ∧ vs = [.sl parts.length parts.flatten]
    | some (.struct fs) => ∃ parts : List (List V), parts.length = fs.toList.length ∧ (∀ (i : Nat) f p, fs.toList[i]? = some f → parts[i]? = some p → ArgT P n f.type p) ∧ vs = parts.flatten
    | some (.array m e) => ∃ parts : List (List V), parts.length = m ∧ (∀ p ∈ parts, ArgT P n e p) ∧ vs = parts.flatten
    | _ => False
def fieldsFlat (P : Program) (r : TypeId → Bool) : List Field → Nat → Nat → Bool
  | [], o, total => o == total
  | f :: fs, o, total => (f.offset == o) && r f.type && fieldsFlat P r fs (o + P.cellsOf f.type) total
def flatB (P : Program) : Nat → TypeId → Bool
  | 0, _ => false
  | n + 1, t =>
    match P.underlying t with
    | some .bool => P.cellsOf t == 1
    | some (.int _) => P.cellsOf t == 1
    | some .string => P.cellsOf t == 1
    | some (.slice e) => (P.cellsOf t == 1) && flatB P n e
    | some (.struct fs) => fieldsFlat P (flatB P n) fs.toList 0 (P.cellsOf t)
    | some (.array m e) => (P.cellsOf t == m * P.cellsOf e) && flatB P n e
    | _ => false
mutual
def bulkV : V → Nat
  | .sc (.string s) => s.size + 1
  | .sc _ => 1
  | .agg cs => bulkL cs
  | .tup cs => bulkL cs + 1
  | .sl _ cs => bulkL cs + 1
  | .box cs => bulkL cs + 1
  | .fn _ cs => bulkL cs + 1
  | _ => 1
def bulkL : List V → Nat
  | [] => 0
  | v :: vs => bulkV v + bulkL vs
end
theorem bulkL_app : ∀ (a b : List V), bulkL (a ++ b) = bulkL a + bulkL b
  | [], b => by simp [bulkL]
  | v :: a, b => by simp [bulkL, bulkL_app a b]; omega
def inCx (w : World) : Cx := { w := w, β := fun _ => none, N := fun _ => False, B := w.heap.size, R := fun _ => True }
theorem mapM_at {α β : Type} {f : α → Option β} : ∀ {l : List α} {xs : List β}, l.mapM f = some xs → xs.length = l.length ∧ ∀ (i : Nat) (a : α), l[i]? = some a → ∃ b, f a = some b ∧ xs[i]? = some b
  | [], xs, h => by simp at h; subst h; simp
  | a :: l, xs, h => by
    rw [List.mapM_cons] at h
    simp only [Option.bind_eq_bind, Option.bind_eq_some_iff, Option.pure_def, Option.some.injEq] at h
    obtain ⟨b, hb, ys, hy, rfl⟩ := h
    have ih := mapM_at hy
    refine ⟨by simp [ih.1], fun i x hx => ?_⟩
    cases i with
    | zero => simp at hx; subst hx; exact ⟨b, hb, rfl⟩
    | succ i => simpa using ih.2 i x (by simpa using hx)
theorem RepO.app {K : Cx} : ∀ {xs ys : List V} {la lb : List Value}, RepO K xs la → RepO K ys lb → RepO K (xs ++ ys) (la ++ lb)
  | [], ys, la, lb, h, k => by simp only [RepO] at h; subst h; simpa using k
  | x :: xs, ys, la, lb, h, k => by
    simp only [RepO] at h
    obtain ⟨c, l, rfl, h0, h1, h2⟩ := h
    simp only [List.cons_append, RepO]
    exact ⟨c, l ++ lb, rfl, h0, h1, RepO.app h2 k⟩
theorem repO_one {K : Cx} {v : V} {c : Value} (h : c.oneCell' = true) (hr : Rep K v c) : RepO K [v] [c] := by
  simp only [RepO]
  exact ⟨c, [], rfl, h, hr, rfl⟩
theorem RepO.len {K : Cx} {xs : List V} {la : List Value} (h : RepO K xs la) : la.length = xs.length := (RepO.iff.1 h).1.length
theorem RepC.app {K : Cx} {xs ys : List V} {a : Addr} {i : Nat} (h : RepC K xs a i) (k : RepC K ys a (i + xs.length)) : RepC K (xs ++ ys) a i :=
  RepC.mk fun j v hv => by
    by_cases hj : j < xs.length
    · rw [List.getElem?_append_left hj] at hv
      exact h.get j v hv
    · rw [List.getElem?_append_right (by omega)] at hv
      have := k.get (j - xs.length) v hv
      rwa [show i + xs.length + (j - xs.length) = i + j by omega] at this
theorem RepC.of_cells {w : World} {xs : List V} {cs : List Value} {a : Addr} {o n : Nat} (hr : RepO (inCx w) xs cs) (hc : w.cells? 0 (a.add o) n = some cs) : RepC (inCx w) xs a o := by
  obtain ⟨_, hl, hcell⟩ := World.cells?_some hc
  have hlen := hr.len
  refine RepC.mk fun j v hv => ?_
  have hj := (List.getElem?_eq_some_iff.1 hv).1
  have hr' := RepO.iff.1 hr
  obtain ⟨c, hcj, hrep⟩ := hr'.1.get j v hv
  refine ⟨c, ?_, hr'.2 c (List.mem_of_getElem? hcj), hrep⟩
  have := hcell j (by omega)
  rw [add_add, hcj] at this
  exact this
section
variable {H : Type} {enc : TypeId × Value → H} {P : Program} {w : World} {sp : Nat → Bool} {held : Bool}
theorem fields_arg (n : Nat) (r : TypeId → Bool) (ih : ∀ (t : TypeId) (cs : List Value) (d : DataW H) (ps : List MemPlace), r t = true → DataW.trod enc P w 0 sp held n t cs = some (d, ps) →
      ∃ vs, ArgT P n t vs ∧ RepO (inCx w) vs cs ∧ cs.length = P.cellsOf t ∧ bulkL vs ≤ Go.Proofs.YtfpoebmihjbknaaGreat.Rows.uptoBulk d) (cs : List Value) (total : Nat) (hcs : cs.length = total) :
    ∀ (fs : List Field) (o : Nat) (xs : List (DataW H × List MemPlace)), fieldsFlat P r fs o total = true → o ≤ total → fs.mapM (fun f => DataW.trod enc P w 0 sp held n f.type ((cs.drop f.offset).take (P.cellsOf f.type))) = some xs →
      ∃ parts : List (List V), parts.length = fs.length ∧ (∀ (i : Nat) f p, fs[i]? = some f → parts[i]? = some p → ArgT P n f.type p) ∧ RepO (inCx w) parts.flatten (cs.drop o) ∧ bulkL parts.flatten ≤ Go.Proofs.YtfpoebmihjbknaaGreat.Rows.uptoBulkAll (xs.map (·.1))
  | [], o, xs, hf, ho, h => by
    simp only [fieldsFlat, beq_iff_eq] at hf
    simp at h; subst h
    refine ⟨[], rfl, fun i f p hi => by simp at hi, ?_, by simp [bulkL]⟩
    rw [List.drop_eq_nil_of_le (by omega)]
    simp [RepO]
  | f :: fs, o, xs, hf, ho, h => by
    simp only [fieldsFlat, Bool.and_eq_true, beq_iff_eq] at hf
    obtain ⟨⟨hoff, hr⟩, hrest⟩ := hf
    rw [List.mapM_cons] at h
    simp only [Option.bind_eq_bind, Option.bind_eq_some_iff, Option.pure_def, Option.some.injEq] at h
    obtain ⟨⟨d, ps⟩, hd, ys, hy, rfl⟩ := h
    obtain ⟨vs, h1, h2, h3, h4⟩ := ih f.type _ d ps hr hd
    rw [hoff] at h2 h3
    have hle : o + P.cellsOf f.type ≤ total := by
      simp only [List.length_take, List.length_drop] at h3
      omega
    obtain ⟨parts, g1, g2, g3, g4⟩ := fields_arg n r ih cs total hcs fs _ ys hrest hle hy
    refine ⟨vs :: parts, by simp [g1], fun i f' p hi hp => ?_, ?_, ?_⟩
    · cases i with
      | zero => simp at hi hp; subst hi; subst hp; exact h1
      | succ i => exact g2 i f' p (by simpa using hi) (by simpa using hp)
    · have : cs.drop o = (cs.drop o).take (P.cellsOf f.type) ++ cs.drop (o + P.cellsOf f.type) := by
        rw [← List.drop_drop, List.take_append_drop]
      rw [this, List.flatten_cons]
      exact h2.app g3
    · simp only [List.flatten_cons, bulkL_app, List.map_cons, Go.Proofs.YtfpoebmihjbknaaGreat.Rows.uptoBulkAll]
      omega
theorem slice_arg (n : Nat) (e : TypeId) (ih : ∀ (cs : List Value) (d : DataW H) (ps : List MemPlace), DataW.trod enc P w 0 sp held n e cs = some (d, ps) →
      ∃ vs, ArgT P n e vs ∧ RepO (inCx w) vs cs ∧ cs.length = P.cellsOf e ∧ bulkL vs ≤ Go.Proofs.YtfpoebmihjbknaaGreat.Rows.uptoBulk d) (a : Addr) :
    ∀ (len s : Nat) (xs : List (DataW H × List MemPlace)), (List.range' s len).mapM (fun i => (w.cells? 0 (a.add (i * P.cellsOf e)) (P.cellsOf e)).bind (DataW.trod enc P w 0 sp held n e)) = some xs →
      ∃ parts : List (List V), parts.length = len ∧ (∀ p ∈ parts, ArgT P n e p) ∧ RepC (inCx w) parts.flatten a (s * P.cellsOf e) ∧ bulkL parts.flatten ≤ Go.Proofs.YtfpoebmihjbknaaGreat.Rows.uptoBulkAll (xs.map (·.1))
  | 0, s, xs, h => by
    simp at h; subst h
    exact ⟨[], rfl, by simp, by simp [RepC], by simp [bulkL]⟩
  | len + 1, s, xs, h => by
    rw [List.range'_succ, List.mapM_cons] at h
    simp only [Option.bind_eq_bind, Option.bind_eq_some_iff, Option.pure_def, Option.some.injEq] at h
    obtain ⟨⟨d, ps⟩, ⟨cs, hcs, hd⟩, ys, hy, rfl⟩ := h
    obtain ⟨vs, h1, h2, h3, h4⟩ := ih cs d ps hd
    obtain ⟨parts, g1, g2, g3, g4⟩ := slice_arg n e ih a len (s + 1) ys hy
    refine ⟨vs :: parts, by simp [g1], ?_, ?_, ?_⟩
    · intro p hp
      rcases List.mem_cons.1 hp with rfl | hp
      · exact h1
      · exact g2 p hp
    · rw [List.flatten_cons]
      refine (RepC.of_cells h2 hcs).app ?_
      rw [← h2.len, h3, ← Nat.succ_mul]
      exact g3
    · simp only [List.flatten_cons, bulkL_app, List.map_cons, Go.Proofs.YtfpoebmihjbknaaGreat.Rows.uptoBulkAll]
      omega
theorem array_arg (n : Nat) (e : TypeId) (ih : ∀ (cs : List Value) (d : DataW H) (ps : List MemPlace), DataW.trod enc P w 0 sp held n e cs = some (d, ps) →
      ∃ vs, ArgT P n e vs ∧ RepO (inCx w) vs cs ∧ cs.length = P.cellsOf e ∧ bulkL vs ≤ Go.Proofs.YtfpoebmihjbknaaGreat.Rows.uptoBulk d) (cs : List Value) :
    ∀ (len s : Nat) (xs : List (DataW H × List MemPlace)), cs.length = (s + len) * P.cellsOf e → (List.range' s len).mapM (fun i => DataW.trod enc P w 0 sp held n e ((cs.drop (i * P.cellsOf e)).take (P.cellsOf e))) = some xs →
      ∃ parts : List (List V), parts.length = len ∧ (∀ p ∈ parts, ArgT P n e p) ∧ RepO (inCx w) parts.flatten (cs.drop (s * P.cellsOf e)) ∧ bulkL parts.flatten ≤ Go.Proofs.YtfpoebmihjbknaaGreat.Rows.uptoBulkAll (xs.map (·.1))
  | 0, s, xs, hl, h => by
    simp at h; subst h
    refine ⟨[], rfl, by simp, ?_, by simp [bulkL]⟩
    rw [List.drop_eq_nil_of_le (by simp [hl])]
    simp [RepO]
  | len + 1, s, xs, hl, h => by
    rw [List.range'_succ, List.mapM_cons] at h
    simp only [Option.bind_eq_bind, Option.bind_eq_some_iff, Option.pure_def, Option.some.injEq] at h
    obtain ⟨⟨d, ps⟩, hd, ys, hy, rfl⟩ := h
    obtain ⟨vs, h1, h2, h3, h4⟩ := ih _ d ps hd
    obtain ⟨parts, g1, g2, g3, g4⟩ := array_arg n e ih cs len (s + 1) ys (by rw [hl]; congr 1; omega) hy
    refine ⟨vs :: parts, by simp [g1], ?_, ?_, ?_⟩
    · intro p hp
      rcases List.mem_cons.1 hp with rfl | hp
      · exact h1
      · exact g2 p hp
    · have : cs.drop (s * P.cellsOf e) = (cs.drop (s * P.cellsOf e)).take (P.cellsOf e) ++ cs.drop ((s + 1) * P.cellsOf e) := by
        rw [Nat.succ_mul, ← List.drop_drop, List.take_append_drop]
      rw [this, List.flatten_cons]
      exact h2.app g3
    · simp only [List.flatten_cons, bulkL_app, List.map_cons, Go.Proofs.YtfpoebmihjbknaaGreat.Rows.uptoBulkAll]
      omega
theorem trod_struct_eq {t : TypeId} {fs : Array Field} (ht : P.underlying t = some (.struct fs)) (n : Nat) (cs : List Value) : DataW.trod enc P w 0 sp held (n + 1) t cs =
    if cs.length = P.cellsOf t then (fs.toList.mapM fun f => DataW.trod enc P w 0 sp held n f.type ((cs.drop f.offset).take (P.cellsOf f.type))).map fun xs => (.agg (xs.map (·.1)), xs.flatMap (·.2)) else none := by
  rw [DataW.trod.eq_def]
  dsimp only
  rw [ht]
theorem trod_array_eq {t : TypeId} {k : Nat} {e : TypeId} (ht : P.underlying t = some (.array k e)) (n : Nat) (cs : List Value) : DataW.trod enc P w 0 sp held (n + 1) t cs =
    if cs.length = P.cellsOf t then ((List.range k).mapM fun i => DataW.trod enc P w 0 sp held n e ((cs.drop (i * P.cellsOf e)).take (P.cellsOf e))).map fun xs => (.agg (xs.map (·.1)), xs.flatMap (·.2)) else none := by
  rw [DataW.trod.eq_def]
  dsimp only
  rw [ht]
theorem trod_arg : ∀ (n m : Nat) (t : TypeId) (cs : List Value) (d : DataW H) (ps : List MemPlace), flatB P m t = true → DataW.trod enc P w 0 sp held n t cs = some (d, ps) →
    ∃ vs, ArgT P n t vs ∧ RepO (inCx w) vs cs ∧ cs.length = P.cellsOf t ∧ bulkL vs ≤ Go.Proofs.YtfpoebmihjbknaaGreat.Rows.uptoBulk d
  | 0, m, t, cs, d, ps, hf, h => by simp [DataW.trod] at h
  | n + 1, 0, t, cs, d, ps, hf, h => by simp [flatB] at hf
  | n + 1, m + 1, t, cs, d, ps, hf, h => by
    have h0 := h
    unfold flatB at hf
    unfold DataW.trod at h
    split at hf
    · rename_i ht
      rw [ht] at h
      split at h <;> rename_i hu <;> try cases hu
      all_goals try (simp at h; done)
      rename_i b
      simp at h
      obtain ⟨rfl, rfl⟩ := h
      exact ⟨[.sc (.bool b)], by unfold ArgT; rw [ht]; exact ⟨b, rfl⟩, repO_one rfl (by simp [Rep]), by simpa using (beq_iff_eq.1 hf).symm, by simp [bulkL, bulkV, Go.Proofs.YtfpoebmihjbknaaGreat.Rows.uptoBulk]⟩
    · rename_i k ht
      rw [ht] at h
      split at h <;> rename_i hu <;> try cases hu
      all_goals try (simp at h; done)
      rename_i i
      split at h
      · rename_i hk
        obtain ⟨rfl, hwf⟩ := hk
        obtain ⟨rfl, rfl⟩ := Prod.mk.inj (Option.some.inj h)
        exact ⟨[.sc (.int _ i)], by unfold ArgT; rw [ht]; exact ⟨i, hwf, rfl⟩, repO_one rfl (by simp [Rep]), by simpa using (beq_iff_eq.1 hf).symm, by simp [bulkL, bulkV, Go.Proofs.YtfpoebmihjbknaaGreat.Rows.uptoBulk]⟩
      · cases h
    · rename_i ht
      rw [ht] at h
      split at h <;> rename_i hu <;> try cases hu
      all_goals try (simp at h; done)
      rename_i b
      split at h
      · rename_i hsz
        obtain ⟨rfl, rfl⟩ := Prod.mk.inj (Option.some.inj h)
        refine ⟨[.sc (.string b)], by unfold ArgT; rw [ht]; exact ⟨b, hsz, rfl⟩, repO_one rfl (by simp [Rep]), by simpa using (beq_iff_eq.1 hf).symm, ?_⟩
        have e : b.data.toList.length = b.size := by rw [Array.length_toList]; rfl
        simp only [bulkL, bulkV, Go.Proofs.YtfpoebmihjbknaaGreat.Rows.uptoBulk]
        omega
      · cases h
    · rename_i e ht
      simp only [Bool.and_eq_true, beq_iff_eq] at hf
      rw [ht] at h
      split at h <;> rename_i hu <;> try cases hu
      all_goals try (simp at h; done)
      · simp at h
        obtain ⟨rfl, rfl⟩ := h
        exact ⟨[.sc (.slice none 0 0)], by unfold ArgT; rw [ht]; exact .inl rfl, repO_one rfl (by simp [Rep]), by simpa using hf.1.symm, by simp [bulkL, bulkV, Go.Proofs.YtfpoebmihjbknaaGreat.Rows.uptoBulk]⟩
      · rename_i a len cap
        simp only [] at h
        split at h
        · rename_i hle
          simp only [Option.bind_eq_some_iff, Option.map_eq_some_iff] at h
          obtain ⟨xs, hxs, rest, hrest, hd⟩ := h
          cases hd
          obtain ⟨parts, g1, g2, g3, g4⟩ := slice_arg n e (fun cs d ps h => trod_arg n m e cs d ps hf.2 h) a len 0 xs (by rw [← List.range_eq_range']; exact hxs)
          refine ⟨[.sl len parts.flatten], ?_, repO_one rfl ?_, by simpa using hf.1.symm, ?_⟩
          · unfold ArgT; rw [ht]
            exact .inr ⟨parts, by omega, g2, by rw [g1]⟩
          · simp only [Rep]
            exact ⟨a, cap, rfl, hle.2.1, .inr ⟨fun h => h, .inl trivial⟩, by simpa using g3⟩
          · simp only [bulkL, bulkV, Go.Proofs.YtfpoebmihjbknaaGreat.Rows.uptoBulk]
            omega
        · cases h
    · rename_i fs ht
      rw [trod_struct_eq ht] at h0
      split at h0
      · rename_i hcs
        simp only [Option.map_eq_some_iff] at h0
        obtain ⟨xs, hxs, hd⟩ := h0
        cases hd
        obtain ⟨parts, g1, g2, g3, g4⟩ := fields_arg n (flatB P m) (fun t cs d ps hr h => trod_arg n m t cs d ps hr h) cs (P.cellsOf t) hcs fs.toList 0 xs hf (Nat.zero_le _) hxs
        refine ⟨parts.flatten, ?_, by simpa using g3, hcs, ?_⟩
        · unfold ArgT; rw [ht]
          exact ⟨parts, g1, g2, rfl⟩
        · simp only [Go.Proofs.YtfpoebmihjbknaaGreat.Rows.uptoBulk]
          omega
      · cases h0
    · rename_i k e ht
      simp only [Bool.and_eq_true, beq_iff_eq] at hf
      rw [trod_array_eq ht] at h0
      split at h0
      · rename_i hcs
        simp only [Option.map_eq_some_iff] at h0
        obtain ⟨xs, hxs, hd⟩ := h0
        cases hd
        obtain ⟨parts, g1, g2, g3, g4⟩ := array_arg n e (fun cs d ps h => trod_arg n m e cs d ps hf.2 h) cs k 0 xs (by rw [hcs, hf.1]; simp) (by rw [← List.range_eq_range']; exact hxs)
        refine ⟨parts.flatten, ?_, by simpa using g3, hcs, ?_⟩
        · unfold ArgT; rw [ht]
          exact ⟨parts, g1, g2, rfl⟩
        · simp only [Go.Proofs.YtfpoebmihjbknaaGreat.Rows.uptoBulk]
          omega
      · cases h0
    · cases hf
end
def ArgV (P : Program) (t : TypeId) (v : V) : Prop :=
  match P.underlying t with
  | some (.struct _) | some (.array _ _) => ∃ n cs, ArgT P n t cs ∧ v = .agg cs
  | _ => ∃ n, ArgT P n t [v]
def ArgsT (P : Program) : List TypeId → List V → Prop
  | [], vs => vs = []
  | t :: ts, vs => ∃ v us, vs = v :: us ∧ ArgV P t v ∧ ArgsT P ts us
theorem cells_one {P : Program} {w : World} {r : Reach} {base : Nat} {t : TypeId} {v : Value} (hs : ∀ fs, P.underlying t ≠ some (.struct fs)) (ha : ∀ n e, P.underlying t ≠ some (.array n e)) (h : Value.okWide P w r base t v) : v.cells.toList = [v] := by
  have hc : Cell.okWide P w r base t v := by
    unfold Value.okWide at h
    split at h
    · rename_i fs hu; exact absurd hu (hs fs)
    · rename_i n e hu; exact absurd hu (ha n e)
    · exact h
  cases v with
  | agg cs =>
    exfalso
    unfold Cell.okWide at hc
    split at hc <;> try (rename_i h1; cases h1; done)
    all_goals try (rename_i h1 h2; cases h2; done)
    unfold Cell.ok at hc
    split at hc <;> rename_i h1 h2 <;> first | (cases h2; done) | exact hc
  | _ => rfl
section
variable {H : Type} {enc : TypeId × Value → H} {P : Program} {w : World}
theorem arg_v {sp : Nat → Bool} {held : Bool} {r : Reach} {base m : Nat} {t : TypeId} {v : Value} {d : DataW H} {ps : List MemPlace} (hf : flatB P m t = true) (h : DataW.Trod enc P w 0 sp held t v d ps) (hok : Value.okWide P w r base t v) :
    ∃ u, ArgV P t u ∧ Rep (inCx w) u v ∧ bulkV u ≤ Go.Proofs.YtfpoebmihjbknaaGreat.Rows.uptoBulk d := by
  obtain ⟨n, h⟩ := h
  obtain ⟨vs, h1, h2, h3, h4⟩ := trod_arg n m t _ d ps hf h
  by_cases hagg : (∃ fs, P.underlying t = some (.struct fs)) ∨ ∃ k e, P.underlying t = some (.array k e)
  · have hv : ∃ cs, v = .agg cs := by
      unfold Value.okWide at hok
      rcases hagg with ⟨fs, hu⟩ | ⟨k, e, hu⟩ <;> rw [hu] at hok <;> exact ⟨_, hok.choose_spec.1⟩
    obtain ⟨cs, rfl⟩ := hv
    refine ⟨.agg vs, ?_, ?_, by simpa [bulkV] using h4⟩
    · unfold ArgV
      rcases hagg with ⟨fs, hu⟩ | ⟨k, e, hu⟩ <;> rw [hu] <;> exact ⟨n, vs, h1, rfl⟩
    · simp only [Rep]
      exact ⟨cs.toList, by simp, h2⟩
  · have hc := cells_one (fun fs hu => hagg (.inl ⟨fs, hu⟩)) (fun k e hu => hagg (.inr ⟨k, e, hu⟩)) hok
    rw [hc] at h2
    have hl := h2.len
    match vs, hl with
    | [u], _ =>
      simp only [RepO] at h2
      obtain ⟨c, l, hcl, _, h2, _⟩ := h2
      cases hcl
      refine ⟨u, ?_, h2, by simpa [bulkL] using h4⟩
      unfold ArgV
      split
      · rename_i fs hu; exact absurd (.inl ⟨fs, hu⟩) hagg
      · rename_i k e hu; exact absurd (.inr ⟨k, e, hu⟩) hagg
      · exact ⟨n, h1⟩
theorem args_v {sp : Nat → Bool} {held : Bool} {r : Reach} {base m : Nat} : ∀ {ts : List TypeId} {vs : List Value} {ds : List (DataW H)} {ps : List MemPlace}, ts.all (flatB P m) = true → DataW.TrodAll enc P w 0 sp held ts vs ds ps →
    (∀ (j : Nat) t v, ts[j]? = some t → vs[j]? = some v → Value.okWide P w r base t v) → ∃ us, ArgsT P ts us ∧ RepL (inCx w) us vs ∧ bulkL us ≤ Go.Proofs.YtfpoebmihjbknaaGreat.Rows.uptoBulkAll ds ∧ ds.length = ts.length
  | [], vs, ds, ps, _, h, _ => by
    obtain ⟨rfl, rfl, rfl⟩ := trodAll_nil h
    exact ⟨[], by simp [ArgsT], by simp [RepL], by simp [bulkL], rfl⟩
  | t :: ts, vs, ds, ps, hf, h, hok => by
    obtain ⟨v, vs1, d, ds1, a, b, rfl, rfl, rfl, h1, h2⟩ := trodAll_cons h
    simp only [List.all_cons, Bool.and_eq_true] at hf
    obtain ⟨u, g1, g2, g3⟩ := arg_v hf.1 h1 (hok 0 t v rfl rfl)
    obtain ⟨us, k1, k2, k3, k4⟩ := args_v hf.2 h2 fun j t v ht hv => hok (j + 1) t v (by simpa using ht) (by simpa using hv)
    refine ⟨u :: us, ?_, ?_, ?_, by simp [k4]⟩
    · simp only [ArgsT]; exact ⟨u, us, rfl, g1, k1⟩
    · simp only [RepL]; exact ⟨v, vs1, rfl, g2, k2⟩
    · simp only [bulkL, Go.Proofs.YtfpoebmihjbknaaGreat.Rows.uptoBulkAll]; omega
theorem below_all (hl : laidOutB P = true) {W W' : World} (hb : Below W.heap.size W W') : ∀ {ts : List TypeId} {vs : List Value} {ds : List (DataW H)} {ps : List MemPlace}, ts.all (fun t => P.readableRec t && decide (t < P.types.size)) = true →
    DataW.TrodAll enc P W 0 (fun _ => true) true ts vs ds ps → (∀ x ∈ ps, x.block < W.heap.size) → DataW.TrodAll enc P W' 0 (fun b => decide (b < W.heap.size)) true ts vs ds ps
  | [], vs, ds, ps, _, h, _ => by
    obtain ⟨rfl, rfl, rfl⟩ := trodAll_nil h
    exact trodAll_mk0
  | t :: ts, vs, ds, ps, hr, h, hlt => by
    obtain ⟨v, vs1, d, ds1, a, b, rfl, rfl, rfl, h1, h2⟩ := trodAll_cons h
    simp only [List.all_cons, Bool.and_eq_true, decide_eq_true_eq] at hr
    exact trodAll_cons_mk (Below.trod hl hr.1.1 hr.1.2 h1 hb fun x hx => hlt x (by simp [hx])) (below_all hl hb (by simpa using hr.2) h2 fun x hx => hlt x (by simp [hx]))
theorem row_calls {f : FuncId} {fn : Func} {s : ChangeSpec} {tb : TypeId} {m : Nat} (hres : fn.resultTypes = #[tb]) (htb : P.underlying tb = some .bool) (hl : laidOutB P = true)
    (hr : fn.params.toList.all (fun t => P.readableRec t && decide (t < P.types.size)) = true) (hflat : fn.params.toList.all (flatB P m) = true) (hvars : s.vars = [])
    (hsfn : ∀ ds : List (DataW H), ds.length = fn.params.toList.length → s.fn H ds = { results := [.lit (.bool true)], args := ds })
    {W : World} {base : Nat} {args : Array Value} {ds gs : List (DataW H)} {before : List MemPlace}
    (hval : ∀ (j : Nat) t v, fn.params[j]? = some t → args[j]? = some v → Value.okWide P W .any base t v)
    (hW : DataW.Whole enc P fn.params.toList s.vars false W args.toList ds gs before)
    (hC : ∀ us, ArgsT P fn.params.toList us → bulkL us ≤ Go.Proofs.YtfpoebmihjbknaaGreat.Rows.uptoBulkAll (ds ++ gs) → C P f us [] (.sc (.bool true)) []) :
    Calls P f args W fun e W' => ∃ v, e = .returned v ∧ s.post enc P fn false true false false W args v W' := by
  have hlt := hW.lt
  have hW' := hW
  obtain ⟨p, q, hA, hV, rfl, hfz, hnd⟩ := hW
  rw [hvars] at hV
  obtain ⟨rfl, rfl⟩ := trodVars_none hV
  obtain ⟨us, h1, h2, h3, h4⟩ := args_v hflat hA fun j t v ht hv => hval j t v (by simpa using ht) (by simpa using hv)
  have hcall := hC us h1 (by simpa using h3) (inCx W) args.toList rfl ⟨fun i j b h => by obtain ⟨c, hc⟩ := h; simp at hc, fun i h => by obtain ⟨c, hc⟩ := h; simp at hc, fun i b h => by obtain ⟨c, hc⟩ := h; simp at hc, Nat.le_refl _⟩
    (fun i b hb => by cases hb) h2
  rw [Array.toArray_toList] at hcall
  refine hcall.mono fun e W' ⟨c, K', he, hw, _, _, hst, hrep⟩ => ?_
  simp only [Rep] at hrep
  subst hrep
  subst hw
  have hb : Below W.heap.size W K'.w := ⟨hst.os, hst.tape, hst.output, hst.size, fun k hk => hst.frame k hk (by rintro ⟨i, ⟨c, hc⟩, _⟩; simp at hc)⟩
  refine ⟨_, he, ds, _, _, [], p, [], hW', ?_, ?_, ?_, hb.frame _, fun h => by cases h⟩
  · rw [hres, List.append_nil, hsfn ds h4]
    exact trodAll_mk1 (shut_bool htb true)
  · rw [List.append_nil, hsfn ds h4]
    exact below_all hl hb hr hA fun x hx => hlt x (by simp [hx])
  · rw [hvars, List.append_nil, hsfn ds h4]
    rfl
end
end Go.Proofs.YtfpoebmihjbknaaGreat.VA
