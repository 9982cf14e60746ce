/- The soundness of 'VA': regions, code, functions. -/
import Derived.Test.YtlahigboaeadmaaV13
import Derived.Deep.LoopGhost
set_option linter.unusedVariables false
set_option linter.unusedSimpArgs false
namespace Go.Proofs.Ytlahigboaeadmaa.VA
open Go

theorem cOps_at {P : Program} {ops : Array Oper} : ∀ {l : List Oper} {aos : List AOper}, cOps P ops l = some aos → aos.length = l.length ∧
    ∀ (i : Nat) (o : Oper), l[i]? = some o → ∃ ao g, cOp P o.op = some ao ∧ cGuard ops o.guard = some g ∧ aos[i]? = some { dst := o.dst, op := ao, guard := g }
  | [], aos, h => by simp only [cOps] at h; cases h; exact ⟨rfl, fun i o ho => by simp at ho⟩
  | o :: os, aos, h => by
    obtain ⟨ao, g, r, h1, h2, h3, rfl⟩ := cOps_cons h
    have ih := cOps_at h3
    refine ⟨by simp [ih.1], fun i o' ho' => ?_⟩
    cases i with
    | zero => simp at ho'; subst ho'; exact ⟨ao, g, h1, h2, rfl⟩
    | succ i => simpa using ih.2 i o' (by simpa using ho')

theorem reg_of {P : Program} {ops : Array Oper} {l : List Oper} {aos : List AOper} (hl : l = ops.toList) (hc : cOps P ops l = some aos) (hd : drawOK ops l (freePairs l) = true)
    {Ss : Nat → List V} {Hs : Nat → Heap} {vs : Nat → V} {Fs Ws : Nat → List Nat} (hst : ∀ i o, aos[i]? = some o → TStep P Ss Hs vs Fs Ws i o)
    (hk : chk ((List.range l.length).map fun i => (Fs i, Ws i)) (askedPairs l (freePairs l)) = true) : Reg P ops l aos Ss Hs vs Fs Ws := by
  obtain ⟨hlen, hat⟩ := cOps_at hc
  unfold drawOK at hd
  simp only [Bool.and_eq_true] at hd
  have hFW : ∀ i, i < l.length → ((List.range l.length).map fun i => (Fs i, Ws i)).getD i ([], []) = (Fs i, Ws i) := fun i hi => by
    rw [List.getD_eq_getElem?_getD, List.getElem?_map, List.getElem?_range hi]; rfl
  have hdis : ∀ i j, i < j → j < l.length → bef (masks l []) i j = false → (∀ x ∈ Ws i, x ∉ Fs j) ∧ (∀ x ∈ Ws j, x ∉ Fs i) := by
    intro i j hij hj hb
    have hfree := mem_free hij hj hb
    by_cases ha : (i, j) ∈ askedPairs l (freePairs l)
    · unfold chk at hk
      have := List.all_eq_true.1 hk (i, j) ha
      simp only [hFW i (by omega), hFW j hj, Bool.and_eq_true] at this
      exact ⟨disj_spec this.1, disj_spec this.2⟩
    · have hn : ¬ ((mayWrite (opAt l i).op && mayTouch (opAt l j).op) || (mayWrite (opAt l j).op && mayTouch (opAt l i).op)) = true := fun h => ha (by
        unfold askedPairs; rw [List.mem_filter]; exact ⟨hfree, h⟩)
      simp only [Bool.or_eq_true, Bool.and_eq_true, not_or, not_and, Bool.not_eq_true] at hn
      have hnil : ∀ k, k < l.length → (mayWrite (opAt l k).op = false → Ws k = []) ∧ (mayTouch (opAt l k).op = false → Fs k = []) := by
        intro k hk
        have hlk : l[k]? = some l[k] := List.getElem?_eq_getElem hk
        obtain ⟨ao, g, h1, h2, h3⟩ := hat k l[k] hlk
        rw [opAt_of hlk]
        rcases (hst k _ h3).2 with ⟨_, he⟩ | ⟨_, _, _, h4, h5⟩
        · exact ⟨fun h => wrK_nil he (cOp_wrK h1 h), fun h => ftK_nil he (cOp_ftK h1 h)⟩
        · exact ⟨fun _ => h5, fun _ => h4⟩
      constructor
      · by_cases hw : mayWrite (opAt l i).op = true
        · rw [(hnil j hj).2 (hn.1 hw)]
          intro x _ hx; cases hx
        · rw [(hnil i (by omega)).1 (by simpa using hw)]
          intro x hx; cases hx
      · by_cases hw : mayWrite (opAt l j).op = true
        · rw [(hnil i (by omega)).2 (hn.2 hw)]
          intro x _ hx; cases hx
        · rw [(hnil j hj).1 (by simpa using hw)]
          intro x hx; cases hx
  refine ⟨hl, hat, hlen, hst, ?_, ?_, fun i j h1 h2 h3 => (hdis i j h1 h2 h3).1, fun i j h1 h2 h3 => (hdis i j h1 h2 h3).2⟩
  · intro i o ho e he hb
    have hm : (o, i) ∈ l.zipIdx := by
      rw [List.mem_zipIdx_iff_getElem?]
      exact ho
    have := List.all_eq_true.1 hd.1 (o, i) hm
    have := List.all_eq_true.1 this e he
    simpa [hb] using this
  · intro i j hij hj hb
    have := List.all_eq_true.1 hd.2 (i, j) (mem_free hij hj hb)
    simpa using this

theorem sim_drawn {B0 : Cx} {Hb : Heap} {S : List V} {H : Heap} {a : Act} {w : World} (h : Sim B0 Hb S H a w) : Sim B0 Hb S H a { w with drawn := w.drawn + 1 } := by
  obtain ⟨K, rfl, hK, hdom, hst, hlen, hsl, hdf⟩ := h
  have hp : Pres K { K with w := { K.w with drawn := K.w.drawn + 1 } } := ⟨fun _ _ h => h, fun b h _ => ⟨h, rfl⟩, fun b C e fz h => ⟨C, fz, h, rfl⟩⟩
  refine ⟨{ K with w := { K.w with drawn := K.w.drawn + 1 } }, rfl, ⟨hK.inj, fun i hi => ?_, hK.own, hK.low⟩, hdom,
    ⟨hst.B, hst.R, hst.os, hst.tape, hst.output, hst.size, hst.len, hst.ext, hst.new, hst.nn, hst.nk, hst.dd, hst.frame, hst.shape⟩, hlen, fun t => Rep.pres hp _ _ (hsl t), hdf⟩
  obtain ⟨b, cells, hb, hH, hok⟩ := hK.blk i hi
  exact ⟨b, cells, hb, hH, hok.pres hp rfl⟩

section
variable {P : Program} {ops : Array Oper} {l : List Oper} {aos : List AOper} {Ss : Nat → List V} {Hs : Nat → Heap} {vs : Nat → V} {Fs Ws : Nat → List Nat}

theorem Reg.made (R : Reg P ops l aos Ss Hs vs Fs Ws) {id : Nat} (h0 : (Hs 0).length ≤ id) : ∀ {m : Nat}, m ≤ l.length → id < (Hs m).length → ∃ j, j < m ∧ Mk Hs j id
  | 0, _, h => by omega
  | m + 1, hm, h => by
    by_cases hlt : id < (Hs m).length
    · obtain ⟨j, hj, hmk⟩ := Reg.made R h0 (by omega) hlt
      exact ⟨j, by omega, hmk⟩
    · exact ⟨m, by omega, by omega, h⟩

theorem inv_start (R : Reg P ops l aos Ss Hs vs Fs Ws) {B0 : Cx} {Hb : Heap} {a : Act} {w : World} (h : Sim B0 Hb (Ss 0) (Hs 0) a w) {E : Nat → Prop} (hE : ∀ j, ¬ E j) :
    ∃ K, K.w = w ∧ Inv P B0 Hb l Ss Hs Fs Ws E K a := by
  obtain ⟨K, hw, hK, hdom, hst, hlen, hsl, hdf⟩ := h
  have hDE : ∀ id, DE l Hs Ws E id → kap (Hs 0) id ∧ SepH l Hs Ws E id 0 := by
    rintro id ⟨m, hm, hl⟩
    have hlt : id < (Hs 0).length := by
      rcases Nat.lt_or_ge id (Hs 0).length with h | h
      · exact h
      · obtain ⟨j, hj, hmk⟩ := R.made h hm.1 hl.lt
        exact absurd ((hm.2 j (by have := hm.1; omega) (.inr hmk)).2 hj) (hE j)
    exact ⟨R.hlive id (Nat.zero_le _) hm.1 hlt hl, Nat.zero_le _, fun j hj hw => ⟨fun h => absurd h (hE j), fun h => by omega⟩⟩
  refine ⟨K, hw, fun j hj => absurd hj (hE j), fun i j b hi hj => hK.inj i j b (hDE i hi).1 (hDE j hj).1, fun id hid => ?_, fun id b hid hb => hK.own id b (hDE id hid).1 hb, hK.low, fun id b hb => .inl (hdom id b hb),
    fun j hj => absurd hj (hE j), ?_, hlen, fun t => ⟨0, ⟨Nat.zero_le _, fun j hj _ => ⟨fun h => absurd h (hE j), fun h => by omega⟩⟩, hsl t⟩, hdf⟩
  · obtain ⟨b, cells, hb, hH, hok⟩ := hK.blk id (hDE id hid).1
    exact ⟨b, 0, cells, hb, (hDE id hid).2, hH, hok⟩
  · have hle := R.hlen (i := 0) (j := l.length) (by omega) (by omega)
    refine ⟨hst.B, hst.R, hst.os, hst.tape, hst.output, hst.size, Nat.le_trans hst.len hle, hst.ext, fun i b hb => ?_, hst.nn, hst.nk, fun i hi => ?_, hst.frame, hst.shape⟩
    · rcases hst.new i b hb with h1 | ⟨h0, h1, h2, h3⟩
      · exact .inl h1
      · exact .inr ⟨h0, h1, by omega, h3⟩
    · rcases hst.dd i (hDE i hi).1 with h1 | ⟨h0, h1, h2⟩
      · exact .inl h1
      · exact .inr ⟨h0, h1, by omega⟩

theorem inv_end (R : Reg P ops l aos Ss Hs vs Fs Ws) {B0 : Cx} {Hb : Heap} {a : Act} {E : Nat → Prop} {K : Cx} (h : Inv P B0 Hb l Ss Hs Fs Ws E K a) (hE : ∀ j, j < l.length → E j) :
    Sim B0 Hb (Ss l.length) (Hs l.length) a K.w := by
  have hsepn : ∀ id, SepH l Hs Ws E id l.length := fun id => ⟨Nat.le_refl _, fun j hj _ => ⟨fun _ => hj, fun _ => hE j hj⟩⟩
  have hDE : DE l Hs Ws E = kap (Hs l.length) := by
    funext id
    refine propext ⟨?_, fun hl => ⟨l.length, hsepn id, hl⟩⟩
    rintro ⟨m, hm, cells, hc⟩
    have hlt := (List.getElem?_eq_some_iff.1 hc).1
    exact ⟨cells, by rw [← R.sepH_same hm (hsepn id) hlt (Nat.lt_of_lt_of_le hlt (R.hlen hm.1 (Nat.le_refl _)))]; exact hc⟩
  have hstep := h.step
  have hinj := h.inj
  have hown := h.own
  rw [hDE] at hstep
  refine ⟨K, rfl, ⟨fun i j b hi hj => hinj i j b (by rw [hDE]; exact hi) (by rw [hDE]; exact hj), fun id hid => ?_, fun id b hid => hown id b (by rw [hDE]; exact hid), h.low⟩, fun id b hb => ?_, hstep, ?_, fun t => ?_, h.defers⟩
  · obtain ⟨b, m, cells, hb, hm, hH, hok⟩ := h.blk id (by rw [hDE]; exact hid)
    have hlt := (List.getElem?_eq_some_iff.1 hH).1
    exact ⟨b, cells, hb, by rw [← R.sepH_same hm (hsepn id) hlt hid.lt]; exact hH, hok⟩
  · rcases h.dom id b hb with h1 | ⟨j, hj, hm⟩
    · exact Nat.lt_of_lt_of_le h1 (R.hlen (by omega) (by omega))
    · have := (h.down j hj).1
      exact Nat.lt_of_lt_of_le hm.2 (R.hlen (by omega) (by omega))
  · rw [R.slen (Nat.le_refl _)]; exact h.slen
  · obtain ⟨k, hk, hrep⟩ := h.slots t
    rw [← R.sconst t hk.1 (Nat.le_refl _) fun j h1 h2 hd => by have := (hk.2 j h2 hd).1 (hE j h2); omega]
    exact hrep

/-- What remains of a region, in whatever order. -/
theorem any_sound (R : Reg P ops l aos Ss Hs vs Fs Ws) {B0 : Cx} {Hb : Heap} (hdef0 : ∀ i, kap Hb i → ∃ b, B0.β i = some b) (hdom0 : ∀ i b, B0.β i = some b → i < Hb.length) (hH0 : Hb.length ≤ (Hs 0).length) (hl0 : ∀ i, i < Hb.length → LiveId (Hs 0) i → kap Hb i)
    {Q' : Exit → Act → World → Prop} (hQ : ∀ a w, Sim B0 Hb (Ss l.length) (Hs l.length) a w → Q' .normal a w) :
    ∀ (fuel : Nat) (listed : Array Bool) (a : Act) (K : Cx), listed.size = l.length → listed.toList.countP (fun b => !b) = fuel → Inv P B0 Hb l Ss Hs Fs Ws (fun j => listed.getD j false = true) K a →
      wpAny P .any ops Q' fuel listed a K.w := by
  have hops : ∀ i, ops[i]? = l[i]? := fun i => by rw [R.ol]; exact Array.getElem?_toList.symm
  have hosz : ops.size = l.length := by rw [R.ol]; simp
  intro fuel
  induction fuel with
  | zero =>
    intro listed a K hsz hcnt h
    have hall : ∀ j, j < l.length → listed.getD j false = true := by
      intro j hj
      rw [List.countP_eq_zero] at hcnt
      have hjl : j < listed.size := by omega
      have := hcnt listed[j] (by simp)
      rw [Array.getD_eq_getD_getElem?, Array.getElem?_eq_getElem hjl]
      simpa using this
    refine ⟨?_, hQ a K.w (inv_end R h hall)⟩
    apply List.eq_nil_iff_forall_not_mem.2
    intro j hj
    rw [mem_ready] at hj
    obtain ⟨h0, o, ho, _⟩ := hj
    rw [hops] at ho
    have hjl := (List.getElem?_eq_some_iff.1 ho).1
    have := hall j hjl
    rw [Array.getD_eq_getD_getElem?, Array.getElem?_eq_getElem (by omega)] at this h0
    simp at this h0
    rw [this] at h0; cases h0
  | succ fuel ih =>
    intro listed a K hsz hcnt h
    have hE : ∀ j, listed.getD j false = true → Done l (fun j => listed.getD j false = true) j := fun j hj => (h.down j hj).2
    refine ⟨fun hnil => ?_, fun i hi => ?_⟩
    · exfalso
      -- the first that is not done is ready
      have hex : ∃ j, j < l.length ∧ listed.getD j false = false := by
        obtain ⟨b, hb, hbf⟩ := List.countP_pos_iff.1 (show 0 < listed.toList.countP (fun b => !b) by omega)
        obtain ⟨j, hj, rfl⟩ := List.getElem_of_mem hb
        have hjs : j < listed.size := by simpa using hj
        exact ⟨j, by omega, by rw [Array.getD_eq_getD_getElem?, Array.getElem?_eq_getElem hjs]; simpa using hbf⟩
      obtain ⟨j, ⟨hj, hf⟩, hmin⟩ := exists_least hex
      have hlj : l[j]? = some l[j] := List.getElem?_eq_getElem hj
      have hmem : j ∈ Region.ready .any ops listed := by
        rw [mem_ready]
        refine ⟨?_, l[j], by rw [hops]; exact hlj, fun e he hb => ?_⟩
        · rw [Array.getD_eq_getD_getElem?, Array.getElem?_eq_getElem (by omega)] at hf ⊢
          simpa using hf
        · have hlt := R.back j _ hlj e (by simpa using he) hb
          cases hv : listed.getD e.on false with
          | true => rfl
          | false => have := hmin e.on ⟨by omega, hv⟩; omega
      rw [hnil] at hmem; cases hmem
    · rw [mem_ready] at hi
      obtain ⟨h0, o, ho, hall⟩ := hi
      have hlo : l[i]? = some o := by rw [← hops]; exact ho
      have hil := (List.getElem?_eq_some_iff.1 hlo).1
      have hnf : listed.getD i false = false := by
        rw [Array.getD_eq_getD_getElem?, Array.getElem?_eq_getElem (by omega)] at h0 ⊢
        simpa using h0
      have hni : ¬ listed.getD i false = true := by rw [hnf]; simp
      have hdone : Done l (fun j => listed.getD j false = true) i := fun o' ho' e he hb => by
        rw [hlo] at ho'; cases ho'
        exact hall e (by simpa using he) hb
      obtain ⟨ao, g, hc, hg, haos⟩ := R.at_ i o hlo
      have hEnew : (fun j => (listed.setIfInBounds i true).getD j false = true) = fun j => listed.getD j false = true ∨ j = i := by
        funext j
        by_cases hji : j = i
        · subst hji
          simp only [or_true, eq_iff_iff, iff_true]
          rw [Array.getD_eq_getD_getElem?]
          simp [Array.getElem?_setIfInBounds, show j < listed.size by omega]
        · rw [getD_set_ne false (Ne.symm hji)]
          simp [hji]
      have hcnt' : (listed.setIfInBounds i true).toList.countP (fun b => !b) = fuel := by
        have hlt : i < listed.toList.length := by simp; omega
        have hget : listed.toList[i] = false := by
          rw [Array.getD_eq_getD_getElem?, Array.getElem?_eq_getElem (by omega)] at hnf
          simpa using hnf
        rw [Array.toList_setIfInBounds, List.countP_set hlt, hget, hcnt]
        simp
      have hlook : ∀ t, t ∈ looks ops o → Rep K ((Ss i).getD t .dead) (a.tmps.getD t undef) := fun t ht => h.look R hlo hni hdone ht
      have hfin : ∀ c K', Inv P B0 Hb l Ss Hs Fs Ws (fun j => listed.getD j false = true ∨ j = i) K' (a.put o.dst c) → wpAny P .any ops Q' fuel (listed.setIfInBounds i true) (a.put o.dst c) K'.w := fun c K' hinv =>
        ih _ _ _ (by simpa using hsz) hcnt' (by rw [hEnew]; exact hinv)
      have hts := R.step i _ haos
      have hrunc : GuardRun (Ss i) g → EvOp P (Ss i) (Hs i) ao (vs i) (Hs (i + 1)) (Fs i) (Ws i) → o.wp P a K.w (wpAny P .any ops Q' fuel (listed.setIfInBounds i true)) Q' := by
        intro _ he
        have hOd : ∀ x ∈ o.op.operands.toList, OnOd K (Ss i) a x := fun x hx t ht => hlook t (by
          unfold looks
          rw [List.mem_append]
          left
          exact List.mem_filterMap.2 ⟨x, hx, by rw [ht]⟩)
        have hdef : ∀ id ∈ Fs i, ∃ b, K.β id = some b := ev_def hc he hOd fun id hid hd => by
          obtain ⟨b, m, cells, hb, hm, hH, hok⟩ := h.blk id ⟨i, h.sepAt R hil hni hdone hid hd⟩
          obtain ⟨hsep, hlive⟩ := h.sepAt R hil hni hdone hid hd
          exact ⟨b, cells, hb, by rw [R.sepH_same hsep hm hlive.lt (List.getElem?_eq_some_iff.1 hH).1]; exact hH, hok⟩
        refine op_step hc he (h.heap R hil hni hdone hdef) (fun id h1 h2 => ?_) (fun id hid => hid) hOd ?_
        · cases hb : K.β id with
          | none => rfl
          | some b =>
            exfalso
            rcases h.dom id b hb with h3 | ⟨j, hj, hm⟩
            · have := R.hlen (i := 0) (j := i) (by omega) (by omega); omega
            · have := R.mk_one (h.down j hj).1 hil hm ⟨h1, h2⟩
              subst this; exact hni hj
        · intro c K' hK' hst' hrep
          exact hfin c K' (h.next R hdef0 hH0 hl0 hdom0 hlo hni hdone hdef hK' hst' hrep)
      have hskipc : vs i = .sc undef → Hs (i + 1) = Hs i → Fs i = [] → wpAny P .any ops Q' fuel (listed.setIfInBounds i true) (a.put o.dst undef) K.w := by
        intro hv hH hF
        have hD : (Dn (fun id => id ∈ Fs i) (Hs i) (Hs (i + 1))) = fun _ => False := by
          funext id
          refine propext ⟨?_, False.elim⟩
          rintro ⟨h1 | h1, h2⟩
          · rw [hF] at h1; cases h1
          · rw [hH] at h2; have := h2.lt; omega
        have hDF : (fun id => id ∈ Fs i) = fun _ => False := by funext id; rw [hF]; simp
        refine hfin undef K (h.next R hdef0 hH0 hl0 hdom0 hlo hni hdone (fun id hid => by rw [hF] at hid; cases hid) ?_ ?_ (by rw [hv]; simp [Rep]))
        · rw [hD]; exact ⟨fun _ _ _ h => h.elim, fun _ h => h.elim, fun _ _ h => h.elim, h.low⟩
        · rw [hD, hDF, hH]; exact Step.refl _ _ _
      unfold wpOp
      rw [ho]
      simp only []
      rcases cGuard_some hg with ⟨hgn, rfl⟩ | ⟨j, want, d, hgs, hd, rfl⟩
      · have hw : Region.wanted o (yielded ops a.tmps) = true := by unfold Region.wanted; rw [hgn]
        simp only [hw, if_true]
        rcases hts.2 with ⟨h1, h2⟩ | ⟨h1, _⟩
        · exact .inl (hrunc h1 h2)
        · exact h1.elim
      · have hdl : d ∈ looks ops o := by
          unfold looks
          rw [List.mem_append]
          right
          rw [hgs]
          simp [hd]
        have hrepd := hlook d hdl
        have hslot : ∀ x, (Ss i).getD d .dead = .sc x → a.tmps.getD d undef = x := fun x hx => by
          rw [hx] at hrepd
          simpa [Rep] using hrepd
        rcases hts.2 with ⟨h1, h2⟩ | ⟨h1, h2, h3, h4, h5⟩
        · have h1' : (Ss i).getD d .dead = .sc (.bool want) := h1
          have hw : Region.wanted o (yielded ops a.tmps) = true := by
            unfold Region.wanted; rw [hgs]
            simp only [yielded_of hd (hslot _ h1')]
            cases want <;> rfl
          simp only [hw, if_true]
          exact .inl (hrunc h1 h2)
        · have h1' : (Ss i).getD d .dead = .sc (.bool (!want)) ∨ (Ss i).getD d .dead = .sc undef := h1
          have hw : Region.wanted o (yielded ops a.tmps) = false := by
            unfold Region.wanted; rw [hgs]
            rcases h1' with hb | hb
            · simp only [yielded_of hd (hslot _ hb)]
              cases want <;> rfl
            · simp only [yielded_undef hd (hslot _ hb)]
              rfl
          simp only [hw, Bool.false_eq_true, if_false]
          exact hskipc h2 h3 h4

end

end Go.Proofs.Ytlahigboaeadmaa.VA
