/- The soundness of single operations of 'VA': those that make no use of the elements of a slice. -/
import Derived.Test.YtlahigboaeadmaaV4
set_option linter.unusedVariables false
set_option linter.unusedSimpArgs false
namespace Go.Proofs.Ytlahigboaeadmaa.VA
open Go

/-- What the soundness of one operation says. -/
def OpDone (P : Program) (K : Cx) (H : Heap) (D : Nat → Prop) (s : Sem Next) (v : V) (H' : Heap) : Prop :=
  ∃ (n : Next) (c : Value) (K' : Cx), s.run P K.w = .ok n K'.w ∧ (n = .value c ∨ (n = .skip ∧ c = undef)) ∧ HeapOK K' H' (Dn D H H') ∧ Step K H D K' H' (Dn D H H') ∧ Rep K' v c

theorem OpDone.same {P : Program} {K : Cx} {H : Heap} {D : Nat → Prop} {s : Sem Next} {v : V} {c : Value} (hK : HeapOK K H D) (hr : s.run P K.w = .ok (.value c) K.w) (hv : Rep K v c) :
    OpDone P K H D s v H := ⟨_, c, K, hr, .inl rfl, (same_sound hK).1, (same_sound hK).2, hv⟩

/-- The values of an operation's operands. -/
def OnOd (K : Cx) (S : List V) (a : Act) (x : Operand) : Prop := ∀ t, x = .tmp t → Rep K (S.getD t .dead) (a.tmps.getD t undef)

theorem repO_const {K : Cx} : ∀ (cs : List Value), cs.all (·.oneCell') = true → RepO K (cs.map V.sc) cs
  | [], _ => by simp [RepO]
  | c :: cs, h => by
    simp only [List.all_cons, Bool.and_eq_true] at h
    simp only [List.map_cons, RepO, Rep]
    exact ⟨c, cs, rfl, h.1, rfl, repO_const cs h.2⟩

theorem od_rep {K : Cx} {S : List V} {a : Act} {x : Operand} {d : Od} (h : cOd x = some d) (hx : OnOd K S a x) : Rep K (d.ev S) (a.eval x) := by
  cases x with
  | tmp t => simp only [cOd] at h; cases h; exact hx t rfl
  | const v =>
    cases v <;> simp only [cOd] at h <;> try (cases h; simp [Od.ev, constV, Act.eval, Rep]; done)
    · rename_i fn first caps
      cases h
      cases fn <;> simp only [Od.ev, constV, Act.eval] <;> try (simp [Rep]; done)
      split
      · rename_i hc
        simp only [Bool.and_eq_true, Array.isEmpty_iff] at hc
        simp only [Rep]
        exact ⟨[], by rw [hc.1, hc.2], by simp [RepL]⟩
      · simp [Rep]
    · rename_i cs
      split at h
      · rename_i hall
        cases h
        simp only [Od.ev, constV, Act.eval, Rep]
        exact ⟨cs.toList, by simp, repO_const _ hall⟩
      · cases h
    · cases h
  | global g => simp [cOd] at h
  | func f => simp only [cOd] at h; cases h; simp [Od.ev, constV, Act.eval, Rep, RepL]

theorem rep_bool {K : Cx} {b : Bool} {c : Value} (h : Rep K (.sc (.bool b)) c) : c = .bool b := by simpa [Rep] using h
theorem rep_sc {K : Cx} {v c : Value} (h : Rep K (.sc v) c) : c = v := by simpa [Rep] using h

theorem pureV_some {s : Sem Value} {v : Value} (h : pureV s = some v) : s = .pure v := by
  unfold pureV at h
  split at h
  · cases h; rfl
  · cases h

theorem snd_move {P : Program} {K : Cx} {H : Heap} {D : Nat → Prop} {S : List V} {a : Act} {o : Oper} {x : Operand} {d : Od} (ho : o.op = .move x ∨ o.op = .assign x) (hd : cOd x = some d)
    (hK : HeapOK K H D) (hx : OnOd K S a x) : OpDone P K H D (execOp a.eval o) (d.ev S) H := by
  refine OpDone.same (c := a.eval x) hK ?_ (od_rep hd hx)
  unfold execOp
  rcases ho with ho | ho <;> rw [ho] <;> rfl

theorem snd_pick {P : Program} {K : Cx} {H : Heap} {D : Nat → Prop} {S : List V} {a : Act} {o : Oper} {c x y : Operand} {dc dx dy : Od} (ho : o.op = .pick c x y) (hc : cOd c = some dc) (hx : cOd x = some dx) (hy : cOd y = some dy)
    (hK : HeapOK K H D) (hoc : OnOd K S a c) (hox : OnOd K S a x) (hoy : OnOd K S a y) {t : Bool} (ht : dc.ev S = .sc (.bool t)) :
    OpDone P K H D (execOp a.eval o) (if t = true then dx.ev S else dy.ev S) H := by
  have h1 := od_rep hc hoc
  rw [ht] at h1
  have h2 := rep_bool h1
  refine OpDone.same (c := if t = true then a.eval x else a.eval y) hK ?_ ?_
  · unfold execOp; rw [ho]
    simp [h2, asBool]
  · cases t
    · simpa using od_rep hy hoy
    · simpa using od_rep hx hox

theorem snd_load {P : Program} {K : Cx} {H : Heap} {D : Nat → Prop} {S : List V} {a : Act} {o : Oper} {t : TypeId} {x : Operand} {d : Od} {k : Option Nat} (ho : o.op = .load t x) (hd : cOd x = some d) (hk : kindOf P t = some k)
    (hK : HeapOK K H D) (hx : OnOd K S a x) (hfoot : ∀ i ∈ footOp S (.load k d), D i) {v : V} {H' : Heap} (he : evOp S H (.load k d) = some (v, H')) : OpDone P K H D (execOp a.eval o) v H' := by
  have hrep := od_rep hd hx
  simp only [evOp] at he
  simp only [footOp] at hfoot
  cases hv : d.ev S with
  | ref id off =>
    rw [hv] at he hrep hfoot
    simp only [Rep] at hrep
    obtain ⟨b, hb, hc⟩ := hrep
    cases hblk : blkAt H id with
    | none => simp [hblk] at he
    | some cells =>
      simp only [hblk, Option.map_eq_some_iff] at he
      obtain ⟨u, hu, he⟩ := he
      cases he
      obtain ⟨b', cells', hb', hH, hok⟩ := hK.blk id (hfoot id (by simp [idV]))
      rw [hb] at hb'; cases hb'
      rw [blkAt_iff, hH] at hblk; cases hblk
      obtain ⟨c, hrun, hr⟩ := rd_sound hk hu (RepC.of_blk hok)
      have hadd : (⟨b, 0, none⟩ : Addr).add off = ⟨b, off, none⟩ := by unfold Addr.add; split <;> simp_all
      rw [hadd] at hrun
      refine OpDone.same (c := c) hK ?_ hr
      unfold execOp; rw [ho]
      simp [hc, Instr.loadAt, Instr.sureAddr, hrun]
  | box cs =>
    rw [hv] at he hrep
    simp only [Rep] at hrep
    obtain ⟨ad, hc, _, hcs⟩ := hrep
    simp only [Option.map_eq_some_iff] at he
    obtain ⟨u, hu, he⟩ := he
    cases he
    obtain ⟨c, hrun, hr⟩ := rd_sound hk hu hcs
    refine OpDone.same (c := c) hK ?_ hr
    have hadd : ad.add 0 = ad := by simp [Addr.add]
    rw [hadd] at hrun
    unfold execOp; rw [ho]
    simp [hc, Instr.loadAt, Instr.sureAddr, hrun]
  | _ => rw [hv] at he; simp at he

theorem snd_store {P : Program} {K : Cx} {H : Heap} {D : Nat → Prop} {S : List V} {a : Act} {o : Oper} {t : TypeId} {x y : Operand} {dx dy : Od} {n : Nat} (ho : o.op = .store t x y) (hdx : cOd x = some dx) (hdy : cOd y = some dy) (hk : sizeC P t = some n)
    (hK : HeapOK K H D) (hx : OnOd K S a x) (hy : OnOd K S a y) (hfoot : ∀ i ∈ footOp S (.store n dx dy), D i) {v : V} {H' : Heap} (he : evOp S H (.store n dx dy) = some (v, H')) : OpDone P K H D (execOp a.eval o) v H' := by
  have hrx := od_rep hdx hx
  have hry := od_rep hdy hy
  simp only [evOp] at he
  simp only [footOp] at hfoot
  cases hv : dx.ev S with
  | ref id off =>
    rw [hv] at he hrx hfoot
    cases hl : cellsV (dy.ev S) with
    | none => simp [hl] at he
    | some l =>
      simp only [hl] at he
      cases hblk : blkAt H id with
      | none => simp [hblk] at he
      | some cells =>
        simp only [hblk] at he
        split at he
        · rename_i hcond
          obtain ⟨hln, hoff⟩ := hcond
          cases he
          simp only [Rep] at hrx
          obtain ⟨b, hb, hc⟩ := hrx
          have hD := hfoot id (by simp [idV])
          obtain ⟨b', cells', hb', hH, hok⟩ := hK.blk id hD
          rw [hb] at hb'; cases hb'
          rw [blkAt_iff, hH] at hblk; cases hblk
          have hcl := cellsV_rep hl hry
          have hcl' := RepO.iff.1 hcl
          have hlen := RepL.length hcl'.1
          obtain ⟨C, e, lo, up, hC, hcs, hfz, h1, hcc⟩ := hok
          obtain ⟨w', C', hrun, hwr, hsz, hout, hin⟩ := run_storeCells_va P b off e lo up (a.eval y).cells.toList 0 C K.w hC hfz (by omega) hcl'.2
          have hspl : ∀ (i : Nat) (u : V), (splice cells off l)[i]? = some u → ∃ c : Value, C'[i]? = some c ∧ Rep K u c := by
            intro i u hu
            unfold splice at hu
            by_cases h1 : i < off
            · rw [List.getElem?_append_left (by simp; omega), List.getElem?_take_of_lt h1] at hu
              obtain ⟨c, hc1, hc2⟩ := hcc i u hu
              exact ⟨c, by rw [hout i (.inl (by omega))]; exact hc1, hc2⟩
            · rw [List.getElem?_append_right (by simp; omega)] at hu
              have hmin : min off cells.length = off := by omega
              simp only [List.length_take, hmin] at hu
              by_cases h2 : i - off < l.length
              · rw [List.getElem?_append_left h2] at hu
                obtain ⟨c, hc1, hc2⟩ := hcl'.1.get (i - off) u hu
                have := hin (i - off) c hc1
                rw [show off + 0 + (i - off) = i by omega] at this
                exact ⟨c, this, hc2⟩
              · rw [List.getElem?_append_right (by omega), List.getElem?_drop] at hu
                rw [show off + l.length + (i - off - l.length) = i by omega] at hu
                obtain ⟨c, hc1, hc2⟩ := hcc i u hu
                exact ⟨c, by rw [hout i (.inr (by omega))]; exact hc1, hc2⟩
          have h1' : ∀ (i : Nat) (c : Value), C'[i]? = some c → c.oneCell' = true := by
            intro i c hci
            by_cases hi : i < off + 0 ∨ off + 0 + (a.eval y).cells.toList.length ≤ i
            · rw [hout i hi] at hci; exact h1 i c hci
            · have hj : i - off < (a.eval y).cells.toList.length := by omega
              have := hin (i - off) _ (List.getElem?_eq_getElem hj)
              rw [show off + 0 + (i - off) = i by omega, hci] at this
              cases this
              exact hcl'.2 _ (List.getElem_mem hj)
          have hsplen : (splice cells off l).length ≤ C'.size := by
            unfold splice; simp; omega
          obtain ⟨hK', hst⟩ := wrote_sound hK hD hb hC hwr hsz hsplen (by rw [hsz]; exact hfz) h1' hspl
          refine ⟨.skip, undef, _, ?_, .inr ⟨rfl, rfl⟩, hK', hst, by simp [Rep]⟩
          have hszc : (a.eval y).cells.size = n := by rw [← Array.length_toList, hlen, hln]
          unfold execOp; rw [ho]
          simp only [Instr.storeAt, Instr.sureAddr, hc, storeVar, Sem.run_bind, info_size hk, Result.andThen_ok, hszc, ne_eq, not_true, if_false, pure_bind, ite_false]
          simp [hrun]
        · cases he
  | _ => rw [hv] at he; simp at he

theorem snd_nilChk {P : Program} {K : Cx} {H : Heap} {D : Nat → Prop} {S : List V} {a : Act} {o : Oper} {x : Operand} {d : Od} (ho : o.op = .nilCheck x) (hd : cOd x = some d)
    (hK : HeapOK K H D) (hx : OnOd K S a x) {v : V} {H' : Heap} (he : evOp S H (.nilChk d) = some (v, H')) : OpDone P K H D (execOp a.eval o) v H' := by
  have hrep := od_rep hd hx
  simp only [evOp] at he
  cases hv : d.ev S with
  | ref id off =>
    rw [hv] at he hrep
    simp at he; obtain ⟨rfl, rfl⟩ := he
    refine OpDone.same hK ?_ hrep
    simp only [Rep] at hrep; obtain ⟨b, _, hc⟩ := hrep
    unfold execOp; rw [ho]; simp only [hc]; rfl
  | box cs =>
    rw [hv] at he hrep
    simp at he; obtain ⟨rfl, rfl⟩ := he
    refine OpDone.same hK ?_ hrep
    simp only [Rep] at hrep; obtain ⟨b, hc, _⟩ := hrep
    unfold execOp; rw [ho]; simp only [hc]; rfl
  | fn f caps =>
    rw [hv] at he hrep
    simp at he; obtain ⟨rfl, rfl⟩ := he
    refine OpDone.same hK ?_ hrep
    simp only [Rep] at hrep; obtain ⟨b, hc, _⟩ := hrep
    unfold execOp; rw [ho]; simp only [hc]; rfl
  | _ => rw [hv] at he; simp at he

theorem binOp_int {op : BinOp} {k k' : IntKind} {x y : Int} {v : Value} (t : TypeId) (h : pureV (binOp op 0 (.int k x) (.int k' y)) = some v) : binOp op t (.int k x) (.int k' y) = .pure v := by
  rw [← pureV_some h]
  cases op <;> rfl

theorem binOp_str {op : BinOp} {x y : ByteArray} {v : Value} (t : TypeId) (h : pureV (binOp op 0 (.string x) (.string y)) = some v) : binOp op t (.string x) (.string y) = .pure v := by
  rw [← pureV_some h]
  cases op <;> rfl

theorem eqGuard_int {op : BinOp} {t : TypeId} {x y : Operand} {k k' : IntKind} {m n : Int} (P : Program) (w : World) : (eqGuard op t x y (.int k m) (.int k' n)).run P w = .ok () w := by
  cases op <;> rfl
theorem eqGuard_str {op : BinOp} {t : TypeId} {x y : Operand} {m n : ByteArray} (P : Program) (w : World) : (eqGuard op t x y (.string m) (.string n)).run P w = .ok () w := by
  cases op <;> rfl

theorem snd_bin {P : Program} {K : Cx} {H : Heap} {D : Nat → Prop} {S : List V} {a : Act} {o : Oper} {op : BinOp} {t ty : TypeId} {x y : Operand} {dx dy : Od} (ho : o.op = .binOp op t x y ty) (hdx : cOd x = some dx) (hdy : cOd y = some dy)
    (hK : HeapOK K H D) (hx : OnOd K S a x) (hy : OnOd K S a y) {v : V} {H' : Heap} (he : evOp S H (.bin op dx dy) = some (v, H')) : OpDone P K H D (execOp a.eval o) v H' := by
  have hrx := od_rep hdx hx
  have hry := od_rep hdy hy
  simp only [evOp, Option.map_eq_some_iff] at he
  obtain ⟨u, hu, he⟩ := he
  cases he
  unfold evBin at hu
  split at hu
  · rename_i k m k' n h1 h2
    rw [h1] at hrx; rw [h2] at hry
    simp only [Option.map_eq_some_iff] at hu
    obtain ⟨z, hz, rfl⟩ := hu
    refine OpDone.same (c := z) hK ?_ (by simp [Rep])
    unfold execOp; rw [ho]
    simp only [rep_sc hrx, rep_sc hry, Sem.run_bind, eqGuard_int, Result.andThen_ok, binOp_int t hz]
    rfl
  · rename_i m n h1 h2
    rw [h1] at hrx; rw [h2] at hry
    simp only [Option.map_eq_some_iff] at hu
    obtain ⟨z, hz, rfl⟩ := hu
    refine OpDone.same (c := z) hK ?_ (by simp [Rep])
    unfold execOp; rw [ho]
    simp only [rep_sc hrx, rep_sc hry, Sem.run_bind, eqGuard_str, Result.andThen_ok, binOp_str t hz]
    rfl
  · cases hu

theorem snd_un {P : Program} {K : Cx} {H : Heap} {D : Nat → Prop} {S : List V} {a : Act} {o : Oper} {op : UnOp} {t : TypeId} {x : Operand} {d : Od} (ho : o.op = .unOp op t x) (hd : cOd x = some d)
    (hK : HeapOK K H D) (hx : OnOd K S a x) {v : V} {H' : Heap} (he : evOp S H (.un op d) = some (v, H')) : OpDone P K H D (execOp a.eval o) v H' := by
  have hrep := od_rep hd hx
  simp only [evOp] at he
  split at he
  · rename_i k n h1
    rw [h1] at hrep
    simp only [Option.map_eq_some_iff] at he
    obtain ⟨z, hz, he⟩ := he
    cases he
    refine OpDone.same (c := z) hK ?_ (by simp [Rep])
    unfold execOp; rw [ho]
    simp only [rep_sc hrep, pureV_some hz]
    rfl
  · rename_i n h1
    rw [h1] at hrep
    simp only [Option.map_eq_some_iff] at he
    obtain ⟨z, hz, he⟩ := he
    cases he
    refine OpDone.same (c := z) hK ?_ (by simp [Rep])
    unfold execOp; rw [ho]
    simp only [rep_sc hrep, pureV_some hz]
    rfl
  · cases he

theorem snd_conv {P : Program} {K : Cx} {H : Heap} {D : Nat → Prop} {S : List V} {a : Act} {o : Oper} {src dst : TypeId} {x : Operand} {d : Od} {k k0 : IntKind} (ho : o.op = .convert src dst x) (hd : cOd x = some d)
    (h1 : P.underlying src = some (.int k0)) (h2 : P.underlying dst = some (.int k))
    (hK : HeapOK K H D) (hx : OnOd K S a x) {v : V} {H' : Heap} (he : evOp S H (.conv k d) = some (v, H')) : OpDone P K H D (execOp a.eval o) v H' := by
  have hrep := od_rep hd hx
  simp only [evOp] at he
  split at he
  · rename_i k' n h3
    rw [h3] at hrep
    cases he
    refine OpDone.same (c := .int k (k.wrap n)) hK ?_ (by simp [Rep])
    unfold execOp; rw [ho]
    simp [rep_sc hrep, convert, run_underlying h1, run_underlying h2, Conv.intToInt]
  · cases he

theorem snd_same {P : Program} {K : Cx} {H : Heap} {D : Nat → Prop} {S : List V} {a : Act} {o : Oper} {src dst : TypeId} {x : Operand} {d : Od} (ho : o.op = .convert src dst x) (hd : cOd x = some d)
    (h1 : P.underlying src = some .string) (h2 : P.underlying dst = some .string)
    (hK : HeapOK K H D) (hx : OnOd K S a x) {v : V} {H' : Heap} (he : evOp S H (.same d) = some (v, H')) : OpDone P K H D (execOp a.eval o) v H' := by
  have hrep := od_rep hd hx
  simp only [evOp] at he
  split at he
  · rename_i n h3
    rw [h3] at hrep
    cases he
    refine OpDone.same (c := .string n) hK ?_ (by simp [Rep])
    unfold execOp; rw [ho]
    simp [rep_sc hrep, convert, run_underlying h1, run_underlying h2]
  · cases he

theorem fieldPlace_run {P : Program} {f : Field} {n : Nat} (h : sizeC P f.type = some n) (hn : n ≠ 0) (a : Addr) (w : World) : (fieldPlace a f).run P w = .ok (a.add f.offset) w := by
  simp [fieldPlace, info_size h, hn]

theorem snd_fieldAddr {P : Program} {K : Cx} {H : Heap} {D : Nat → Prop} {S : List V} {a : Act} {o : Oper} {t : TypeId} {x : Operand} {i : Nat} {d : Od} {fs : Array Field} {f : Field} {n : Nat} (ho : o.op = .fieldAddr t x i) (hd : cOd x = some d)
    (h1 : P.underlying t = some (.struct fs)) (hf : fs[i]? = some f) (h2 : sizeC P f.type = some n) (hn : n ≠ 0)
    (hK : HeapOK K H D) (hx : OnOd K S a x) {v : V} {H' : Heap} (he : evOp S H (.fieldAddr f.offset d) = some (v, H')) : OpDone P K H D (execOp a.eval o) v H' := by
  have hrep := od_rep hd hx
  simp only [evOp] at he
  cases hv : d.ev S with
  | ref id off =>
    rw [hv] at he hrep
    simp at he; obtain ⟨rfl, rfl⟩ := he
    simp only [Rep] at hrep; obtain ⟨b, hb, hc⟩ := hrep
    refine OpDone.same (c := .pointer (some ⟨b, off + f.offset, none⟩)) hK ?_ (by simp only [Rep]; exact ⟨b, hb, rfl⟩)
    have hadd : (⟨b, off, none⟩ : Addr).add f.offset = ⟨b, off + f.offset, none⟩ := by unfold Addr.add; split <;> simp_all
    unfold execOp; rw [ho]
    simp [hc, Instr.fieldAt, Instr.sureAddr, run_underlying h1, hf, fieldPlace_run h2 hn, hadd]
  | box cs =>
    rw [hv] at he hrep
    simp at he; obtain ⟨rfl, rfl⟩ := he
    simp only [Rep] at hrep; obtain ⟨ad, hc, hro, hcs⟩ := hrep
    refine OpDone.same (c := .pointer (some (ad.add f.offset))) hK ?_ ?_
    · unfold execOp; rw [ho]
      simp [hc, Instr.fieldAt, Instr.sureAddr, run_underlying h1, hf, fieldPlace_run h2 hn]
    · simp only [Rep]
      exact ⟨_, rfl, hro.imp (by rintro rfl; simp) (by rw [add_block]; exact id), hcs.drop f.offset⟩
  | _ => rw [hv] at he; simp at he

theorem rd_part {P : Program} {K : Cx} {t : TypeId} {k : Option Nat} (hk : kindOf P t = some k) {cells : List V} {off : Nat} {v : V} (hr : rd k cells off = some v) {l : List Value} (hl : RepO K cells l) :
    ∃ c, (part t l.toArray off).run P K.w = .ok c K.w ∧ Rep K v c := by
  have hl' := RepO.iff.1 hl
  have hlen := RepL.length hl'.1
  cases k with
  | none =>
    obtain ⟨c, hc, hrep⟩ := hl'.1.get off v hr
    exact ⟨c, by simp [part, (kind_scalar hk K.w).1, hc], hrep⟩
  | some n =>
    simp only [rd] at hr
    split at hr
    · rename_i hle
      cases hr
      refine ⟨.agg ((l.drop off).take n).toArray, by simp [part, (kind_agg hk K.w).1, info_size (kind_agg hk K.w).2], ?_⟩
      simp only [Rep]
      refine ⟨_, rfl, RepO.iff.2 ⟨RepL.mk (by simp; omega) fun i u c hu hc => ?_, fun c hc => hl'.2 c (List.mem_of_mem_drop (List.mem_of_mem_take hc))⟩⟩
      rw [List.getElem?_take] at hu hc
      split at hu
      · rename_i hi
        rw [if_pos hi] at hc
        rw [List.getElem?_drop] at hu hc
        obtain ⟨c', hc', hrep⟩ := hl'.1.get _ _ hu
        rw [hc] at hc'; cases hc'; exact hrep
      · cases hu
    · cases hr

theorem snd_field {P : Program} {K : Cx} {H : Heap} {D : Nat → Prop} {S : List V} {a : Act} {o : Oper} {t : TypeId} {x : Operand} {i : Nat} {d : Od} {fs : Array Field} {f : Field} {k : Option Nat} (ho : o.op = .field t x i) (hd : cOd x = some d)
    (h1 : P.underlying t = some (.struct fs)) (hf : fs[i]? = some f) (h2 : kindOf P f.type = some k)
    (hK : HeapOK K H D) (hx : OnOd K S a x) {v : V} {H' : Heap} (he : evOp S H (.field f.offset k d) = some (v, H')) : OpDone P K H D (execOp a.eval o) v H' := by
  have hrep := od_rep hd hx
  simp only [evOp] at he
  split at he
  · rename_i cs hv
    rw [hv] at hrep
    simp only [Option.map_eq_some_iff] at he
    obtain ⟨u, hu, he⟩ := he
    cases he
    simp only [Rep] at hrep; obtain ⟨l, hc, hl⟩ := hrep
    obtain ⟨c, hrun, hr⟩ := rd_part (P := P) h2 hu hl
    refine OpDone.same (c := c) hK ?_ hr
    unfold execOp; rw [ho]
    simp [hc, Instr.field, run_underlying h1, hf, asAgg, hrun]
  · cases he

theorem int_rep {K : Cx} {S : List V} {d : Od} {i : Int} {c : Value} (h : intOf? (d.ev S) = some i) (hr : Rep K (d.ev S) c) : ∃ k, c = .int k i := by
  unfold intOf? at h
  split at h
  · rename_i k n hv
    cases h
    rw [hv] at hr
    exact ⟨k, rep_sc hr⟩
  · cases h

theorem snd_idxArr {P : Program} {K : Cx} {H : Heap} {D : Nat → Prop} {S : List V} {a : Act} {o : Oper} {t e : TypeId} {x y : Operand} {n sz : Nat} {dx dy : Od} (ho : o.op = .indexAddr t x y) (hdx : cOd x = some dx) (hdy : cOd y = some dy)
    (h1 : P.underlying t = some (.array n e)) (h2 : sizeC P e = some sz)
    (hK : HeapOK K H D) (hx : OnOd K S a x) (hy : OnOd K S a y) {v : V} {H' : Heap} (he : evOp S H (.idxArr n sz dx dy) = some (v, H')) : OpDone P K H D (execOp a.eval o) v H' := by
  have hrx := od_rep hdx hx
  have hry := od_rep hdy hy
  simp only [evOp] at he
  cases hi : intOf? (dy.ev S) with
  | none => simp [hi] at he
  | some i =>
    simp only [hi] at he
    split at he
    · rename_i hb
      obtain ⟨k, hk⟩ := int_rep hi hry
      cases hv : dx.ev S with
      | ref id off =>
        rw [hv] at he hrx
        simp at he; obtain ⟨rfl, rfl⟩ := he
        simp only [Rep] at hrx; obtain ⟨b, hb', hc⟩ := hrx
        refine OpDone.same (c := .pointer (some ⟨b, off + i.toNat * sz, none⟩)) hK ?_ (by simp only [Rep]; exact ⟨b, hb', rfl⟩)
        have hadd : (⟨b, off, none⟩ : Addr).add (i.toNat * sz) = ⟨b, off + i.toNat * sz, none⟩ := by unfold Addr.add; split <;> simp_all
        unfold execOp; rw [ho]
        simp [hc, hk, Instr.indexAt, Instr.sureAddr, asIntOf, run_underlying h1, hb, info_size h2, hadd]
      | box cs =>
        rw [hv] at he hrx
        simp at he; obtain ⟨rfl, rfl⟩ := he
        simp only [Rep] at hrx; obtain ⟨ad, hc, hro, hcs⟩ := hrx
        refine OpDone.same (c := .pointer (some (ad.add (i.toNat * sz)))) hK ?_ ?_
        · unfold execOp; rw [ho]
          simp [hc, hk, Instr.indexAt, Instr.sureAddr, asIntOf, run_underlying h1, hb, info_size h2]
        · simp only [Rep]
          exact ⟨_, rfl, hro.imp (by rintro rfl; simp) (by rw [add_block]; exact id), hcs.drop _⟩
      | _ => rw [hv] at he; simp at he
    · cases he

theorem snd_idxSl {P : Program} {K : Cx} {H : Heap} {D : Nat → Prop} {S : List V} {a : Act} {o : Oper} {t e : TypeId} {x y : Operand} {sz : Nat} {dx dy : Od} (ho : o.op = .indexAddr t x y) (hdx : cOd x = some dx) (hdy : cOd y = some dy)
    (h1 : P.underlying t = some (.slice e)) (h2 : sizeC P e = some sz)
    (hK : HeapOK K H D) (hx : OnOd K S a x) (hy : OnOd K S a y) {v : V} {H' : Heap} (he : evOp S H (.idxSl sz dx dy) = some (v, H')) : OpDone P K H D (execOp a.eval o) v H' := by
  have hrx := od_rep hdx hx
  have hry := od_rep hdy hy
  simp only [evOp] at he
  cases hi : intOf? (dy.ev S) with
  | none => simp [hi] at he
  | some i =>
    obtain ⟨k, hk⟩ := int_rep hi hry
    cases hv : dx.ev S with
    | sref id off n sz' =>
      rw [hv] at he hrx
      simp only [hi] at he
      split at he
      · rename_i hb
        simp at he; obtain ⟨rfl, rfl⟩ := he
        simp only [Rep] at hrx; obtain ⟨b, oo, cap, hb', hc, hcap, hoo, _⟩ := hrx
        obtain ⟨hb0, hb1, rfl⟩ := hb
        have : oo = off := by rcases hoo with hoo | hoo; · omega
                              · exact hoo
        subst this
        refine OpDone.same (c := .pointer (some ⟨b, oo + i.toNat * sz', none⟩)) hK ?_ (by simp only [Rep]; exact ⟨b, hb', rfl⟩)
        have hadd : (⟨b, oo, none⟩ : Addr).add (i.toNat * sz') = ⟨b, oo + i.toNat * sz', none⟩ := by unfold Addr.add; split <;> simp_all
        unfold execOp; rw [ho]
        simp [hc, hk, Instr.indexAt, asIntOf, run_underlying h1, hb0, hb1, info_size h2, hadd]
      · cases he
    | sl n cs =>
      rw [hv] at he hrx
      simp only [hi] at he
      split at he
      · rename_i hb
        simp at he; obtain ⟨rfl, rfl⟩ := he
        simp only [Rep] at hrx; obtain ⟨ad, cap, hc, hcap, hro, hcs⟩ := hrx
        refine OpDone.same (c := .pointer (some (ad.add (i.toNat * sz)))) hK ?_ ?_
        · unfold execOp; rw [ho]
          simp [hc, hk, Instr.indexAt, asIntOf, run_underlying h1, hb, info_size h2]
        · simp only [Rep]
          exact ⟨_, rfl, hro.imp (by rintro rfl; simp) (by rw [add_block]; exact id), hcs.drop _⟩
      · cases he
    | _ => rw [hv] at he; simp [hi] at he

theorem snd_indexArr {P : Program} {K : Cx} {H : Heap} {D : Nat → Prop} {S : List V} {a : Act} {o : Oper} {t e : TypeId} {x y : Operand} {n sz : Nat} {k : Option Nat} {dx dy : Od} (ho : o.op = .index t x y) (hdx : cOd x = some dx) (hdy : cOd y = some dy)
    (h1 : P.underlying t = some (.array n e)) (h2 : sizeC P e = some sz) (h3 : kindOf P e = some k)
    (hK : HeapOK K H D) (hx : OnOd K S a x) (hy : OnOd K S a y) {v : V} {H' : Heap} (he : evOp S H (.indexArr n sz k dx dy) = some (v, H')) : OpDone P K H D (execOp a.eval o) v H' := by
  have hrx := od_rep hdx hx
  have hry := od_rep hdy hy
  simp only [evOp] at he
  split at he
  · rename_i i cs hi hv
    split at he
    · rename_i hb
      simp only [Option.map_eq_some_iff] at he
      obtain ⟨u, hu, he⟩ := he
      cases he
      rw [hv] at hrx
      obtain ⟨kk, hkk⟩ := int_rep hi hry
      simp only [Rep] at hrx; obtain ⟨l, hc, hl⟩ := hrx
      obtain ⟨c, hrun, hr⟩ := rd_part (P := P) h3 hu hl
      refine OpDone.same (c := c) hK ?_ hr
      unfold execOp; rw [ho]
      simp [hc, hkk, Instr.index, asIntOf, run_underlying h1, hb, info_size h2, hrun]
    · cases he
  · cases he

theorem snd_indexStr {P : Program} {K : Cx} {H : Heap} {D : Nat → Prop} {S : List V} {a : Act} {o : Oper} {t : TypeId} {x y : Operand} {dx dy : Od} (ho : o.op = .index t x y) (hdx : cOd x = some dx) (hdy : cOd y = some dy)
    (h1 : P.underlying t = some .string)
    (hK : HeapOK K H D) (hx : OnOd K S a x) (hy : OnOd K S a y) {v : V} {H' : Heap} (he : evOp S H (.indexStr dx dy) = some (v, H')) : OpDone P K H D (execOp a.eval o) v H' := by
  have hrx := od_rep hdx hx
  have hry := od_rep hdy hy
  simp only [evOp] at he
  split at he
  · rename_i i s hi hv
    split at he
    · rename_i hb
      simp only [Option.map_eq_some_iff] at he
      obtain ⟨ub, hu, he⟩ := he
      cases he
      rw [hv] at hrx
      obtain ⟨kk, hkk⟩ := int_rep hi hry
      refine OpDone.same (c := .int .u8 ub.toNat) hK ?_ (by simp [u8V, Rep])
      have hs : s[i.toNat]? = some ub := by
        rw [Array.getElem?_toList] at hu
        obtain ⟨hlt, hu⟩ := Array.getElem?_eq_some_iff.1 hu
        rw [getElem?_pos s i.toNat hlt]
        exact congrArg some hu
      unfold execOp; rw [ho]
      simp only [rep_sc hrx, hkk, Instr.index, asIntOf, Sem.run_bind, Sem.run_pure, Result.andThen_ok, run_underlying h1, if_pos hb, hs]
    · cases he
  · cases he

theorem snd_extract {P : Program} {K : Cx} {H : Heap} {D : Nat → Prop} {S : List V} {a : Act} {o : Oper} {x : Operand} {i : Nat} {d : Od} (ho : o.op = .extract x i) (hd : cOd x = some d)
    (hK : HeapOK K H D) (hx : OnOd K S a x) {v : V} {H' : Heap} (he : evOp S H (.extract d i) = some (v, H')) : OpDone P K H D (execOp a.eval o) v H' := by
  have hrep := od_rep hd hx
  simp only [evOp] at he
  split at he
  · rename_i vs hv
    rw [hv] at hrep
    simp only [Option.map_eq_some_iff] at he
    obtain ⟨u, hu, he⟩ := he
    cases he
    simp only [Rep] at hrep; obtain ⟨l, hc, hl⟩ := hrep
    obtain ⟨c, hc', hr⟩ := hl.get i _ hu
    refine OpDone.same (c := c) hK ?_ hr
    unfold execOp; rw [ho]
    simp [hc, Instr.extract, hc']
  · cases he

theorem resolve_builtin {ρ : Operand → Value} {b : Builtin} {args : Array Operand} {tys : Array TypeId} {ty : TypeId} :
    resolve ρ { callee := .builtin b, args, argTypes := tys } ty = pure { target := .builtin b tys ty (args.map fun | .const _ => true | _ => false), args := args.map ρ } := rfl

theorem snd_lenC {P : Program} {K : Cx} {H : Heap} {D : Nat → Prop} {S : List V} {a : Act} {o : Oper} {args : Array Operand} {tys : Array TypeId} {t e : TypeId} {x : Operand} {n : Nat} (ho : o.op = .call { callee := .builtin .len, args, argTypes := tys })
    (hx0 : args[0]? = some x) (ht0 : tys[0]? = some t) (h1 : P.underlying t = some (.array n e)) (hK : HeapOK K H D) : OpDone P K H D (execOp a.eval o) (.sc (.int .i64 n)) H := by
  refine OpDone.same (c := .int .i64 n) hK ?_ (by simp [Rep])
  unfold execOp; rw [ho]
  have hx1 : (args.map a.eval)[0]? = some (a.eval x) := by simp [hx0]
  simp [resolve_builtin, invoke, builtin, Builtin.len_, ht0, hx1, run_underlying h1, goInt, hx0]

theorem snd_lenStr {P : Program} {K : Cx} {H : Heap} {D : Nat → Prop} {S : List V} {a : Act} {o : Oper} {args : Array Operand} {tys : Array TypeId} {t : TypeId} {x : Operand} {d : Od} (ho : o.op = .call { callee := .builtin .len, args, argTypes := tys })
    (hx0 : args[0]? = some x) (ht0 : tys[0]? = some t) (hd : cOd x = some d) (h1 : P.underlying t = some .string) (hK : HeapOK K H D) (hx : OnOd K S a x)
    {v : V} {H' : Heap} (he : evOp S H (.lenStr d) = some (v, H')) : OpDone P K H D (execOp a.eval o) v H' := by
  have hrep := od_rep hd hx
  simp only [evOp] at he
  split at he
  · rename_i s hv
    rw [hv] at hrep
    cases he
    refine OpDone.same (c := .int .i64 s.size) hK ?_ (by simp [Rep])
    unfold execOp; rw [ho]
    have hx1 : (args.map a.eval)[0]? = some (.string s) := by simp [hx0, rep_sc hrep]
    simp [resolve_builtin, invoke, builtin, Builtin.len_, ht0, hx0, rep_sc hrep, run_underlying h1, goInt]
  · cases he

theorem snd_lenSl {P : Program} {K : Cx} {H : Heap} {D : Nat → Prop} {S : List V} {a : Act} {o : Oper} {args : Array Operand} {tys : Array TypeId} {t e : TypeId} {x : Operand} {d : Od} (ho : o.op = .call { callee := .builtin .len, args, argTypes := tys })
    (hx0 : args[0]? = some x) (ht0 : tys[0]? = some t) (hd : cOd x = some d) (h1 : P.underlying t = some (.slice e)) (hK : HeapOK K H D) (hx : OnOd K S a x)
    {v : V} {H' : Heap} (he : evOp S H (.lenSl d) = some (v, H')) : OpDone P K H D (execOp a.eval o) v H' := by
  have hrep := od_rep hd hx
  simp only [evOp] at he
  have key : ∀ (ad : Option Addr) (n cap : Nat), a.eval x = .slice ad n cap → OpDone P K H D (execOp a.eval o) (.sc (.int .i64 n)) H := by
    intro ad n cap hc
    refine OpDone.same (c := .int .i64 n) hK ?_ (by simp [Rep])
    unfold execOp; rw [ho]
    simp [resolve_builtin, invoke, builtin, Builtin.len_, ht0, hx0, hc, run_underlying h1, goInt]
  split at he
  · rename_i hv
    rw [hv] at hrep
    cases he
    exact key none 0 0 (rep_sc hrep)
  · rename_i n cs hv
    rw [hv] at hrep
    cases he
    simp only [Rep] at hrep; obtain ⟨ad, cap, hc, _⟩ := hrep
    exact key _ _ _ hc
  · rename_i id off n sz hv
    rw [hv] at hrep
    cases he
    simp only [Rep] at hrep; obtain ⟨b, oo, cap, _, hc, _⟩ := hrep
    exact key _ _ _ hc
  · cases he

theorem allInts_rep {K : Cx} : ∀ {vs : List V} {l cl : List Value}, allInts vs = some l → RepL K vs cl → cl = l
  | [], l, cl, h, hr => by simp only [allInts] at h; cases h; simpa [RepL] using hr
  | v :: vs, l, cl, h, hr => by
    simp only [RepL] at hr
    obtain ⟨c, cl', rfl, h1, h2⟩ := hr
    cases v with
    | sc u =>
      cases u with
      | int k n =>
        simp only [allInts, Option.map_eq_some_iff] at h
        obtain ⟨l', hl', rfl⟩ := h
        rw [rep_sc h1, allInts_rep hl' h2]
      | _ => simp [allInts] at h
    | _ => simp [allInts] at h

theorem cOds_rep {K : Cx} {S : List V} {a : Act} : ∀ {xs : List Operand} {ds : List Od}, cOds xs = some ds → (∀ x ∈ xs, OnOd K S a x) → RepL K (ds.map (·.ev S)) (xs.map a.eval)
  | [], ds, h, _ => by simp [cOds] at h; subst h; simp [RepL]
  | x :: xs, ds, h, hx => by
    simp only [cOds, List.mapM_cons, Option.bind_eq_bind, Option.bind_eq_some_iff, Option.pure_def, Option.some.injEq] at h
    obtain ⟨d, hd, ds', hds, rfl⟩ := h
    simp only [List.map_cons, RepL]
    exact ⟨_, _, rfl, od_rep hd (hx x (by simp)), cOds_rep hds fun y hy => hx y (by simp [hy])⟩

theorem snd_minmax {P : Program} {K : Cx} {H : Heap} {D : Nat → Prop} {S : List V} {a : Act} {o : Oper} {args : Array Operand} {tys : Array TypeId} {ds : List Od} {mx : Bool}
    (ho : o.op = .call { callee := .builtin (if mx then .max else .min), args, argTypes := tys })
    (hd : cOds args.toList = some ds) (hK : HeapOK K H D) (hx : ∀ x ∈ args.toList, OnOd K S a x)
    {v : V} {H' : Heap} (he : evOp S H (.minmax mx ds) = some (v, H')) : OpDone P K H D (execOp a.eval o) v H' := by
  have hrep := cOds_rep hd hx
  simp only [evOp] at he
  split at he
  · rename_i l hl
    simp only [Option.map_eq_some_iff] at he
    obtain ⟨z, hz, he⟩ := he
    cases he
    have hargs : args.map a.eval = l.toArray := by
      have := allInts_rep hl hrep
      rw [← this]
      apply Array.ext'
      simp
    refine OpDone.same (c := z) hK ?_ (by simp [Rep])
    have hp := pureV_some hz
    cases mx
    · simp only [Bool.false_eq_true, if_false] at hp ho
      have hp' : ∀ tys ty, Builtin.min_ tys ty l.toArray = .pure z := fun _ _ => hp
      unfold execOp; rw [ho]
      simp [resolve_builtin, invoke, builtin, hargs, hp']
    · simp only [if_true] at hp ho
      have hp' : ∀ tys ty, Builtin.max_ tys ty l.toArray = .pure z := fun _ _ => hp
      unfold execOp; rw [ho]
      simp [resolve_builtin, invoke, builtin, hargs, hp']
  · cases he

theorem snd_mkFunc {P : Program} {K : Cx} {H : Heap} {D : Nat → Prop} {S : List V} {a : Act} {o : Oper} {f : Nat} {caps : Array Operand} {ds : List Od}
    (ho : o.op = .makeFunc (.func f) #[] caps) (hd : cOds caps.toList = some ds) (hK : HeapOK K H D) (hx : ∀ x ∈ caps.toList, OnOd K S a x) :
    OpDone P K H D (execOp a.eval o) (.fn f (ds.map (·.ev S))) H := by
  have hrep := cOds_rep hd hx
  refine OpDone.same (c := .func (.func f) #[] (caps.toList.map a.eval).toArray) hK ?_ ?_
  · unfold execOp; rw [ho]
    simp [Instr.makeFunc]
    apply Array.ext'
    simp
  · simp only [Rep]
    exact ⟨_, rfl, hrep⟩

end Go.Proofs.Ytlahigboaeadmaa.VA
