/- What an operation of 'VA' does to the abstract memory; one step of a walk. -/
import Derived.Test.YtlahigboaeadmaaV10
set_option linter.unusedVariables false
set_option linter.unusedSimpArgs false
namespace Go.Proofs.Ytlahigboaeadmaa.VA
open Go

/-- How an operation leaves the abstract memory. -/
def HeapStep (H H' : Heap) (W : List Nat) : Prop :=
  H' = H ∨ (∃ x, H' = H ++ [x]) ∨ (∃ id x, id ∈ W ∧ LiveId H id ∧ H' = H.set id (some x)) ∨ (∃ id x, id ∈ W ∧ LiveId H id ∧ H' = H.set id none ++ [x])

theorem live_blk {H : Heap} {id : Nat} {cells : List V} (h : blkAt H id = some cells) : LiveId H id := ⟨cells, blkAt_iff.1 h⟩

theorem evOp_heap {S : List V} {H : Heap} {ao : AOp} {v : V} {H' : Heap} (he : evOp S H ao = some (v, H')) : HeapStep H H' (wrOp S ao) := by
  cases ao with
  | alloc zs => simp only [evOp] at he; cases he; exact .inr (.inl ⟨_, rfl⟩)
  | box x => simp only [evOp] at he; split at he <;> cases he; exact .inr (.inl ⟨_, rfl⟩)
  | buildSl sz n zs ps => simp only [evOp] at he; split at he <;> cases he; exact .inr (.inl ⟨_, rfl⟩)
  | toBytes x => simp only [evOp] at he; repeat' (split at he)
                 all_goals (first | (cases he; done) | (cases he; exact .inr (.inl ⟨_, rfl⟩)))
  | mkSl sz b zs l c => simp only [evOp] at he; repeat' (split at he)
                        all_goals (first | (cases he; done) | (cases he; exact .inr (.inl ⟨_, rfl⟩)))
  | store n x y =>
    simp only [evOp] at he
    split at he
    · rename_i id off l hx hy
      split at he
      · rename_i cells hb
        split at he
        · cases he
          exact .inr (.inr (.inl ⟨id, _, by simp [wrOp, hx, idV], live_blk hb, rfl⟩))
        · cases he
      · cases he
    · cases he
  | append sz b x y =>
    simp only [evOp] at he
    split at he
    · split at he
      · repeat' (split at he)
        all_goals (first | (cases he; done) | (cases he; exact .inl rfl) | (cases he; exact .inr (.inl ⟨_, rfl⟩)))
      · rename_i id off n sz' hx
        split at he
        · rename_i cells hb
          split at he
          · cases he
            exact .inr (.inr (.inr ⟨id, _, by simp [wrOp, hx, idV], live_blk hb, rfl⟩))
          · cases he
        · cases he
      · cases he
    · cases he
  | copy sz x y =>
    simp only [evOp] at he
    split at he
    · rename_i m ys id off n sz' hy hx
      split at he
      · rename_i cells hb
        split at he
        · cases he
          exact .inr (.inr (.inl ⟨id, _, by simp [wrOp, hx, idV], live_blk hb, rfl⟩))
        · cases he
      · cases he
    · cases he
  | call f args => simp [evOp] at he
  | callv f args => simp [evOp] at he
  | _ =>
    left
    simp only [evOp] at he
    repeat' (split at he)
    all_goals (first | (cases he; done) | (cases he; rfl) | (simp only [Option.map_eq_some_iff] at he; obtain ⟨_, _, he⟩ := he; cases he; rfl))

theorem HeapStep.len {H H' : Heap} {W : List Nat} (h : HeapStep H H' W) : H.length ≤ H'.length := by
  rcases h with rfl | ⟨x, rfl⟩ | ⟨id, x, _, _, rfl⟩ | ⟨id, x, _, _, rfl⟩ <;> simp

theorem HeapStep.live {H H' : Heap} {W : List Nat} (h : HeapStep H H' W) (i : Nat) (hi : i < H.length) (hl : LiveId H' i) : LiveId H i := by
  rcases h with rfl | ⟨x, rfl⟩ | ⟨id, x, _, hid, rfl⟩ | ⟨id, x, _, hid, rfl⟩
  · exact hl
  · obtain ⟨c, hc⟩ := hl; rw [List.getElem?_append_left hi] at hc; exact ⟨c, hc⟩
  · by_cases he : id = i
    · subst he; exact hid
    · obtain ⟨c, hc⟩ := hl; rw [List.getElem?_set_ne he] at hc; exact ⟨c, hc⟩
  · by_cases he : id = i
    · subst he; exact hid
    · obtain ⟨c, hc⟩ := hl; rw [List.getElem?_append_left (by simpa using hi), List.getElem?_set_ne he] at hc; exact ⟨c, hc⟩

theorem HeapStep.keep {H H' : Heap} {W : List Nat} (h : HeapStep H H' W) (i : Nat) (hi : i < H.length) (hw : i ∉ W) : H'[i]? = H[i]? := by
  rcases h with rfl | ⟨x, rfl⟩ | ⟨id, x, hid, _, rfl⟩ | ⟨id, x, hid, _, rfl⟩
  · rfl
  · rw [List.getElem?_append_left hi]
  · rw [List.getElem?_set_ne (fun he => hw (by rw [← he]; exact hid))]
  · rw [List.getElem?_append_left (by simpa using hi), List.getElem?_set_ne (fun he => hw (by rw [← he]; exact hid))]

theorem slCells_live {H : Heap} {sz : Nat} {v : V} {r : Nat × List V} (h : slCells H sz v = some r) : ∀ i ∈ idV v, LiveId H i := by
  unfold slCells at h
  split at h
  · simp [idV]
  · simp [idV]
  · rename_i id off n sz'
    split at h
    · rename_i cells hb
      intro i hi; simp only [idV, List.mem_singleton] at hi; subst hi; exact live_blk hb
    · cases h
  · cases h

theorem srcCells_live {H : Heap} {sz : Nat} {v : V} {r : Nat × List V} (h : srcCells H sz v = some r) : ∀ i ∈ idV v, LiveId H i := by
  unfold srcCells at h
  split at h
  · simp [idV]
  · exact slCells_live h

theorem evOp_foot {S : List V} {H : Heap} {ao : AOp} {v : V} {H' : Heap} (he : evOp S H ao = some (v, H')) : ∀ i ∈ footOp S ao, LiveId H i := by
  cases ao with
  | load k x =>
    simp only [evOp] at he; simp only [footOp]
    split at he
    · rename_i id off hx
      rw [hx]
      split at he
      · rename_i cells hb
        intro i hi; simp only [idV, List.mem_singleton] at hi; subst hi; exact live_blk hb
      · cases he
    · rename_i cs hx; rw [hx]; simp [idV]
    · cases he
  | store n x y =>
    simp only [evOp] at he; simp only [footOp]
    split at he
    · rename_i id off l hx hy
      rw [hx]
      split at he
      · rename_i cells hb
        intro i hi; simp only [idV, List.mem_singleton] at hi; subst hi; exact live_blk hb
      · cases he
    · cases he
  | mark x =>
    simp only [evOp] at he; simp only [footOp]
    split at he
    · rename_i id off n sz hx
      rw [hx]
      split at he
      · rename_i cells hb
        intro i hi; simp only [idV, List.mem_singleton] at hi; subst hi; exact live_blk hb
      · cases he
    · cases he
  | toStr x =>
    simp only [evOp] at he; simp only [footOp]
    split at he
    · rename_i n cs hx; exact slCells_live hx
    · cases he
  | sliceArr n sz x lo hi =>
    simp only [evOp] at he; simp only [footOp]
    split at he
    · split at he
      · split at he
        · rename_i id off hx
          rw [hx]
          split at he
          · rename_i cells hb
            intro i hi; simp only [idV, List.mem_singleton] at hi; subst hi; exact live_blk hb
          · cases he
        · rename_i cs hx; rw [hx]; simp [idV]
        · cases he
      · cases he
    · cases he
  | append sz b x y =>
    simp only [evOp] at he; simp only [footOp, List.mem_append]
    split at he
    · rename_i m ys hy
      intro i hi
      rcases hi with hi | hi
      · split at he
        · rename_i hx; rw [hx] at hi; simp [idV] at hi
        · rename_i id off n sz' hx
          rw [hx] at hi
          split at he
          · rename_i cells hb
            simp only [idV, List.mem_singleton] at hi; subst hi; exact live_blk hb
          · cases he
        · cases he
      · exact srcCells_live hy i hi
    · cases he
  | copy sz x y =>
    simp only [evOp] at he; simp only [footOp, List.mem_append]
    split at he
    · rename_i m ys id off n sz' hy hx
      intro i hi
      rcases hi with hi | hi
      · rw [hx] at hi
        split at he
        · rename_i cells hb
          simp only [idV, List.mem_singleton] at hi; subst hi; exact live_blk hb
        · cases he
      · exact srcCells_live hy i hi
    · cases he
  | _ => simp [footOp]

theorem wr_foot (S : List V) (ao : AOp) : ∀ i ∈ wrOp S ao, i ∈ footOp S ao := by
  cases ao <;> simp [wrOp, footOp]
  all_goals (intro i hi; exact .inl hi)

/-! ## All operations -/

/-- What is known of an operation, calls too. -/
structure EvFacts (H H' : Heap) (F W : List Nat) : Prop where
  len : H.length ≤ H'.length
  live : ∀ i, i < H.length → LiveId H' i → LiveId H i
  keep : ∀ i, i < H.length → i ∉ W → H'[i]? = H[i]?
  foot : ∀ i ∈ F, LiveId H i
  wf : ∀ i ∈ W, i ∈ F

theorem call_facts {P : Program} {f : Nat} {H : Heap} {args : List V} {v : V} {H' : Heap} {F W : List Nat} (h : CallRel P f H args v H' F W) : EvFacts H H' F W := by
  obtain ⟨ids, bs, args', Hin, r, Hout, hC, hnd, hlen, hle, hin, hnamed, hbsin, hrel, hro, rfl, rfl, rfl, hWW⟩ := h
  subst hWW
  have hids : ∀ i ∈ W, LiveId H i := fun i hi => by
    obtain ⟨k, hk⟩ := List.getElem?_of_mem hi
    obtain ⟨cells, _, _, hb, _⟩ := hin k i hk
    exact live_blk hb
  refine ⟨by rw [putBack_len]; omega, fun i hi hl => ?_, fun i hi hw => putBack_old _ W H Hout i hw hi, fun i hi => ?_, fun i hi => by simp [hi]⟩
  · by_cases hw : i ∈ W
    · exact hids i hw
    · obtain ⟨c, hc⟩ := hl
      rw [putBack_old _ W H Hout i hw hi] at hc
      exact ⟨c, hc⟩
  · rcases List.mem_append.1 hi with hi | hi
    · exact hids i hi
    · obtain ⟨_, cells, hb⟩ := hbsin i hi
      exact live_blk hb

theorem ev_facts {P : Program} {S : List V} {H : Heap} {ao : AOp} {v : V} {H' : Heap} {F W : List Nat} (h : EvOp P S H ao v H' F W) : EvFacts H H' F W := by
  have hplain : evOp S H ao = some (v, H') ∧ F = footOp S ao ∧ W = wrOp S ao → EvFacts H H' F W := by
    rintro ⟨he, rfl, rfl⟩
    have hs := evOp_heap he
    exact ⟨hs.len, hs.live, hs.keep, evOp_foot he, wr_foot S ao⟩
  cases ao with
  | call f args =>
    simp only [EvOp] at h
    exact call_facts h
  | callv f args =>
    simp only [EvOp] at h
    split at h
    · exact call_facts h.2
    · exact h.elim
  | _ => exact hplain h

mutual
theorem ids_def {K : Cx} : ∀ (v : V) (c : Value), Rep K v c → ∀ i ∈ idsIn v, ∃ b, K.β i = some b
  | .sc v, c, hr, i, hi => by simp [idsIn] at hi
  | .agg cs, c, hr, i, hi => by
    simp only [Rep] at hr; obtain ⟨l, _, hr⟩ := hr
    exact idsL_def cs l (RepO.iff.1 hr).1 i (by simpa [idsIn] using hi)
  | .tup vs, c, hr, i, hi => by
    simp only [Rep] at hr; obtain ⟨l, _, hr⟩ := hr
    exact idsL_def vs l hr i (by simpa [idsIn] using hi)
  | .sl n cs, c, hr, i, hi => by simp [idsIn] at hi
  | .box cs, c, hr, i, hi => by simp [idsIn] at hi
  | .ref id off, c, hr, i, hi => by
    simp only [Rep] at hr; obtain ⟨b, hb, _⟩ := hr
    simp only [idsIn, List.mem_singleton] at hi; subst hi; exact ⟨b, hb⟩
  | .sref id off n sz, c, hr, i, hi => by
    simp only [Rep] at hr; obtain ⟨b, _, _, hb, _⟩ := hr
    simp only [idsIn, List.mem_singleton] at hi; subst hi; exact ⟨b, hb⟩
  | .fn f caps, c, hr, i, hi => by
    simp only [Rep] at hr; obtain ⟨l, _, hr⟩ := hr
    exact idsL_def caps l hr i (by simpa [idsIn] using hi)
  | .dead, c, hr, i, hi => by simp [idsIn] at hi
theorem idsL_def {K : Cx} : ∀ (vs : List V) (l : List Value), RepL K vs l → ∀ i ∈ idsInL vs, ∃ b, K.β i = some b
  | [], l, hr, i, hi => by simp [idsInL] at hi
  | v :: vs, l, hr, i, hi => by
    simp only [RepL] at hr; obtain ⟨c, l', _, h1, h2⟩ := hr
    simp only [idsInL, List.mem_append] at hi
    rcases hi with hi | hi
    · exact ids_def v c h1 i hi
    · exact idsL_def vs l' h2 i hi
end

theorem idsInL_mem {i : Nat} : ∀ {vs : List V}, i ∈ idsInL vs → ∃ v ∈ vs, i ∈ idsIn v
  | [], h => by simp [idsInL] at h
  | v :: vs, h => by
    simp only [idsInL, List.mem_append] at h
    rcases h with h | h
    · exact ⟨v, by simp, h⟩
    · obtain ⟨u, hu, hi⟩ := idsInL_mem h
      exact ⟨u, by simp [hu], hi⟩

/-- The owned blocks that an operation looks into are known, if those are whose content it has seen. -/
theorem call_def {P : Program} {f : Nat} {H : Heap} {args : List V} {v : V} {H' : Heap} {F W : List Nat} (h : CallRel P f H args v H' F W) {K : Cx} {l : List Value} (hargs : RepL K args l)
    (hcells : ∀ i ∈ F, (∃ b, K.β i = some b) → ∃ b cells, K.β i = some b ∧ H[i]? = some (some cells) ∧ BlkOK K b cells) : ∀ i ∈ F, ∃ b, K.β i = some b := by
  obtain ⟨ids, bs, args', Hin, r, Hout, hC, hnd, hlen, hle, hin, hnamed, hbsin, hrel, hro, rfl, rfl, rfl, hWW⟩ := h
  have hids : ∀ (n k : Nat), k < n → ∀ i, ids[k]? = some i → ∃ b, K.β i = some b := by
    intro n
    induction n with
    | zero => intro k hk; omega
    | succ n ih =>
      intro k hk i hi
      rcases hnamed k i hi with h1 | ⟨k', id', cells, hlt, hk', hb, hm⟩
      · exact idsL_def args l hargs i h1
      · have hdef := ih k' (by omega) id' hk'
        obtain ⟨b, cells', hb', hH, C, e, lo, up, _, _, _, _, hcc⟩ := hcells id' (by simp [List.mem_of_getElem? hk']) hdef
        rw [blkAt_iff, hH] at hb; cases hb
        obtain ⟨u, hu, hiu⟩ := idsInL_mem hm
        obtain ⟨j, hj⟩ := List.getElem?_of_mem hu
        obtain ⟨c, _, hr⟩ := hcc j u hj
        exact ids_def u c hr i hiu
  intro i hi
  rcases List.mem_append.1 hi with hi | hi
  · obtain ⟨k, hk⟩ := List.getElem?_of_mem hi
    exact hids (k + 1) k (by omega) i hk
  · exact idsL_def args l hargs i (hbsin i hi).1

theorem idV_def {K : Cx} {v : V} {c : Value} (h : Rep K v c) : ∀ i ∈ idV v, ∃ b, K.β i = some b := by
  cases v with
  | ref id off => intro i hi; exact ids_def _ _ h i (by simpa [idV, idsIn] using hi)
  | sref id off n sz => intro i hi; exact ids_def _ _ h i (by simpa [idV, idsIn] using hi)
  | _ => intro i hi; simp [idV] at hi

def isCall : AOp → Bool
  | .call _ _ => true
  | .callv _ _ => true
  | _ => false

theorem cBuiltin_noCall {P : Program} {args : Array Operand} {tys : Array TypeId} {b : Builtin} {ao : AOp} (hc : cBuiltin P args tys b = some ao) : isCall ao = false := by
  unfold cBuiltin at hc
  split at hc
  all_goals (repeat' (first | (split at hc) | (simp only [Option.map_eq_some_iff, Option.bind_eq_bind, Option.bind_eq_some_iff, Option.pure_def, Option.some.injEq, reduceCtorEq] at hc) | (obtain ⟨_, _, hc⟩ := hc)))
  all_goals first | rfl | (subst hc; rfl)

theorem cOp_noCall {P : Program} {op : Op} {ao : AOp} (hc : cOp P op = some ao) (hop : ∀ c, op ≠ .call c) : isCall ao = false := by
  unfold cOp at hc
  split at hc
  all_goals (try (exact absurd rfl (hop _)))
  all_goals (repeat' (first | (split at hc) | (simp only [Option.map_eq_some_iff, Option.bind_eq_bind, Option.bind_eq_some_iff, Option.pure_def, Option.some.injEq, reduceCtorEq, cEqA] at hc) | (obtain ⟨_, _, hc⟩ := hc)))
  all_goals first | rfl | (subst hc; rfl)

theorem EvOp_plain {P : Program} {S : List V} {H : Heap} {ao : AOp} {v : V} {H' : Heap} {F W : List Nat} (h : isCall ao = false) (he : EvOp P S H ao v H' F W) : evOp S H ao = some (v, H') ∧ F = footOp S ao ∧ W = wrOp S ao := by
  cases ao <;> first | (simp [isCall] at h; done) | exact he

/-- One operation. -/
theorem op_step {P : Program} {o : Oper} {ao : AOp} (hc : cOp P o.op = some ao) {S : List V} {H : Heap} {v : V} {H' : Heap} {F W : List Nat} (he : EvOp P S H ao v H' F W) {K : Cx} {D : Nat → Prop} {a : Act}
    (hK : HeapOK K H D) (hfresh : ∀ i, H.length ≤ i → i < H'.length → K.β i = none) (hF : ∀ i ∈ F, D i) (hS : ∀ x ∈ o.op.operands.toList, OnOd K S a x)
    {next : Act → World → Prop} {Q : Exit → Act → World → Prop}
    (hn : ∀ c K', HeapOK K' H' (Dn D H H') → Step K H D K' H' (Dn D H H') → Rep K' v c → next (a.put o.dst c) K'.w) : o.wp P a K.w next Q := by
  have hplain : isCall ao = false → o.wp P a K.w next Q := by
    intro hnc
    obtain ⟨he1, rfl, rfl⟩ := EvOp_plain hnc he
    obtain ⟨n, c, K', hrun, hnc, hOK, hst, hrep⟩ := op_sound hc he1 rfl hK hfresh hF hS
    unfold Oper.wp
    rw [hrun]
    rcases hnc with rfl | ⟨rfl, rfl⟩
    · exact hn c K' hOK hst hrep
    · exact hn undef K' hOK hst hrep
  have hcall : ∀ (g : Nat) (args : List V) (vs : List Value), CallRel P g H args v H' F W → RepL K args vs → (execOp a.eval o).run P K.w = .ok (.enter g vs.toArray) K.w → o.wp P a K.w next Q := by
    intro g args vs hrel hargs hrun
    unfold Oper.wp
    rw [hrun]
    refine (call_sound hrel hK hfresh hF hargs).mono ?_
    rintro e w' ⟨c, K', rfl, rfl, hOK, hst, hrep⟩
    exact hn c K' hOK hst hrep
  have callable : ∀ {g : Nat}, Callable P g = true → ∀ (args : Array Value) (w : World), (callFunc g args).run P w = .ok (.enter g args) w := by
    intro g hg args w
    unfold Callable at hg
    split at hg
    · rename_i fn hfn
      simp only [Bool.and_eq_true, bne_iff_ne, ne_eq] at hg
      have h1 : (fn.name == "runtime.NumGoroutine") = false := by simpa using hg.1
      have h2 : fn.body.isNone = false := by cases hb : fn.body <;> simp_all
      simp only [callFunc, Sem.run_bind, run_program, Result.andThen_ok, hfn, h1, h2, Bool.false_eq_true, if_false, Sem.run_pure]
    · cases hg
  by_cases hop : ∃ c, o.op = .call c
  · obtain ⟨c, ho⟩ := hop
    rw [ho] at hc hS
    obtain ⟨callee, args, tys⟩ := c
    have hx : ∀ x ∈ args.toList, OnOd K S a x := fun x hx => hS x (by
      simp only [Op.operands, Call.operands, Array.toList_append, List.mem_append]; exact .inr hx)
    have hargs : (args.map a.eval) = (args.toList.map a.eval).toArray := by apply Array.ext'; simp
    simp only [cOp, cCall] at hc
    split at hc
    · exact hplain (cBuiltin_noCall hc)
    · rename_i g
      split at hc
      · rename_i hg
        simp only [Option.bind_eq_bind, Option.bind_eq_some_iff, Option.pure_def, Option.some.injEq] at hc
        obtain ⟨ds, hds, rfl⟩ := hc
        simp only [EvOp] at he
        refine hcall g _ _ he (cOds_rep hds hx) ?_
        unfold execOp; rw [ho]
        simp only [Sem.run_bind, resolve, Act.eval, Deferred.ofValue, Sem.run_pure, Result.andThen_ok, invoke, Array.empty_append, Array.append_empty, callable hg, hargs]
      · cases hc
    · rename_i f _
      simp only [Option.bind_eq_bind, Option.bind_eq_some_iff, Option.pure_def, Option.some.injEq] at hc
      obtain ⟨d, hd, ds, hds, rfl⟩ := hc
      simp only [EvOp] at he
      split at he
      · rename_i g caps hv
        have hrf := od_rep hd (hS f (by simp only [Op.operands, Call.operands, Array.toList_append, List.mem_append]; left; simp))
        rw [hv] at hrf
        simp only [Rep] at hrf
        obtain ⟨l, hl, hcaps⟩ := hrf
        have happ : RepL K (ds.map (·.ev S) ++ caps) (args.toList.map a.eval ++ l) := by
          have h1 := cOds_rep hds hx
          refine RepL.mk (by rw [List.length_append, List.length_append, RepL.length h1, RepL.length hcaps]) fun i v c hv hc => ?_
          have hlen := RepL.length h1
          by_cases hi : i < (ds.map (·.ev S)).length
          · rw [List.getElem?_append_left hi] at hv
            rw [List.getElem?_append_left (by omega)] at hc
            obtain ⟨c', hc', hr⟩ := h1.get i v hv
            rw [hc] at hc'; cases hc'; exact hr
          · rw [List.getElem?_append_right (by omega)] at hv
            rw [List.getElem?_append_right (by omega), hlen] at hc
            obtain ⟨c', hc', hr⟩ := hcaps.get _ v hv
            rw [hc] at hc'; cases hc'; exact hr
        refine hcall g _ _ he.2 happ ?_
        unfold execOp; rw [ho]
        simp only [Sem.run_bind, resolve, hl, Deferred.ofValue, Sem.run_pure, Result.andThen_ok, invoke, Array.empty_append, callable he.1, hargs]
        simp
      · exact he.elim
    · cases hc
  · exact hplain (cOp_noCall hc fun c h => hop ⟨c, h⟩)

end Go.Proofs.Ytlahigboaeadmaa.VA
