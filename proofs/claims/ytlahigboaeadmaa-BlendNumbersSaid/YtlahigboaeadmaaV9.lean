/- The soundness of single operations of 'VA', all together. -/
import Derived.Test.YtlahigboaeadmaaV8
set_option linter.unusedVariables false
set_option linter.unusedSimpArgs false
namespace Go.Proofs.Ytlahigboaeadmaa.VA
open Go

theorem exec_copy {P : Program} {a : Act} {o : Oper} {args : Array Operand} {tys : Array TypeId} {x y : Operand} {t e : TypeId} {i : TypeInfo} (ho : o.op = .call { callee := .builtin .copy, args, argTypes := tys })
    (ha0 : args[0]? = some x) (ha1 : args[1]? = some y) (ht0 : tys[0]? = some t) (h1 : P.underlying t = some (.slice e)) (hi : P.info? e = some i)
    {ad : Addr} {n cap m : Nat} (hx : a.eval x = .slice (some ad) n cap) {w w' : World} {cells : List Value} (hln : (Builtin.lenOf (a.eval y)).run P w = .ok m w)
    (hfc : (Builtin.firstCells i.size (min m n) (a.eval y)).run P w = .ok cells.toArray w) (hst : (storeCells ad cells).run P w = .ok () w') :
    (execOp a.eval o).run P w = .ok (.value (.int .i64 (min m n : Nat))) w' := by
  unfold execOp; rw [ho]
  have hm : Nat.min m n = min m n := rfl
  simp [resolve_builtin, invoke, builtin, Builtin.copy_, ha0, ha1, ht0, hx, run_underlying h1, hln, hm, sizeOf, typeInfo, hi, hfc, hst, goInt]

theorem snd_copy {P : Program} {K : Cx} {H : Heap} {D : Nat → Prop} {S : List V} {a : Act} {o : Oper} {args : Array Operand} {tys : Array TypeId} {t e : TypeId} {x y : Operand} {dx dy : Od} {i : TypeInfo}
    (ho : o.op = .call { callee := .builtin .copy, args, argTypes := tys }) (ha0 : args[0]? = some x) (ha1 : args[1]? = some y) (ht0 : tys[0]? = some t) (hdx : cOd x = some dx) (hdy : cOd y = some dy)
    (h1 : P.underlying t = some (.slice e)) (hi : P.info? e = some i) (hsz : i.size ≠ 0)
    (hK : HeapOK K H D) (hx : OnOd K S a x) (hy : OnOd K S a y) (hfoot : ∀ j ∈ footOp S (.copy i.size dx dy), D j)
    {v : V} {H' : Heap} (he : evOp S H (.copy i.size dx dy) = some (v, H')) : OpDone P K H D (execOp a.eval o) v H' := by
  have hrx := od_rep hdx hx
  have hry := od_rep hdy hy
  simp only [footOp, List.mem_append] at hfoot
  simp only [evOp] at he
  split at he
  · rename_i m ys id off n sz' hsrc hv
    obtain ⟨hylen, news, hnews, hln, hfc⟩ := src_run (P := P) hK hsrc (fun j hj => hfoot j (.inr hj)) hry hsz
    have hnl := RepL.length (RepO.iff.1 hnews).1
    rw [hv] at hrx
    split at he
    · rename_i cells hblk
      split at he
      · rename_i hcond
        obtain ⟨rfl, hle⟩ := hcond
        cases he
        simp only [Rep] at hrx
        obtain ⟨b, oo, cap, hbβ, hxv, hncap, hoo, _⟩ := hrx
        have hD := hfoot id (.inl (by rw [hv]; simp [idV]))
        obtain ⟨b2, cells2, hb2, hH, C, e1, lo, up, hC, hcs, hfz, h1c, hcc⟩ := hK.blk id hD
        rw [hbβ] at hb2; cases hb2
        rw [blkAt_iff, hH] at hblk; cases hblk
        have hk : min m n ≤ m := Nat.min_le_left _ _
        have hmul1 : min m n * i.size ≤ m * i.size := Nat.mul_le_mul_right _ hk
        have hmul2 : min m n * i.size ≤ n * i.size := Nat.mul_le_mul_right _ (Nat.min_le_right _ _)
        have hcl := repO_take hnews (min m n * i.size)
        have hcl' := RepO.iff.1 hcl
        have hlen := RepL.length hcl'.1
        have hlen2 : (ys.take (min m n * i.size)).length = min m n * i.size := by rw [List.length_take]; omega
        have hst : ∃ w' C', (storeCells ⟨b, oo, none⟩ (news.take (min m n * i.size))).run P K.w = .ok () w' ∧ Wrote K.w w' b C' e1 (lo, up) ∧ C'.size = C.size ∧
            (∀ k, k < off ∨ off + min m n * i.size ≤ k → C'[k]? = C[k]?) ∧ (∀ (j : Nat) (u : Value), (news.take (min m n * i.size))[j]? = some u → C'[off + j]? = some u) := by
          rcases hoo with hoo | hoo
          · have hn0 : n = 0 := by omega
            subst hn0
            have : news.take (min m 0 * i.size) = [] := by simp
            rw [this]
            exact ⟨K.w, C, rfl, ⟨rfl, rfl, rfl, rfl, fun _ _ => rfl, hC⟩, rfl, fun _ _ => rfl, fun j u hu => by simp at hu⟩
          · subst hoo
            obtain ⟨w', C', hr, hwr, hsz', hout, hin⟩ := run_storeCells_va P b oo e1 lo up (news.take (min m n * i.size)) 0 C K.w hC hfz (by omega) hcl'.2
            exact ⟨w', C', hr, hwr, hsz', fun k hk => hout k (by omega), fun j u hu => by have := hin j u hu; rwa [Nat.add_zero] at this⟩
        obtain ⟨w', C', hr, hwr, hsz', hout, hin⟩ := hst
        have hspl : ∀ (j : Nat) (u : V), (splice cells off (ys.take (min m n * i.size)))[j]? = some u → ∃ c : Value, C'[j]? = some c ∧ Rep K u c := by
          intro j u hu
          unfold splice at hu
          by_cases h1 : j < off
          · rw [List.getElem?_append_left (by simp; omega), List.getElem?_take_of_lt h1] at hu
            obtain ⟨c, hc1, hc2⟩ := hcc j u hu
            exact ⟨c, by rw [hout j (.inl (by omega))]; exact hc1, hc2⟩
          · rw [List.getElem?_append_right (by simp; omega)] at hu
            have hmin : min off cells.length = off := by omega
            simp only [List.length_take (l := cells), hmin] at hu
            by_cases h2 : j - off < (ys.take (min m n * i.size)).length
            · rw [List.getElem?_append_left h2] at hu
              obtain ⟨c, hc1, hc2⟩ := hcl'.1.get (j - off) u hu
              have := hin (j - off) c hc1
              rw [show off + (j - off) = j by omega] at this
              exact ⟨c, this, hc2⟩
            · rw [List.getElem?_append_right (by omega), List.getElem?_drop] at hu
              rw [show off + (ys.take (min m n * i.size)).length + (j - off - (ys.take (min m n * i.size)).length) = j by omega] at hu
              obtain ⟨c, hc1, hc2⟩ := hcc j u hu
              exact ⟨c, by rw [hout j (.inr (by omega))]; exact hc1, hc2⟩
        have h1c' : ∀ (j : Nat) (c : Value), C'[j]? = some c → c.oneCell' = true := by
          intro j c hc
          by_cases hj : j < off ∨ off + min m n * i.size ≤ j
          · rw [hout j hj] at hc; exact h1c j c hc
          · have hjl : j - off < (news.take (min m n * i.size)).length := by omega
            have := hin (j - off) _ (List.getElem?_eq_getElem hjl)
            rw [show off + (j - off) = j by omega, hc] at this
            cases this
            exact hcl'.2 _ (List.getElem_mem hjl)
        have hsplen : (splice cells off (ys.take (min m n * i.size))).length ≤ C'.size := by
          rw [splice_len (by omega)]; omega
        obtain ⟨hK', hst'⟩ := wrote_sound hK hD hbβ hC hwr hsz' hsplen (by rw [hsz']; exact hfz) h1c' hspl
        refine ⟨_, .int .i64 (min m n : Nat), _, exec_copy ho ha0 ha1 ht0 h1 hi hxv (hln _) (hfc _ _ hk rfl) hr, .inl rfl, hK', hst', by simp [Rep]⟩
      · cases he
    · cases he
  · cases he

theorem op_sound {P : Program} {op : Op} {ao : AOp} (hc : cOp P op = some ao) {S : List V} {H : Heap} {v : V} {H' : Heap} (he : evOp S H ao = some (v, H')) {K : Cx} {D : Nat → Prop} {a : Act} {o : Oper} (ho : o.op = op)
    (hK : HeapOK K H D) (hfresh : ∀ i, H.length ≤ i → i < H'.length → K.β i = none) (hfoot : ∀ i ∈ footOp S ao, D i) (hS : ∀ x ∈ op.operands.toList, OnOd K S a x) :
    OpDone P K H D (execOp a.eval o) v H' := by
  unfold cOp at hc
  split at hc
  · -- move
    rename_i x
    simp only [Option.map_eq_some_iff] at hc; obtain ⟨d, hd, rfl⟩ := hc
    simp only [evOp] at he; cases he
    exact snd_move (.inl ho) hd hK (hS x (by simp [Op.operands]))
  · -- assign
    rename_i x
    simp only [Option.map_eq_some_iff] at hc; obtain ⟨d, hd, rfl⟩ := hc
    simp only [evOp] at he; cases he
    exact snd_move (.inr ho) hd hK (hS x (by simp [Op.operands]))
  · -- pick
    rename_i c x y
    simp only [Option.bind_eq_bind, Option.bind_eq_some_iff, Option.pure_def, Option.some.injEq] at hc
    obtain ⟨dc, hdc, dx, hdx, dy, hdy, rfl⟩ := hc
    simp only [evOp] at he
    split at he
    · rename_i t ht
      cases he
      exact snd_pick ho hdc hdx hdy hK (hS c (by simp [Op.operands])) (hS x (by simp [Op.operands])) (hS y (by simp [Op.operands])) ht
    · cases he
  · -- alloc
    rename_i t
    simp only [Option.map_eq_some_iff] at hc; obtain ⟨zs, hz, rfl⟩ := hc
    simp only [evOp] at he; cases he
    exact snd_alloc (S := S) ho hz hK (hfresh _ (Nat.le_refl _) (by simp))
  · -- box
    rename_i t x
    simp only [Option.map_eq_some_iff] at hc; obtain ⟨d, hd, rfl⟩ := hc
    simp only [evOp] at he
    split at he
    · rename_i l hl
      cases he
      exact snd_box ho hd hK (hfresh _ (Nat.le_refl _) (by simp)) (hS x (by simp [Op.operands])) hl
    · cases he
  · -- build
    rename_i t parts
    have hx : ∀ p ∈ parts.toList, OnOd K S a p.2 := fun p hp => hS p.2 (by simp only [Op.operands]; exact List.mem_map.2 ⟨p, hp, rfl⟩)
    simp only [Option.bind_eq_bind, Option.bind_eq_some_iff] at hc
    obtain ⟨zs, hz, hc⟩ := hc
    split at hc
    · rename_i fs hu
      simp only [Option.bind_eq_bind, Option.bind_eq_some_iff, Option.pure_def, Option.some.injEq] at hc
      obtain ⟨places, hpl, qs, hq, rfl⟩ := hc
      simp only [evOp] at he
      split at he
      · rename_i cs hcs
        cases he
        exact snd_build ho hz (.inl ⟨fs, places, hu, hpl, hq⟩) hK hx hcs
      · cases he
    · rename_i n e hu
      simp only [Option.bind_eq_bind, Option.bind_eq_some_iff, Option.pure_def, Option.some.injEq] at hc
      obtain ⟨sz, hsz, qs, hq, rfl⟩ := hc
      simp only [evOp] at he
      split at he
      · rename_i cs hcs
        cases he
        exact snd_build ho hz (.inr ⟨n, e, sz, hu, hsz, hq⟩) hK hx hcs
      · cases he
    · cases hc
  · -- buildSlice
    rename_i t n parts
    have hx : ∀ p ∈ parts.toList, OnOd K S a p.2 := fun p hp => hS p.2 (by simp only [Op.operands]; exact List.mem_map.2 ⟨p, hp, rfl⟩)
    split at hc
    · rename_i e hu
      simp only [Option.bind_eq_bind, Option.bind_eq_some_iff] at hc
      obtain ⟨sz, hsz, zs, hz, hc⟩ := hc
      split at hc
      · cases hc
      · rename_i hcond
        simp only [Bool.or_eq_true, decide_eq_true_eq, not_or, Nat.not_lt] at hcond
        simp only [Option.bind_eq_some_iff, Option.pure_def, Option.some.injEq] at hc
        obtain ⟨qs, hq, rfl⟩ := hc
        have hfr : K.β H.length = none := by
          have he' := he
          simp only [evOp] at he'
          split at he'
          · cases he'; exact hfresh _ (Nat.le_refl _) (by simp)
          · cases he'
        exact snd_buildSl ho hu hsz hz hcond.1 hcond.2 hq hK hfr hx he
    · cases hc
  · -- load
    rename_i t x
    simp only [Option.bind_eq_bind, Option.bind_eq_some_iff, Option.pure_def, Option.some.injEq] at hc
    obtain ⟨k, hk, d, hd, rfl⟩ := hc
    exact snd_load ho hd hk hK (hS x (by simp [Op.operands])) hfoot he
  · -- store
    rename_i t x y
    simp only [Option.bind_eq_bind, Option.bind_eq_some_iff, Option.pure_def, Option.some.injEq] at hc
    obtain ⟨n, hn, dx, hdx, dy, hdy, rfl⟩ := hc
    exact snd_store ho hdx hdy hn hK (hS x (by simp [Op.operands])) (hS y (by simp [Op.operands])) hfoot he
  · -- nilCheck
    rename_i x
    simp only [Option.map_eq_some_iff] at hc; obtain ⟨d, hd, rfl⟩ := hc
    exact snd_nilChk ho hd hK (hS x (by simp [Op.operands])) he
  · -- binOp
    rename_i op t x y ty
    have hx := hS x (by simp [Op.operands])
    have hy := hS y (by simp [Op.operands])
    have hbin : ∀ {dx dy : Od}, cOd x = some dx → cOd y = some dy → ao = .bin op dx dy → OpDone P K H D (execOp a.eval o) v H' := by
      intro dx dy hdx hdy hao
      subst hao
      exact snd_bin ho hdx hdy hK hx hy he
    have heqA : ∀ {neg : Bool}, op = (if neg then .neq else .eql) → ((∃ fs, P.underlying t = some (.struct fs)) ∨ ∃ n e, P.underlying t = some (.array n e)) → cEqA P neg t x y = some ao → OpDone P K H D (execOp a.eval o) v H' := by
      intro neg hop hagg hc
      simp only [cEqA, Option.bind_eq_bind, Option.bind_eq_some_iff] at hc
      obtain ⟨sh, hsh, hc⟩ := hc
      split at hc
      · cases hc
      · rename_i hg
        simp only [Option.bind_eq_some_iff, Option.pure_def, Option.some.injEq] at hc
        obtain ⟨dx, hdx, dy, hdy, rfl⟩ := hc
        subst hop
        exact snd_eqA ho hdx hdy hsh (by simpa using hg) hagg hK hx hy he
    split at hc
    all_goals try (simp only [Option.bind_eq_bind, Option.bind_eq_some_iff, Option.pure_def, Option.some.injEq] at hc)
    · obtain ⟨dx, hdx, dy, hdy, rfl⟩ := hc; exact hbin hdx hdy rfl
    · obtain ⟨dx, hdx, dy, hdy, rfl⟩ := hc; exact hbin hdx hdy rfl
    · obtain ⟨dx, hdx, dy, hdy, rfl⟩ := hc; exact hbin hdx hdy rfl
    · obtain ⟨dx, hdx, dy, hdy, rfl⟩ := hc; exact hbin hdx hdy rfl
    · rename_i hu; obtain ⟨dx, hdx, dy, hdy, rfl⟩ := hc; exact snd_eqB (neg := false) ho hdx hdy hu hK hx hy he
    · rename_i hu; obtain ⟨dx, hdx, dy, hdy, rfl⟩ := hc; exact snd_eqB (neg := true) ho hdx hdy hu hK hx hy he
    · rename_i e hu; obtain ⟨dx, hdx, dy, hdy, rfl⟩ := hc; exact snd_eqNil (neg := false) ho hdx hdy hu hK hx hy he
    · rename_i e hu; obtain ⟨dx, hdx, dy, hdy, rfl⟩ := hc; exact snd_eqNil (neg := true) ho hdx hdy hu hK hx hy he
    · rename_i fs hu; exact heqA (neg := false) rfl (.inl ⟨fs, hu⟩) hc
    · rename_i n e hu; exact heqA (neg := false) rfl (.inr ⟨n, e, hu⟩) hc
    · rename_i fs hu; exact heqA (neg := true) rfl (.inl ⟨fs, hu⟩) hc
    · rename_i n e hu; exact heqA (neg := true) rfl (.inr ⟨n, e, hu⟩) hc
    · cases hc
    · cases hc
    · obtain ⟨dx, hdx, dy, hdy, rfl⟩ := hc; exact hbin hdx hdy rfl
  · -- unOp
    rename_i op t x
    simp only [Option.map_eq_some_iff] at hc; obtain ⟨d, hd, rfl⟩ := hc
    exact snd_un ho hd hK (hS x (by simp [Op.operands])) he
  · -- convert
    rename_i src dst x
    have hx := hS x (by simp [Op.operands])
    split at hc
    · rename_i k0 k h1 h2
      simp only [Option.map_eq_some_iff] at hc; obtain ⟨d, hd, rfl⟩ := hc
      exact snd_conv ho hd h1 h2 hK hx he
    · rename_i h1 h2
      simp only [Option.map_eq_some_iff] at hc; obtain ⟨d, hd, rfl⟩ := hc
      exact snd_same ho hd h1 h2 hK hx he
    · rename_i e0 e h1 h2
      split at hc
      · rename_i hsd
        split at hc
        · rename_i h3
          simp only [Option.map_eq_some_iff] at hc; obtain ⟨d, hd, rfl⟩ := hc
          exact snd_mark ho hsd hd h1 h2 h3 hK hx hfoot he
        · cases hc
      · cases hc
    · rename_i e h1 h2
      split at hc
      · rename_i h3
        split at hc
        · simp only [Option.map_eq_some_iff] at hc; obtain ⟨d, hd, rfl⟩ := hc
          exact snd_toStr ho hd h1 h2 h3 hK hx hfoot he
        · cases hc
      · cases hc
    · rename_i e h1 h2
      split at hc
      · rename_i h3
        split at hc
        · simp only [Option.map_eq_some_iff] at hc; obtain ⟨d, hd, rfl⟩ := hc
          have hfr : K.β H.length = none := by
            have he' := he
            simp only [evOp] at he'
            split at he'
            · split at he'
              · cases he'; exact hfresh _ (Nat.le_refl _) (by simp)
              · cases he'
            · cases he'
          exact snd_toBytes ho hd h1 h2 h3 hK hfr hx he
        · cases hc
      · cases hc
    · cases hc
  · -- makeSlice
    rename_i t x y
    split at hc
    · rename_i e hu
      simp only [Option.bind_eq_bind, Option.bind_eq_some_iff] at hc
      obtain ⟨i, hi, zs, hz, hc⟩ := hc
      split at hc
      · cases hc
      · rename_i hsz
        simp only [Option.bind_eq_some_iff, Option.pure_def, Option.some.injEq] at hc
        obtain ⟨dx, hdx, dy, hdy, rfl⟩ := hc
        have hfr : K.β H.length = none := by
          have he' := he
          simp only [evOp] at he'
          split at he'
          · split at he'
            · cases he'; exact hfresh _ (Nat.le_refl _) (by simp)
            · cases he'
          · cases he'
        exact snd_mkSl ho hdx hdy hu hi hz hsz hK hfr (hS x (by simp [Op.operands])) (hS y (by simp [Op.operands])) he
    · cases hc
  · -- slice
    rename_i t x lo hi
    have hx := hS x (by simp [Op.operands])
    have hxl : ∀ y, lo = some y → OnOd K S a y := fun y hy => hS y (by subst hy; simp [Op.operands])
    have hxh : ∀ y, hi = some y → OnOd K S a y := fun y hy => hS y (by subst hy; cases lo <;> simp [Op.operands])
    split at hc
    · rename_i n e hu
      simp only [Option.bind_eq_bind, Option.bind_eq_some_iff] at hc
      obtain ⟨sz, hsz, hc⟩ := hc
      split at hc
      · cases hc
      · simp only [Option.bind_eq_some_iff, Option.pure_def, Option.some.injEq] at hc
        obtain ⟨d, hd, dl, hdl, dh, hdh, rfl⟩ := hc
        exact snd_sliceArr ho hd hdl hdh hu hsz hK hx hxl hxh hfoot he
    · rename_i e hu
      simp only [Option.bind_eq_bind, Option.bind_eq_some_iff] at hc
      obtain ⟨sz, hsz, hc⟩ := hc
      split at hc
      · cases hc
      · simp only [Option.bind_eq_some_iff, Option.pure_def, Option.some.injEq] at hc
        obtain ⟨d, hd, dl, hdl, dh, hdh, rfl⟩ := hc
        exact snd_sliceSl ho hd hdl hdh hu hsz hK hx hxl hxh he
    · rename_i hu
      simp only [Option.bind_eq_bind, Option.bind_eq_some_iff, Option.pure_def, Option.some.injEq] at hc
      obtain ⟨d, hd, dl, hdl, dh, hdh, rfl⟩ := hc
      exact snd_sliceStr ho hd hdl hdh hu hK hx hxl hxh he
    · cases hc
  · -- fieldAddr
    rename_i t x i
    split at hc
    · rename_i fs hu
      simp only [Option.bind_eq_bind, Option.bind_eq_some_iff] at hc
      obtain ⟨f, hf, n, hn, hc⟩ := hc
      split at hc
      · cases hc
      · rename_i hn0
        simp only [Option.bind_eq_some_iff, Option.pure_def, Option.some.injEq] at hc
        obtain ⟨d, hd, rfl⟩ := hc
        exact snd_fieldAddr ho hd hu hf hn hn0 hK (hS x (by simp [Op.operands])) he
    · cases hc
  · -- field
    rename_i t x i
    split at hc
    · rename_i fs hu
      simp only [Option.bind_eq_bind, Option.bind_eq_some_iff, Option.pure_def, Option.some.injEq] at hc
      obtain ⟨f, hf, k, hk, d, hd, rfl⟩ := hc
      exact snd_field ho hd hu hf hk hK (hS x (by simp [Op.operands])) he
    · cases hc
  · -- indexAddr
    rename_i t x y
    split at hc
    · rename_i n e hu
      simp only [Option.bind_eq_bind, Option.bind_eq_some_iff] at hc
      obtain ⟨sz, hsz, hc⟩ := hc
      split at hc
      · cases hc
      · simp only [Option.bind_eq_some_iff, Option.pure_def, Option.some.injEq] at hc
        obtain ⟨dx, hdx, dy, hdy, rfl⟩ := hc
        exact snd_idxArr ho hdx hdy hu hsz hK (hS x (by simp [Op.operands])) (hS y (by simp [Op.operands])) he
    · rename_i e hu
      simp only [Option.bind_eq_bind, Option.bind_eq_some_iff] at hc
      obtain ⟨sz, hsz, hc⟩ := hc
      split at hc
      · cases hc
      · simp only [Option.bind_eq_some_iff, Option.pure_def, Option.some.injEq] at hc
        obtain ⟨dx, hdx, dy, hdy, rfl⟩ := hc
        exact snd_idxSl ho hdx hdy hu hsz hK (hS x (by simp [Op.operands])) (hS y (by simp [Op.operands])) he
    · cases hc
  · -- index
    rename_i t x y
    split at hc
    · rename_i n e hu
      simp only [Option.bind_eq_bind, Option.bind_eq_some_iff] at hc
      obtain ⟨sz, hsz, hc⟩ := hc
      split at hc
      · cases hc
      · simp only [Option.bind_eq_some_iff, Option.pure_def, Option.some.injEq] at hc
        obtain ⟨k, hk, dx, hdx, dy, hdy, rfl⟩ := hc
        exact snd_indexArr ho hdx hdy hu hsz hk hK (hS x (by simp [Op.operands])) (hS y (by simp [Op.operands])) he
    · rename_i hu
      simp only [Option.bind_eq_bind, Option.bind_eq_some_iff, Option.pure_def, Option.some.injEq] at hc
      obtain ⟨dx, hdx, dy, hdy, rfl⟩ := hc
      exact snd_indexStr ho hdx hdy hu hK (hS x (by simp [Op.operands])) (hS y (by simp [Op.operands])) he
    · cases hc
  · -- extract
    rename_i x i
    simp only [Option.bind_eq_bind, Option.bind_eq_some_iff, Option.pure_def, Option.some.injEq] at hc
    obtain ⟨d, hd, rfl⟩ := hc
    exact snd_extract ho hd hK (hS x (by simp [Op.operands])) he
  · -- makeFunc
    rename_i f first caps
    split at hc
    · rename_i hemp
      have hfirst : first = #[] := by simpa using hemp
      subst hfirst
      simp only [Option.bind_eq_bind, Option.bind_eq_some_iff, Option.pure_def, Option.some.injEq] at hc
      obtain ⟨ds, hds, rfl⟩ := hc
      simp only [evOp] at he; cases he
      exact snd_mkFunc ho hds hK (fun x hx => hS x (by simpa [Op.operands] using hx))
    · cases hc
  · -- call
    rename_i c
    obtain ⟨callee, args, tys⟩ := c
    have harg : ∀ x ∈ args.toList, OnOd K S a x := fun x hx => hS x (by
      simp only [Op.operands, Call.operands, Array.toList_append, List.mem_append]
      exact .inr hx)
    have hget : ∀ (i : Nat) (x : Operand), args[i]? = some x → OnOd K S a x := fun i x hx => harg x (Array.mem_toList_iff.2 (Array.mem_of_getElem? hx))
    simp only [] at hc
    unfold cCall at hc
    split at hc
    · rename_i b
      unfold cBuiltin at hc
      split at hc
      · simp only [Option.bind_eq_bind, Option.bind_eq_some_iff] at hc
        obtain ⟨x, hx, t, ht, hc⟩ := hc
        split at hc
        · rename_i n e hu
          cases hc
          simp only [evOp] at he; cases he
          exact snd_lenC (S := S) ho hx ht hu hK
        · rename_i hu
          simp only [Option.map_eq_some_iff] at hc; obtain ⟨d, hd, rfl⟩ := hc
          exact snd_lenStr ho hx ht hd hu hK (hget _ _ hx) he
        · rename_i e hu
          simp only [Option.map_eq_some_iff] at hc; obtain ⟨d, hd, rfl⟩ := hc
          exact snd_lenSl ho hx ht hd hu hK (hget _ _ hx) he
        · cases hc
      · simp only [Option.bind_eq_bind, Option.bind_eq_some_iff, Option.pure_def, Option.some.injEq] at hc
        obtain ⟨ds, hds, rfl⟩ := hc
        exact snd_minmax (mx := false) ho hds hK harg he
      · simp only [Option.bind_eq_bind, Option.bind_eq_some_iff, Option.pure_def, Option.some.injEq] at hc
        obtain ⟨ds, hds, rfl⟩ := hc
        exact snd_minmax (mx := true) ho hds hK harg he
      · simp only [Option.bind_eq_bind, Option.bind_eq_some_iff] at hc
        obtain ⟨x, hx, y, hy, t, ht, u, hu, hc⟩ := hc
        split at hc
        · rename_i e h1
          simp only [Option.bind_eq_some_iff] at hc
          obtain ⟨i, hi, zs, hz, hc⟩ := hc
          have hfin : (∃ e', P.underlying u = some (.slice e')) ∨ P.underlying u = some .string → (if (decide (i.size = 0) || args.size != 2) = true then none else (cOd x).bind fun a => (cOd y).bind fun b => some (AOp.append i.size i.bytes a b)) = some ao → OpDone P K H D (execOp a.eval o) v H' := by
            intro hu' hc
            split at hc
            · cases hc
            · rename_i hcond
              simp only [Bool.or_eq_true, decide_eq_true_eq, bne_iff_ne, ne_eq, not_or, Decidable.not_not] at hcond
              simp only [Option.bind_eq_some_iff, Option.some.injEq] at hc
              obtain ⟨dx, hdx, dy, hdy, rfl⟩ := hc
              have hargs : args = #[x, y] := by
                apply Array.ext_getElem?
                intro j
                match j with
                | 0 => simpa using hx
                | 1 => simpa using hy
                | j + 2 => rw [Array.getElem?_eq_none (by omega)]; simp
              exact snd_append ho hargs ht hu hdx hdy h1 hu' hi hz hcond.1 hK (hget _ _ hx) (hget _ _ hy) hfoot (fun hlt => hfresh _ (Nat.le_refl _) hlt) he
          split at hc
          · rename_i e' hu'; exact hfin (.inl ⟨e', hu'⟩) hc
          · rename_i hu'; exact hfin (.inr hu') hc
          · cases hc
        · cases hc
      · simp only [Option.bind_eq_bind, Option.bind_eq_some_iff] at hc
        obtain ⟨x, hx, y, hy, t, ht, hc⟩ := hc
        split at hc
        · rename_i e h1
          simp only [Option.bind_eq_some_iff] at hc
          obtain ⟨i, hi, hc⟩ := hc
          split at hc
          · cases hc
          · rename_i hsz
            simp only [Option.bind_eq_some_iff, Option.pure_def, Option.some.injEq] at hc
            obtain ⟨dx, hdx, dy, hdy, rfl⟩ := hc
            exact snd_copy ho hx hy ht hdx hdy h1 hi hsz hK (hget _ _ hx) (hget _ _ hy) hfoot he
        · cases hc
      · cases hc
    · split at hc
      · simp only [Option.bind_eq_bind, Option.bind_eq_some_iff, Option.pure_def, Option.some.injEq] at hc
        obtain ⟨ds, hds, rfl⟩ := hc
        simp [evOp] at he
      · cases hc
    · simp only [Option.bind_eq_bind, Option.bind_eq_some_iff, Option.pure_def, Option.some.injEq] at hc
      obtain ⟨d, hd, ds, hds, rfl⟩ := hc
      simp [evOp] at he
    · cases hc
  · cases hc

end Go.Proofs.Ytlahigboaeadmaa.VA
