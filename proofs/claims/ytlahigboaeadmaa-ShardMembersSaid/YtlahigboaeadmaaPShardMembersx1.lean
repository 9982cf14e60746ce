-- PRINTED BY print.sh 35421559b90ae4d0a3588c463048766b98c2df88dd9212a6774a882060cdf62d: not written by this session
import Derived.Test.YtlahigboaeadmaaPShardMembersx0
namespace Go.Proofs.Ytlahigboaeadmaa.PShardMembers
open Go.RowKit Go.Proofs.YtlahigboaeadmaaW.PrintWords Go.Proofs.YtlahigboaeadmaaW.PrintLast Go.Proofs.YtlahigboaeadmaaW.PrintMore
attribute [local go_sem] max2_int min2_int max_two min_two max_three min_three max_four min_four   -- for this text's walks alone
set_option linter.unusedVariables false
set_option linter.unusedSimpArgs false

/-! ### clavigerbook_Within: function 16 -/
def clavigerbook_Within.j0 : Nat → Int → Int → Int → Bool → Option (Int)
  | 0, _, _, _, _ => none
  | k + 1, x0, x1, x2, x14 => if x14 = true then (some x0) else (if (wrap64 ((wrap64 (x2 - x1)) + 1)) = 0 then (none) else (if (Int.tmod x0 (wrap64 ((wrap64 (x2 - x1)) + 1))) < 0 then (some (wrap64 (x1 + (wrap64 ((wrap64 ((wrap64 ((Int.tmod x0 (wrap64 ((wrap64 (x2 - x1)) + 1))) + x2)) - x1)) + 1))))) else (some (wrap64 (x1 + (Int.tmod x0 (wrap64 ((wrap64 (x2 - x1)) + 1))))))))
def clavigerbook_Within.f (k : Nat) (a0 : Int) (a1 : Int) (a2 : Int) : Option (Int) := if a0 ≥ a1 then (clavigerbook_Within.j0 k a0 a1 a2 (decide (a0 ≤ a2))) else (clavigerbook_Within.j0 k a0 a1 a2 false)
theorem clavigerbook_Within.mono_l : ∀ k, (∀ y0 y1 y2 y3, LeO (clavigerbook_Within.j0 k y0 y1 y2 y3) (clavigerbook_Within.j0 (k + 1) y0 y1 y2 y3))
  | 0 => fun _ _ _ _ r h => by simp [clavigerbook_Within.j0] at h
  | k + 1 => by
    have ih0 := clavigerbook_Within.mono_l k
    · intro y0 y1 y2 y3
      unfold clavigerbook_Within.j0
      repeat' first
      | (with_reducible exact ih0 _ _ _ _)
      | (with_reducible exact LeO.refl _)
      | (with_reducible exact LeO.none _)
      | (with_reducible refine LeO.ite ?_ ?_)
      | (with_reducible refine LeO.bind ?_ (fun _ => ?_))
      | exact ih0 _ _ _ _
      | exact LeO.none _
      | refine LeO.ite ?_ ?_
      | refine LeO.bind ?_ (fun _ => ?_)
theorem clavigerbook_Within.mono : ∀ a0 a1 a2 k, LeO (clavigerbook_Within.f k a0 a1 a2) (clavigerbook_Within.f (k + 1) a0 a1 a2) := by
  intro a0 a1 a2 k
  have ih0 := clavigerbook_Within.mono_l k
  unfold clavigerbook_Within.f
  repeat' first
      | (with_reducible exact ih0 _ _ _ _)
      | (with_reducible exact LeO.refl _)
      | (with_reducible exact LeO.none _)
      | (with_reducible refine LeO.ite ?_ ?_)
      | (with_reducible refine LeO.bind ?_ (fun _ => ?_))
      | exact ih0 _ _ _ _
      | exact LeO.none _
      | refine LeO.ite ?_ ?_
      | refine LeO.bind ?_ (fun _ => ?_)
set_option maxHeartbeats 8000000 in
set_option maxRecDepth 100000 in
theorem clavigerbook_Within.calls (k : Nat) (a0 : Int) (a1 : Int) (a2 : Int) (r : Int) (w : World) (h : clavigerbook_Within.f k a0 a1 a2 = some r) :
    Calls Try.prog 16 #[.int .i64 a0, .int .i64 a1, .int .i64 a2] w fun e w' => e = .returned (.int .i64 r) ∧ Drawn0 w w' := by
  have H : (if a0 ≥ a1 then (clavigerbook_Within.j0 k a0 a1 a2 (decide (a0 ≤ a2))) else (clavigerbook_Within.j0 k a0 a1 a2 false)) = some r := h
  clear h
  have HC4 := Aside0.mk H
  clear H
  go_enter Try.func16, Try.ntmps16
  go_upto_region 1 with (fail)
  go_cut [14] (fun v14 wc => ∃ (kq : Nat) (x14_3 : Bool), v14 = .bool x14_3 ∧ Aside0 (clavigerbook_Within.j0 kq a0 a1 a2 x14_3 = some r) ∧ Aside0 (kq ≤ k) ∧ Drawn0 w wc)
  case first =>
    have H := HC4.out
    clear HC4
    by_cases c5 : a0 ≥ a1
    · rw [if_pos c5] at H
      have c5b0 : decide (a1 ≤ a0) = true := decide_eq_true c5
      clear c5
      (first | rw [c5b0] | (simp only [i64_w, i32_w]; rw [c5b0]) | skip)
      have H' := Aside0.mk H
      clear H
      go_wp2
      go_meet
      case rel => exact ⟨_, (decide (a0 ≤ a2)), (by first | rfl | (simp; done) | (simp [*]; done)), H', ⟨by first | omega | exact Nat.le_refl _⟩, by repeat (first | exact Drawn0.refl _ | apply Drawn0.step)⟩
    · rw [if_neg c5] at H
      have c5b0 : decide (a1 ≤ a0) = false := decide_eq_false c5
      clear c5
      (first | rw [c5b0] | (simp only [i64_w, i32_w]; rw [c5b0]) | skip)
      have H' := Aside0.mk H
      clear H
      go_wp2
      go_meet
      case rel => exact ⟨_, (false), (by first | rfl | (simp; done) | (simp [*]; done)), H', ⟨by first | omega | exact Nat.le_refl _⟩, by repeat (first | exact Drawn0.refl _ | apply Drawn0.step)⟩
  case rest =>
    clear HC4
    try clear c1
    try clear p2
    try clear c5
    try clear c5b0
    obtain ⟨kq, x14_3, rfl, HA, HJ3, ⟨mc3, rfl⟩⟩ := hcut
    cases kq with
    | zero => exact absurd HA.out (by simp [clavigerbook_Within.j0])
    | succ kj3 =>
      have H := HA.out
      clear HA
      simp only [clavigerbook_Within.j0] at H
      by_cases c6 : x14_3 = true
      · subst c6
        have H1 : (some a0) = some r := by rw [if_pos rfl] at H; exact H
        clear H
        have H := H1
        clear H1
        obtain rfl := Option.some.inj H
        go_wp2
        go_ret
        exact ⟨by first | rfl | (simp; done) | (simp [*]; done), by repeat (first | exact Drawn0.refl _ | apply Drawn0.step)⟩
      · replace c6 := Bool.eq_false_iff.mpr c6
        subst c6
        have H1 : (if (wrap64 ((wrap64 (a2 - a1)) + 1)) = 0 then (none) else (if (Int.tmod a0 (wrap64 ((wrap64 (a2 - a1)) + 1))) < 0 then (some (wrap64 (a1 + (wrap64 ((wrap64 ((wrap64 ((Int.tmod a0 (wrap64 ((wrap64 (a2 - a1)) + 1))) + a2)) - a1)) + 1))))) else (some (wrap64 (a1 + (Int.tmod a0 (wrap64 ((wrap64 (a2 - a1)) + 1)))))))) = some r := by rw [if_neg (show ¬ (false = true) by decide)] at H; exact H
        clear H
        have H := H1
        clear H1
        by_cases c7 : (wrap64 ((wrap64 (a2 - a1)) + 1)) = 0
        · rw [if_pos c7] at H
          exact absurd H (by simp)
        · rw [if_neg c7] at H
          have c7b0 : ((wrap64 ((wrap64 (a2 - a1)) + 1)) == 0) = false := beq_eq_false_iff_ne.mpr c7
          have c7b1 : ((wrap64 ((wrap64 (a2 - a1)) + 1)) != 0) = true := bne_iff_ne.mpr c7
          by_cases c8 : (Int.tmod a0 (wrap64 ((wrap64 (a2 - a1)) + 1))) < 0
          · rw [if_pos c8] at H
            have c8b0 : decide ((Int.tmod a0 (wrap64 ((wrap64 (a2 - a1)) + 1))) < 0) = true := decide_eq_true c8
            clear c8
            obtain rfl := Option.some.inj H
            go_wp2
            go_ret
            exact ⟨by first | rfl | (simp; done) | (simp [*]; done), by repeat (first | exact Drawn0.refl _ | apply Drawn0.step)⟩
          · rw [if_neg c8] at H
            have c8b0 : decide ((Int.tmod a0 (wrap64 ((wrap64 (a2 - a1)) + 1))) < 0) = false := decide_eq_false c8
            clear c8
            obtain rfl := Option.some.inj H
            go_wp2
            go_ret
            exact ⟨by first | rfl | (simp; done) | (simp [*]; done), by repeat (first | exact Drawn0.refl _ | apply Drawn0.step)⟩

/-! ### shard_Right: function 31 -/
def shard_Right.f (a0 : Int) : Option (Bool) := if a0 ≥ 0 then (some (decide (a0 < 16))) else (some false)
set_option maxHeartbeats 8000000 in
set_option maxRecDepth 100000 in
theorem shard_Right.calls (a0 : Int) (r : Bool) (w : World) (h : shard_Right.f a0 = some r) :
    Calls Try.prog 31 #[.int .i64 a0] w fun e w' => e = .returned (.bool r) ∧ Drawn0 w w' := by
  have H : (if a0 ≥ 0 then (some (decide (a0 < 16))) else (some false)) = some r := h
  clear h
  by_cases c2 : a0 ≥ 0
  · rw [if_pos c2] at H
    have c2b0 : decide (0 ≤ a0) = true := decide_eq_true c2
    clear c2
    obtain rfl := Option.some.inj H
    go_enter Try.func31, Try.ntmps31
    go_wp2
    go_ret
    exact ⟨by first | rfl | (simp; done) | (simp [*]; done), by repeat (first | exact Drawn0.refl _ | apply Drawn0.step)⟩
  · rw [if_neg c2] at H
    have c2b0 : decide (0 ≤ a0) = false := decide_eq_false c2
    clear c2
    obtain rfl := Option.some.inj H
    go_enter Try.func31, Try.ntmps31
    go_wp2
    go_ret
    exact ⟨by first | rfl | (simp; done) | (simp [*]; done), by repeat (first | exact Drawn0.refl _ | apply Drawn0.step)⟩

/-! ### shard_First: function 19 -/
def shard_First.f (a0 : Int) (a1 : Int) : Option (Int) := (shard_Right.f a0).bind fun t101 => (if t101 = true then (if (mx 1 (mn a1 8)) = 0 then (none) else (some (Int.tmod a0 (mx 1 (mn a1 8))))) else (some 0))
set_option maxHeartbeats 8000000 in
set_option maxRecDepth 100000 in
theorem shard_First.calls (a0 : Int) (a1 : Int) (r : Int) (w : World) (h : shard_First.f a0 a1 = some r) :
    Calls Try.prog 19 #[.int .i64 a0, .int .i64 a1] w fun e w' => e = .returned (.int .i64 r) ∧ Below w.heap.size w w' := by
  have HB := Aside0.mk (Below.refl w.heap.size w)
  have H : ((shard_Right.f a0).bind fun t101 => (if t101 = true then (if (mx 1 (mn a1 8)) = 0 then (none) else (some (Int.tmod a0 (mx 1 (mn a1 8))))) else (some 0))) = some r := h
  clear h
  replace H := Option.bind_eq_some_iff.mp H
  obtain ⟨t101, A30, H⟩ := H
  replace H : (if t101 = true then (if (mx 1 (mn a1 8)) = 0 then (none) else (some (Int.tmod a0 (mx 1 (mn a1 8))))) else (some 0)) = some r := H
  have A3 := Aside0.mk A30
  clear A30
  by_cases c4 : t101 = true
  · subst c4
    have H1 : (if (mx 1 (mn a1 8)) = 0 then (none) else (some (Int.tmod a0 (mx 1 (mn a1 8))))) = some r := by rw [if_pos rfl] at H; exact H
    clear H
    have H := H1
    clear H1
    obtain ⟨ji5, hji5⟩ : ∃ j_ : Int, (mn a1 8) = j_ := ⟨_, rfl⟩
    replace H : (if (mx 1 (ji5)) = 0 then (none) else (some (Int.tmod a0 (mx 1 (ji5))))) = some r := by first | (rw [hji5] at H; exact H) | (simp only [hji5] at H ⊢; exact H)
    (try rw [hji5] at A3)
    (try (have hji5h : ji5 ≤ 8 := by (rw [← hji5]; unfold mn; (repeat' split) <;> omega)))
    (try (have hji5g : ji5 ≤ 64 := by omega))
    have hji5_ : (if 8 < a1 then 8 else a1) = ji5 := hji5
    obtain ⟨ji6, hji6⟩ : ∃ j_ : Int, (mx 1 (ji5)) = j_ := ⟨_, rfl⟩
    replace H : (if (ji6) = 0 then (none) else (some (Int.tmod a0 (ji6)))) = some r := by first | (rw [hji6] at H; exact H) | (simp only [hji6] at H ⊢; exact H)
    (try rw [hji6] at A3)
    have hji6_ : (if 1 < (ji5) then (ji5) else 1) = ji6 := hji6
    by_cases c7 : (ji6) = 0
    · rw [if_pos c7] at H
      exact absurd H (by simp)
    · rw [if_neg c7] at H
      have c7b0 : ((ji6) == 0) = false := beq_eq_false_iff_ne.mpr c7
      have c7b1 : ((ji6) != 0) = true := bne_iff_ne.mpr c7
      obtain rfl := Option.some.inj H
      go_enter Try.func19, Try.ntmps19
      go_wp2_with (first | ((with_reducible refine gate_callee (f := 31) rfl ?_); refine goesL_ (some 6) rfl rfl Try.func31 (by kernel_rfl) rfl #[.int .i64 a0] rfl (by (try simp only [List.map_toArray, List.map_cons, List.map_nil]); first | done | rfl | (simp only [List.length_drop, List.length_take]; rfl)) ?_; (with_reducible refine (shard_Right.calls a0 true _ A3.out).mono ?_); rintro e w' ⟨rfl, ⟨nd, rfl⟩⟩; refine ⟨_, rfl, ?_⟩))
      go_ret
      exact ⟨by first | rfl | (simp [errW_none, errW_some] <;> rfl) | (simp only [← hji5, ← hji6]; first | rfl | (simp [errW_none, errW_some] <;> rfl)) | (simp [*, errW_none, errW_some] <;> rfl), by repeat (first | (with_reducible first | exact HB.out | apply below_alloc | apply pw_below_drewN | apply below_drew1) | exact HB.out)⟩
  · replace c4 := Bool.eq_false_iff.mpr c4
    subst c4
    have H1 : (some 0) = some r := by rw [if_neg (show ¬ (false = true) by decide)] at H; exact H
    clear H
    have H := H1
    clear H1
    obtain rfl := Option.some.inj H
    go_enter Try.func19, Try.ntmps19
    go_wp2_with (first | ((with_reducible refine gate_callee (f := 31) rfl ?_); refine goesL_ (some 6) rfl rfl Try.func31 (by kernel_rfl) rfl #[.int .i64 a0] rfl (by (try simp only [List.map_toArray, List.map_cons, List.map_nil]); first | done | rfl | (simp only [List.length_drop, List.length_take]; rfl)) ?_; (with_reducible refine (shard_Right.calls a0 false _ A3.out).mono ?_); rintro e w' ⟨rfl, ⟨nd, rfl⟩⟩; refine ⟨_, rfl, ?_⟩))
    go_ret
    exact ⟨by first | rfl | (simp [errW_none, errW_some] <;> rfl) | (simp [*, errW_none, errW_some] <;> rfl), by repeat (first | (with_reducible first | exact HB.out | apply below_alloc | apply pw_below_drewN | apply below_drew1) | exact HB.out)⟩

/-! ### shard_Home: function 17 -/
def shard_Home.l0 : Nat → Int → List Int → Int → Option (List Int)
  | 0, _, _, _ => none
  | k + 1, x0, x3, x5 => if x5 < 16 then ((shard_First.f x5 x0).bind fun t102 => (if x3.length < 17592186044416 then (shard_Home.l0 k x0 (x3 ++ [t102]) (wrap64 (x5 + 1))) else (none))) else (some x3)
def shard_Home.f (k : Nat) (a0 : Int) : Option (List Int) := shard_Home.l0 k a0 ([] : List Int) 0
theorem shard_Home.mono_l : ∀ k, (∀ y0 y1 y2, LeO (shard_Home.l0 k y0 y1 y2) (shard_Home.l0 (k + 1) y0 y1 y2))
  | 0 => fun _ _ _ r h => by simp [shard_Home.l0] at h
  | k + 1 => by
    have ih0 := shard_Home.mono_l k
    · intro y0 y1 y2
      unfold shard_Home.l0
      repeat' first
      | (with_reducible exact ih0 _ _ _)
      | (with_reducible exact LeO.refl _)
      | (with_reducible exact LeO.none _)
      | (with_reducible refine LeO.ite ?_ ?_)
      | (with_reducible refine LeO.bind ?_ (fun _ => ?_))
      | exact ih0 _ _ _
      | exact LeO.none _
      | refine LeO.ite ?_ ?_
      | refine LeO.bind ?_ (fun _ => ?_)
theorem shard_Home.mono : ∀ a0 k, LeO (shard_Home.f k a0) (shard_Home.f (k + 1) a0) := by
  intro a0 k
  have ih0 := shard_Home.mono_l k
  unfold shard_Home.f
  repeat' first
      | (with_reducible exact ih0 _ _ _)
      | (with_reducible exact LeO.refl _)
      | (with_reducible exact LeO.none _)
      | (with_reducible refine LeO.ite ?_ ?_)
      | (with_reducible refine LeO.bind ?_ (fun _ => ?_))
      | exact ih0 _ _ _
      | exact LeO.none _
      | refine LeO.ite ?_ ?_
      | refine LeO.bind ?_ (fun _ => ?_)
set_option maxHeartbeats 8000000 in
set_option maxRecDepth 100000 in
theorem shard_Home.calls (k : Nat) (a0 : Int) (r : List Int) (w : World) (h : shard_Home.f k a0 = some r) :
    Calls Try.prog 17 #[.int .i64 a0] w fun e w' => ∃ v0_ : Value, e = .returned (v0_) ∧ Kd.R (Kd.int .i64) 3 w' w.heap.size (fun _ => True) v0_ r ∧ Below w.heap.size w w' := by
  have HB := Aside0.mk (Below.refl w.heap.size w)
  have H : (shard_Home.l0 k a0 ([] : List Int) 0) = some r := h
  clear h
  have H' := Aside0.mk H
  clear H
  go_enter Try.func17, Try.ntmps17
  go_wp2
  go_loopg [3, 5] k (fun kq v3 v5 w' => ∃ (x3_1 : List Int) (x5_1 : Int), v5 = .int .i64 x5_1 ∧ Aside0 (shard_Home.l0 kq a0 x3_1 x5_1 = some r) ∧ Aside0 (kq ≤ k) ∧ Aside0 (Kd.R (Kd.int .i64) 3 w' w.heap.size (fun _ => True) v3 x3_1) ∧ Aside0 (Below w.heap.size w w'))
  case atStart => exact ⟨(([] : List Int)), (0), (by first | rfl | (simp; done) | (simp [*]; done)), H', ⟨Nat.le_refl _⟩, ⟨by first | exact Kd.R_nil _ _ _ _ _ | exact Kd.N_nil _ _ _ _ _ | exact Kd.V_nil _ _ _ _ _ | exact Kd.Q_nil _ _ _ _ _ | exact Kd.S_nil _ _ _ _ _⟩, ⟨by repeat (first | (with_reducible first | exact HB.out | apply below_alloc | apply pw_below_drewN | apply below_drew1) | exact HB.out)⟩⟩
  case round =>
    clear H'
    try clear c1
    obtain ⟨x3_1, x5_1, rfl, HA, HK1, HO_3, HB⟩ := hrel
    cases gk with
    | zero => exact absurd HA.out (by simp [shard_Home.l0])
    | succ k1 =>
      have H := HA.out
      clear HA
      simp only [shard_Home.l0] at H
      by_cases c2 : x5_1 < 16
      · rw [if_pos c2] at H
        have c2b0 : decide (x5_1 < 16) = true := decide_eq_true c2
        clear c2
        replace H := Option.bind_eq_some_iff.mp H
        obtain ⟨t102, A30, H⟩ := H
        replace H : (if x3_1.length < 17592186044416 then (shard_Home.l0 k1 a0 (x3_1 ++ [t102]) (wrap64 (x5_1 + 1))) else (none)) = some r := H
        have A3 := Aside0.mk A30
        clear A30
        by_cases c4 : x3_1.length < 17592186044416
        · rw [if_pos c4] at H
          have LMc4 := Aside0.mk c4
          clear c4
          obtain ⟨y103, hy103⟩ : ∃ y_ : List Int, y_ = (x3_1 ++ [t102]) := ⟨_, rfl⟩
          replace H : (shard_Home.l0 k1 a0 y103 (wrap64 (x5_1 + 1))) = some r := by first | (rw [hy103]; with_reducible exact H) | (have H2_ := (Option.bind_some _ _).symm.trans H; rw [hy103]; with_reducible exact H2_) | (have H2_ := (Option.bind_some _ _).symm.trans H; with_reducible exact H2_) | with_reducible exact H | (rw [hy103]; exact H) | exact H
          have Ny103 := Aside0.mk hy103
          clear hy103
          have H' := Aside0.mk H
          clear H
          go_wp2_with (first | ((with_reducible refine gate_callee (f := 19) rfl ?_); refine goesL_ (some 11) rfl rfl Try.func19 (by kernel_rfl) rfl #[.int .i64 x5_1, .int .i64 a0] rfl (by (try simp only [List.map_toArray, List.map_cons, List.map_nil]); first | done | rfl | (simp only [List.length_drop, List.length_take]; rfl)) ?_; (with_reducible refine (shard_First.calls x5_1 a0 t102 _ A3.out).mono ?_); rintro e w5 ⟨rfl, hb⟩; refine ⟨_, rfl, ?_⟩; have n0_ := Aside0.mk (Kd.R_below (by (with_reducible repeat (first | apply Kd.R_alloc | apply Kd.R_drewN | apply Kd.R_drew)); exact HO_3.out) hb); have n1_ := Aside0.mk (below_step (by repeat (first | (with_reducible first | exact HB.out | apply below_alloc | apply pw_below_drewN | apply below_drew1) | exact HB.out)) hb); clear HO_3; clear HB; have HO_3 := n0_; have HB := n1_; clear n0_ n1_; (try clear hb); (try clear hb2); (try clear hk); (try clear hi)) | ((with_reducible refine gate_builtin (b := .append) (xs := #[.tmp 8, .tmp 12]) rfl ?_); at_builtin; refine Kd.R_append (Kd.int .i64) (w0 := w) w.heap.size rfl (.tmp 8) (.tmp 12) 23 3 (.int .i64 0) 8 rfl Try.underlying23 info3 rfl (by decide) (by omega) u3 x3_1 t102 [.int .i64 t102] (fun _ => True) (fun _ => False) rfl rfl ?aP (fun _ hk => hk.elim) ?aF ?aO ?aB ?aS ?aL ?_; (case aP => exact rfl); (case aB => exact (by repeat (first | (with_reducible first | exact HB.out | apply below_alloc | apply pw_below_drewN | apply below_drew1) | exact HB.out))); (case aF => exact (fun _ _ => trivial)); (case aO => exact (by (with_reducible repeat (first | apply Kd.R_alloc | apply Kd.R_drewN | apply Kd.R_drew)); exact HO_3.out)); (case aS => exact (below_size (by repeat (first | (with_reducible first | exact HB.out | apply below_alloc | apply pw_below_drewN | apply below_drew1) | exact HB.out)))); (case aL => have := LMc4.out; omega); intro v104 w6 ho hb hg hat; rw [← Ny103.out] at ho; have n0_ := Aside0.mk (hb); have n1_ := Aside0.mk (ho); clear HB; clear HO_3; have HB := n0_; have HO105 := n1_; clear n0_ n1_; clear ho hb hg hat))
          go_roundg k1
          case measure => have := HK1.out; omega
          case rel => exact ⟨(y103), (wrap64 (x5_1 + 1)), (by first | rfl | (simp; done) | (simp [*]; done)), H', ⟨by have := HK1.out; omega⟩, ⟨by (with_reducible repeat (first | apply Kd.R_alloc | apply Kd.R_drewN | apply Kd.R_drew)); exact HO105.out⟩, ⟨by repeat (first | (with_reducible first | exact HB.out | apply below_alloc | apply pw_below_drewN | apply below_drew1) | exact HB.out)⟩⟩
        · rw [if_neg c4] at H
          exact absurd H (by simp)
      · rw [if_neg c2] at H
        have c2b0 : decide (x5_1 < 16) = false := decide_eq_false c2
        clear c2
        obtain rfl := Option.some.inj H
        go_wp2
        go_ret
        exact ⟨_, by first | rfl | (simp [errW_none, errW_some] <;> rfl) | (simp [*, errW_none, errW_some] <;> rfl), by (with_reducible repeat (first | apply Kd.R_alloc | apply Kd.R_drewN | apply Kd.R_drew)); exact HO_3.out, by repeat (first | (with_reducible first | exact HB.out | apply below_alloc | apply pw_below_drewN | apply below_drew1) | exact HB.out)⟩

/-! ### clavigerbook_Same_int: function 47 -/
def clavigerbook_Same_int.l0 : Nat → List Int → List Int → Int → Option (Bool)
  | 0, _, _, _ => none
  | k + 1, x0, x1, x5 => if x5 < (x0.length : Int) then (if 0 ≤ x5 then (if x5 < (x1.length : Int) then (if (rd x0 x5) = (rd x1 x5) then (clavigerbook_Same_int.l0 k x0 x1 (wrap64 (x5 + 1))) else (some false)) else (none)) else (none)) else (some true)
def clavigerbook_Same_int.f (k : Nat) (l0 : List Int) (l1 : List Int) : Option (Bool) := if (l0.length : Int) = (l1.length : Int) then (clavigerbook_Same_int.l0 k l0 l1 0) else (some false)
theorem clavigerbook_Same_int.mono_l : ∀ k, (∀ y0 y1 y2, LeO (clavigerbook_Same_int.l0 k y0 y1 y2) (clavigerbook_Same_int.l0 (k + 1) y0 y1 y2))
  | 0 => fun _ _ _ r h => by simp [clavigerbook_Same_int.l0] at h
  | k + 1 => by
    have ih0 := clavigerbook_Same_int.mono_l k
    · intro y0 y1 y2
      unfold clavigerbook_Same_int.l0
      repeat' first
      | (with_reducible exact ih0 _ _ _)
      | (with_reducible exact LeO.refl _)
      | (with_reducible exact LeO.none _)
      | (with_reducible refine LeO.ite ?_ ?_)
      | (with_reducible refine LeO.bind ?_ (fun _ => ?_))
      | exact ih0 _ _ _
      | exact LeO.none _
      | refine LeO.ite ?_ ?_
      | refine LeO.bind ?_ (fun _ => ?_)
theorem clavigerbook_Same_int.mono : ∀ a0 a1 k, LeO (clavigerbook_Same_int.f k a0 a1) (clavigerbook_Same_int.f (k + 1) a0 a1) := by
  intro a0 a1 k
  have ih0 := clavigerbook_Same_int.mono_l k
  unfold clavigerbook_Same_int.f
  repeat' first
      | (with_reducible exact ih0 _ _ _)
      | (with_reducible exact LeO.refl _)
      | (with_reducible exact LeO.none _)
      | (with_reducible refine LeO.ite ?_ ?_)
      | (with_reducible refine LeO.bind ?_ (fun _ => ?_))
      | exact ih0 _ _ _
      | exact LeO.none _
      | refine LeO.ite ?_ ?_
      | refine LeO.bind ?_ (fun _ => ?_)
set_option maxHeartbeats 8000000 in
set_option maxRecDepth 100000 in
theorem clavigerbook_Same_int.calls (k : Nat) (A0 : Option Addr) (c0 : Nat) (l0 : List Int) (A1 : Option Addr) (c1 : Nat) (l1 : List Int) (r : Bool) (w : World) (hr0 : Kd.C (Kd.int .i64) w A0 l0.length l0) (hc0 : l0.length ≤ c0) (hr1 : Kd.C (Kd.int .i64) w A1 l1.length l1) (hc1 : l1.length ≤ c1) (h : clavigerbook_Same_int.f k l0 l1 = some r) :
    Calls Try.prog 47 #[.slice A0 l0.length c0, .slice A1 l1.length c1] w fun e w' => e = .returned (.bool r) ∧ Drawn0 w w' := by
  have HR0 := Aside0.mk hr0
  have HC0 := Aside0.mk hc0
  clear hr0 hc0
  have HR1 := Aside0.mk hr1
  have HC1 := Aside0.mk hc1
  clear hr1 hc1
  have H : (if (l0.length : Int) = (l1.length : Int) then (clavigerbook_Same_int.l0 k l0 l1 0) else (some false)) = some r := h
  clear h
  by_cases c3 : (l0.length : Int) = (l1.length : Int)
  · rw [if_pos c3] at H
    have c3b0 : ((l0.length : Int) == (l1.length : Int)) = true := beq_iff_eq.mpr c3
    have c3b1 : ((l0.length : Int) != (l1.length : Int)) = false := bne_eq_false_iff_eq.mpr c3
    have c3b2 : (l0.length == l1.length) = true := by first | simpa using c3 | (simp at c3 ⊢; omega)
    clear c3
    have H' := Aside0.mk H
    clear H
    go_enter Try.func47, Try.ntmps47
    go_wp2
    repeat (go_quiet (fail); try go_wp2)
    go_loopg [5] k (fun kq v5 w' => ∃ (x5_1 : Int), v5 = .int .i64 x5_1 ∧ Aside0 (clavigerbook_Same_int.l0 kq l0 l1 x5_1 = some r) ∧ Aside0 (kq ≤ k) ∧ Drawn0 w w')
    case atStart => exact ⟨(0), (by first | rfl | (simp; done) | (simp [*]; done)), H', ⟨Nat.le_refl _⟩, by repeat (first | exact Drawn0.refl _ | apply Drawn0.step)⟩
    case round =>
      clear H'
      try clear c1
      try clear p2
      try clear c3
      try clear c3b0
      try clear c3b1
      try clear c3b2
      obtain ⟨x5_1, rfl, HA, HK1, ⟨m1, rfl⟩⟩ := hrel
      cases gk with
      | zero => exact absurd HA.out (by simp [clavigerbook_Same_int.l0])
      | succ k1 =>
        have H := HA.out
        clear HA
        simp only [clavigerbook_Same_int.l0] at H
        by_cases c4 : x5_1 < (l0.length : Int)
        · rw [if_pos c4] at H
          have c4b0 : decide (x5_1 < (l0.length : Int)) = true := decide_eq_true c4
          clear c4
          by_cases c5 : 0 ≤ x5_1
          · rw [if_pos c5] at H
            have c5b0 : decide (0 ≤ x5_1) = true := decide_eq_true c5
            clear c5
            by_cases c6 : x5_1 < (l1.length : Int)
            · rw [if_pos c6] at H
              have c6b0 : decide (x5_1 < (l1.length : Int)) = true := decide_eq_true c6
              clear c6
              by_cases c7 : (rd l0 x5_1) = (rd l1 x5_1)
              · rw [if_pos c7] at H
                have c7b0 : ((rd l0 x5_1) == (rd l1 x5_1)) = true := beq_iff_eq.mpr c7
                have c7b1 : ((rd l0 x5_1) != (rd l1 x5_1)) = false := bne_eq_false_iff_eq.mpr c7
                clear c7
                have H' := Aside0.mk H
                clear H
                have p106 : 0 ≤ (x5_1 : Int) := of_decide_eq_true (by first | (with_reducible assumption) | assumption)
                have q106 : x5_1 < (l0.length : Int) := of_decide_eq_true (by first | (with_reducible assumption) | assumption)
                obtain ⟨ad106, e106, hx106_0⟩ := Kd.at_int HR0.out x5_1 p106 q106
                cases e106
                replace p106 := eq_true p106
                replace q106 := eq_true q106
                have p107 : 0 ≤ (x5_1 : Int) := of_decide_eq_true (by first | (with_reducible assumption) | assumption)
                have q107 : x5_1 < (l1.length : Int) := of_decide_eq_true (by first | (with_reducible assumption) | assumption)
                obtain ⟨ad107, e107, hx107_0⟩ := Kd.at_int HR1.out x5_1 p107 q107
                cases e107
                replace p107 := eq_true p107
                replace q107 := eq_true q107
                go_wp2
                repeat (go_quiet (fail); try go_wp2)
                go_roundg k1
                case measure => have := HK1.out; omega
                case rel => exact ⟨(wrap64 (x5_1 + 1)), (by first | rfl | (simp; done) | (simp [*]; done)), H', ⟨by have := HK1.out; omega⟩, by repeat (first | exact Drawn0.refl _ | apply Drawn0.step)⟩
              · rw [if_neg c7] at H
                have c7b0 : ((rd l0 x5_1) == (rd l1 x5_1)) = false := beq_eq_false_iff_ne.mpr c7
                have c7b1 : ((rd l0 x5_1) != (rd l1 x5_1)) = true := bne_iff_ne.mpr c7
                obtain rfl := Option.some.inj H
                have p106 : 0 ≤ (x5_1 : Int) := of_decide_eq_true (by first | (with_reducible assumption) | assumption)
                have q106 : x5_1 < (l0.length : Int) := of_decide_eq_true (by first | (with_reducible assumption) | assumption)
                obtain ⟨ad106, e106, hx106_0⟩ := Kd.at_int HR0.out x5_1 p106 q106
                cases e106
                replace p106 := eq_true p106
                replace q106 := eq_true q106
                have p107 : 0 ≤ (x5_1 : Int) := of_decide_eq_true (by first | (with_reducible assumption) | assumption)
                have q107 : x5_1 < (l1.length : Int) := of_decide_eq_true (by first | (with_reducible assumption) | assumption)
                obtain ⟨ad107, e107, hx107_0⟩ := Kd.at_int HR1.out x5_1 p107 q107
                cases e107
                replace p107 := eq_true p107
                replace q107 := eq_true q107
                go_wp2
                repeat (go_quiet (fail); try go_wp2)
                go_ret
                exact ⟨by first | rfl | (simp; done) | (simp [*]; done), by repeat (first | exact Drawn0.refl _ | apply Drawn0.step)⟩
            · rw [if_neg c6] at H
              exact absurd H (by simp)
          · rw [if_neg c5] at H
            exact absurd H (by simp)
        · rw [if_neg c4] at H
          have c4b0 : decide (x5_1 < (l0.length : Int)) = false := decide_eq_false c4
          clear c4
          obtain rfl := Option.some.inj H
          go_wp2
          repeat (go_quiet (fail); try go_wp2)
          go_ret
          exact ⟨by first | rfl | (simp; done) | (simp [*]; done), by repeat (first | exact Drawn0.refl _ | apply Drawn0.step)⟩
  · rw [if_neg c3] at H
    have c3b0 : ((l0.length : Int) == (l1.length : Int)) = false := beq_eq_false_iff_ne.mpr c3
    have c3b1 : ((l0.length : Int) != (l1.length : Int)) = true := bne_iff_ne.mpr c3
    have c3b2 : (l0.length == l1.length) = false := by first | simpa using c3 | (simp at c3 ⊢; omega)
    obtain rfl := Option.some.inj H
    go_enter Try.func47, Try.ntmps47
    go_wp2
    repeat (go_quiet (fail); try go_wp2)
    go_ret
    exact ⟨by first | rfl | (simp; done) | (simp [*]; done), by repeat (first | exact Drawn0.refl _ | apply Drawn0.step)⟩

/-! ### clavigerlaw13_known: function 18 -/
def clavigerlaw13_known.f (k : Nat)  : Option (Bool) := (shard_Home.f k 3).bind fun t108 => ((shard_First.f 5 2).bind fun t111 => (if t111 = 1 then ((shard_Right.f 16).bind fun t112 => (if t112 = true then (some false) else ((shard_Right.f (-1)).bind fun t113 => (if t113 = true then (some false) else ((shard_Right.f 15).bind fun t114 => (if t114 = true then (if (t108.length : Int) = 16 then (if 4 ≤ (t108.length : Int) then ((clavigerbook_Same_int.f k (t108.take 4) (([0, 1, 2, 0] : List Int))).bind fun t122 => (some t122)) else (none)) else (some false)) else (some false))))))) else (some false)))
theorem clavigerlaw13_known.mono : ∀ k, LeO (clavigerlaw13_known.f k ) (clavigerlaw13_known.f (k + 1) ) := by
  intro  k
  unfold clavigerlaw13_known.f
  repeat' first
      | (with_reducible exact clavigerbook_Same_int.mono _ _ _)
      | (with_reducible exact shard_Home.mono _ _)
      | (with_reducible exact LeO.refl _)
      | (with_reducible exact LeO.none _)
      | (with_reducible refine LeO.ite ?_ ?_)
      | (with_reducible refine LeO.bind ?_ (fun _ => ?_))
      | exact clavigerbook_Same_int.mono _ _ _
      | exact shard_Home.mono _ _
      | exact LeO.none _
      | refine LeO.ite ?_ ?_
      | refine LeO.bind ?_ (fun _ => ?_)
set_option maxHeartbeats 8000000 in
set_option maxRecDepth 100000 in
theorem clavigerlaw13_known.calls (k : Nat)  (r : Bool) (w : World) (h : clavigerlaw13_known.f k  = some r) :
    Calls Try.prog 18 #[] w fun e w' => e = .returned (.bool r) ∧ Below w.heap.size w w' := by
  have HB := Aside0.mk (Below.refl w.heap.size w)
  have H : ((shard_Home.f k 3).bind fun t108 => ((shard_First.f 5 2).bind fun t111 => (if t111 = 1 then ((shard_Right.f 16).bind fun t112 => (if t112 = true then (some false) else ((shard_Right.f (-1)).bind fun t113 => (if t113 = true then (some false) else ((shard_Right.f 15).bind fun t114 => (if t114 = true then (if (t108.length : Int) = 16 then (if 4 ≤ (t108.length : Int) then ((clavigerbook_Same_int.f k (t108.take 4) (([0, 1, 2, 0] : List Int))).bind fun t122 => (some t122)) else (none)) else (some false)) else (some false))))))) else (some false)))) = some r := h
  clear h
  replace H := Option.bind_eq_some_iff.mp H
  obtain ⟨t108, A10, H⟩ := H
  replace H : ((shard_First.f 5 2).bind fun t111 => (if t111 = 1 then ((shard_Right.f 16).bind fun t112 => (if t112 = true then (some false) else ((shard_Right.f (-1)).bind fun t113 => (if t113 = true then (some false) else ((shard_Right.f 15).bind fun t114 => (if t114 = true then (if (t108.length : Int) = 16 then (if 4 ≤ (t108.length : Int) then ((clavigerbook_Same_int.f k (t108.take 4) (([0, 1, 2, 0] : List Int))).bind fun t122 => (some t122)) else (none)) else (some false)) else (some false))))))) else (some false))) = some r := H
  have A1 := Aside0.mk A10
  clear A10
  replace H := Option.bind_eq_some_iff.mp H
  obtain ⟨t111, A20, H⟩ := H
  replace H : (if t111 = 1 then ((shard_Right.f 16).bind fun t112 => (if t112 = true then (some false) else ((shard_Right.f (-1)).bind fun t113 => (if t113 = true then (some false) else ((shard_Right.f 15).bind fun t114 => (if t114 = true then (if (t108.length : Int) = 16 then (if 4 ≤ (t108.length : Int) then ((clavigerbook_Same_int.f k (t108.take 4) (([0, 1, 2, 0] : List Int))).bind fun t122 => (some t122)) else (none)) else (some false)) else (some false))))))) else (some false)) = some r := H
  have A2 := Aside0.mk A20
  clear A20
  by_cases c3 : t111 = 1
  · rw [if_pos c3] at H
    have c3b0 : (t111 == 1) = true := beq_iff_eq.mpr c3
    have c3b1 : (t111 != 1) = false := bne_eq_false_iff_eq.mpr c3
    clear c3
    replace H := Option.bind_eq_some_iff.mp H
    obtain ⟨t112, A40, H⟩ := H
    replace H : (if t112 = true then (some false) else ((shard_Right.f (-1)).bind fun t113 => (if t113 = true then (some false) else ((shard_Right.f 15).bind fun t114 => (if t114 = true then (if (t108.length : Int) = 16 then (if 4 ≤ (t108.length : Int) then ((clavigerbook_Same_int.f k (t108.take 4) (([0, 1, 2, 0] : List Int))).bind fun t122 => (some t122)) else (none)) else (some false)) else (some false)))))) = some r := H
    have A4 := Aside0.mk A40
    clear A40
    by_cases c5 : t112 = true
    · subst c5
      have H1 : (some false) = some r := by rw [if_pos rfl] at H; exact H
      clear H
      have H := H1
      clear H1
      obtain rfl := Option.some.inj H
      go_enter Try.func18, Try.ntmps18
      go_wp2_with (first | ((with_reducible refine gate_callee (f := 17) rfl ?_); refine goesL_ (some 2) rfl rfl Try.func17 (by kernel_rfl) rfl #[.int .i64 3] rfl (by (try simp only [List.map_toArray, List.map_cons, List.map_nil]); first | done | rfl | (simp only [List.length_drop, List.length_take]; rfl)) ?_; (with_reducible refine (shard_Home.calls k 3 t108 _ A1.out).mono ?_); rintro e w6 ⟨v109, rfl, ho0, hb⟩; refine ⟨_, rfl, ?_⟩; have n0_ := Aside0.mk (Kd.R_lower ho0 (below_size (by repeat (first | (with_reducible first | exact HB.out | apply below_alloc | apply pw_below_drewN | apply below_drew1) | exact HB.out)))); have n1_ := Aside0.mk (below_step (by repeat (first | (with_reducible first | exact HB.out | apply below_alloc | apply pw_below_drewN | apply below_drew1) | exact HB.out)) hb); clear HB; have HO110 := n0_; have HB := n1_; clear n0_ n1_; (try clear hb); (try clear hb2); (try clear hk); (try clear hi); (try clear ho0)) | ((with_reducible refine gate_callee (f := 19) rfl ?_); refine goesL_ (some 3) rfl rfl Try.func19 (by kernel_rfl) rfl #[.int .i64 5, .int .i64 2] rfl (by (try simp only [List.map_toArray, List.map_cons, List.map_nil]); first | done | rfl | (simp only [List.length_drop, List.length_take]; rfl)) ?_; (with_reducible refine (shard_First.calls 5 2 t111 _ A2.out).mono ?_); rintro e w7 ⟨rfl, hb⟩; refine ⟨_, rfl, ?_⟩; have n0_ := Aside0.mk (Kd.R_below (by (with_reducible repeat (first | apply Kd.R_alloc | apply Kd.R_drewN | apply Kd.R_drew)); exact HO110.out) hb); have n1_ := Aside0.mk (below_step (by repeat (first | (with_reducible first | exact HB.out | apply below_alloc | apply pw_below_drewN | apply below_drew1) | exact HB.out)) hb); clear HO110; clear HB; have HO110 := n0_; have HB := n1_; clear n0_ n1_; (try clear hb); (try clear hb2); (try clear hk); (try clear hi)) | (go_at_call 31; (with_reducible refine (shard_Right.calls 16 true _ A4.out).mono ?_); rintro e w' ⟨rfl, ⟨nd, rfl⟩⟩))
      go_ret
      exact ⟨by first | rfl | (simp [errW_none, errW_some] <;> rfl) | (simp [*, errW_none, errW_some] <;> rfl), by repeat (first | (with_reducible first | exact HB.out | apply below_alloc | apply pw_below_drewN | apply below_drew1) | exact HB.out)⟩
    · replace c5 := Bool.eq_false_iff.mpr c5
      subst c5
      have H1 : ((shard_Right.f (-1)).bind fun t113 => (if t113 = true then (some false) else ((shard_Right.f 15).bind fun t114 => (if t114 = true then (if (t108.length : Int) = 16 then (if 4 ≤ (t108.length : Int) then ((clavigerbook_Same_int.f k (t108.take 4) (([0, 1, 2, 0] : List Int))).bind fun t122 => (some t122)) else (none)) else (some false)) else (some false))))) = some r := by rw [if_neg (show ¬ (false = true) by decide)] at H; exact H
      clear H
      have H := H1
      clear H1
      replace H := Option.bind_eq_some_iff.mp H
      obtain ⟨t113, A80, H⟩ := H
      replace H : (if t113 = true then (some false) else ((shard_Right.f 15).bind fun t114 => (if t114 = true then (if (t108.length : Int) = 16 then (if 4 ≤ (t108.length : Int) then ((clavigerbook_Same_int.f k (t108.take 4) (([0, 1, 2, 0] : List Int))).bind fun t122 => (some t122)) else (none)) else (some false)) else (some false)))) = some r := H
      have A8 := Aside0.mk A80
      clear A80
      by_cases c9 : t113 = true
      · subst c9
        have H1 : (some false) = some r := by rw [if_pos rfl] at H; exact H
        clear H
        have H := H1
        clear H1
        obtain rfl := Option.some.inj H
        go_enter Try.func18, Try.ntmps18
        go_wp2_with (first | ((with_reducible refine gate_callee (f := 17) rfl ?_); refine goesL_ (some 2) rfl rfl Try.func17 (by kernel_rfl) rfl #[.int .i64 3] rfl (by (try simp only [List.map_toArray, List.map_cons, List.map_nil]); first | done | rfl | (simp only [List.length_drop, List.length_take]; rfl)) ?_; (with_reducible refine (shard_Home.calls k 3 t108 _ A1.out).mono ?_); rintro e w10 ⟨v109, rfl, ho0, hb⟩; refine ⟨_, rfl, ?_⟩; have n0_ := Aside0.mk (Kd.R_lower ho0 (below_size (by repeat (first | (with_reducible first | exact HB.out | apply below_alloc | apply pw_below_drewN | apply below_drew1) | exact HB.out)))); have n1_ := Aside0.mk (below_step (by repeat (first | (with_reducible first | exact HB.out | apply below_alloc | apply pw_below_drewN | apply below_drew1) | exact HB.out)) hb); clear HB; have HO110 := n0_; have HB := n1_; clear n0_ n1_; (try clear hb); (try clear hb2); (try clear hk); (try clear hi); (try clear ho0)) | ((with_reducible refine gate_callee (f := 19) rfl ?_); refine goesL_ (some 3) rfl rfl Try.func19 (by kernel_rfl) rfl #[.int .i64 5, .int .i64 2] rfl (by (try simp only [List.map_toArray, List.map_cons, List.map_nil]); first | done | rfl | (simp only [List.length_drop, List.length_take]; rfl)) ?_; (with_reducible refine (shard_First.calls 5 2 t111 _ A2.out).mono ?_); rintro e w11 ⟨rfl, hb⟩; refine ⟨_, rfl, ?_⟩; have n0_ := Aside0.mk (Kd.R_below (by (with_reducible repeat (first | apply Kd.R_alloc | apply Kd.R_drewN | apply Kd.R_drew)); exact HO110.out) hb); have n1_ := Aside0.mk (below_step (by repeat (first | (with_reducible first | exact HB.out | apply below_alloc | apply pw_below_drewN | apply below_drew1) | exact HB.out)) hb); clear HO110; clear HB; have HO110 := n0_; have HB := n1_; clear n0_ n1_; (try clear hb); (try clear hb2); (try clear hk); (try clear hi)) | (go_at_call 31; (with_reducible refine (shard_Right.calls 16 false _ A4.out).mono ?_); rintro e w' ⟨rfl, ⟨nd, rfl⟩⟩) | (go_at_call 31; (with_reducible refine (shard_Right.calls (-1) true _ A8.out).mono ?_); rintro e w' ⟨rfl, ⟨nd, rfl⟩⟩))
        go_ret
        exact ⟨by first | rfl | (simp [errW_none, errW_some] <;> rfl) | (simp [*, errW_none, errW_some] <;> rfl), by repeat (first | (with_reducible first | exact HB.out | apply below_alloc | apply pw_below_drewN | apply below_drew1) | exact HB.out)⟩
      · replace c9 := Bool.eq_false_iff.mpr c9
        subst c9
        have H1 : ((shard_Right.f 15).bind fun t114 => (if t114 = true then (if (t108.length : Int) = 16 then (if 4 ≤ (t108.length : Int) then ((clavigerbook_Same_int.f k (t108.take 4) (([0, 1, 2, 0] : List Int))).bind fun t122 => (some t122)) else (none)) else (some false)) else (some false))) = some r := by rw [if_neg (show ¬ (false = true) by decide)] at H; exact H
        clear H
        have H := H1
        clear H1
        replace H := Option.bind_eq_some_iff.mp H
        obtain ⟨t114, A120, H⟩ := H
        replace H : (if t114 = true then (if (t108.length : Int) = 16 then (if 4 ≤ (t108.length : Int) then ((clavigerbook_Same_int.f k (t108.take 4) (([0, 1, 2, 0] : List Int))).bind fun t122 => (some t122)) else (none)) else (some false)) else (some false)) = some r := H
        have A12 := Aside0.mk A120
        clear A120
        by_cases c13 : t114 = true
        · subst c13
          have H1 : (if (t108.length : Int) = 16 then (if 4 ≤ (t108.length : Int) then ((clavigerbook_Same_int.f k (t108.take 4) (([0, 1, 2, 0] : List Int))).bind fun t122 => (some t122)) else (none)) else (some false)) = some r := by rw [if_pos rfl] at H; exact H
          clear H
          have H := H1
          clear H1
          by_cases c14 : (t108.length : Int) = 16
          · rw [if_pos c14] at H
            have c14b0 : ((t108.length : Int) == 16) = true := beq_iff_eq.mpr c14
            have c14b1 : ((t108.length : Int) != 16) = false := bne_eq_false_iff_eq.mpr c14
            clear c14
            by_cases c15 : 4 ≤ (t108.length : Int)
            · rw [if_pos c15] at H
              have c15b0 := eq_true c15
              have c15b1 : decide (4 ≤ (t108.length : Int)) = true := decide_eq_true c15
              clear c15
              obtain ⟨y115, hy115⟩ : ∃ y_ : List Int, y_ = (t108.take 4) := ⟨_, rfl⟩
              replace H : ((clavigerbook_Same_int.f k y115 (([0, 1, 2, 0] : List Int))).bind fun t122 => (some t122)) = some r := by first | (rw [hy115]; with_reducible exact H) | (have H2_ := (Option.bind_some _ _).symm.trans H; rw [hy115]; with_reducible exact H2_) | (have H2_ := (Option.bind_some _ _).symm.trans H; with_reducible exact H2_) | with_reducible exact H | (rw [hy115]; exact H) | exact H
              have Ny115 := Aside0.mk hy115
              clear hy115
              obtain ⟨y119, hy119⟩ : ∃ y_ : List Int, y_ = (([0, 1, 2, 0] : List Int)) := ⟨_, rfl⟩
              replace H : ((clavigerbook_Same_int.f k y115 y119).bind fun t122 => (some t122)) = some r := by first | (rw [hy119]; with_reducible exact H) | (have H2_ := (Option.bind_some _ _).symm.trans H; rw [hy119]; with_reducible exact H2_) | (have H2_ := (Option.bind_some _ _).symm.trans H; with_reducible exact H2_) | with_reducible exact H | (rw [hy119]; exact H) | exact H
              have Ny119 := Aside0.mk hy119
              clear hy119
              replace H := Option.bind_eq_some_iff.mp H
              obtain ⟨t122, A160, H⟩ := H
              replace H : (some t122) = some r := H
              have A16 := Aside0.mk A160
              clear A160
              obtain rfl := Option.some.inj H
              go_enter Try.func18, Try.ntmps18
              go_wp2_with (first | ((with_reducible refine gate_callee (f := 17) rfl ?_); refine goesL_ (some 2) rfl rfl Try.func17 (by kernel_rfl) rfl #[.int .i64 3] rfl (by (try simp only [List.map_toArray, List.map_cons, List.map_nil]); first | done | rfl | (simp only [List.length_drop, List.length_take]; rfl)) ?_; (with_reducible refine (shard_Home.calls k 3 t108 _ A1.out).mono ?_); rintro e w17 ⟨v109, rfl, ho0, hb⟩; refine ⟨_, rfl, ?_⟩; have n0_ := Aside0.mk (Kd.R_lower ho0 (below_size (by repeat (first | (with_reducible first | exact HB.out | apply below_alloc | apply pw_below_drewN | apply below_drew1) | exact HB.out)))); have n1_ := Aside0.mk (below_step (by repeat (first | (with_reducible first | exact HB.out | apply below_alloc | apply pw_below_drewN | apply below_drew1) | exact HB.out)) hb); clear HB; have HO110 := n0_; have HB := n1_; clear n0_ n1_; (try clear hb); (try clear hb2); (try clear hk); (try clear hi); (try clear ho0)) | ((with_reducible refine gate_callee (f := 19) rfl ?_); refine goesL_ (some 3) rfl rfl Try.func19 (by kernel_rfl) rfl #[.int .i64 5, .int .i64 2] rfl (by (try simp only [List.map_toArray, List.map_cons, List.map_nil]); first | done | rfl | (simp only [List.length_drop, List.length_take]; rfl)) ?_; (with_reducible refine (shard_First.calls 5 2 t111 _ A2.out).mono ?_); rintro e w18 ⟨rfl, hb⟩; refine ⟨_, rfl, ?_⟩; have n0_ := Aside0.mk (Kd.R_below (by (with_reducible repeat (first | apply Kd.R_alloc | apply Kd.R_drewN | apply Kd.R_drew)); exact HO110.out) hb); have n1_ := Aside0.mk (below_step (by repeat (first | (with_reducible first | exact HB.out | apply below_alloc | apply pw_below_drewN | apply below_drew1) | exact HB.out)) hb); clear HO110; clear HB; have HO110 := n0_; have HB := n1_; clear n0_ n1_; (try clear hb); (try clear hb2); (try clear hk); (try clear hi)) | (go_at_call 31; (with_reducible refine (shard_Right.calls 16 false _ A4.out).mono ?_); rintro e w' ⟨rfl, ⟨nd, rfl⟩⟩) | (go_at_call 31; (with_reducible refine (shard_Right.calls (-1) false _ A8.out).mono ?_); rintro e w' ⟨rfl, ⟨nd, rfl⟩⟩) | (go_at_call 31; (with_reducible refine (shard_Right.calls 15 true _ A12.out).mono ?_); rintro e w' ⟨rfl, ⟨nd, rfl⟩⟩; obtain ⟨Ao19, co19, eo19⟩ := Kd.R_slice HO110.out; subst eo19; have q20 : (4 : Int) ≤ ((t108.length : Int) : Int) := of_decide_eq_true (by first | (with_reducible assumption) | assumption); obtain ⟨i020, hi020, _, hsz20, _⟩ := info_parts info3; have hroom20 : t108.length ≤ co19 := (Kd.R_reads' HO110.out).2.1; have hC20 : Kd.C (Kd.int .i64) _ Ao19 t108.length t108 := (Kd.R_reads' HO110.out).2.2; have hcut20 := cut_to (P := Try.prog) 23 3 .i64 Try.underlying23 hi020 Ao19 t108.length co19 4 (by omega) q20 hroom20; have hr20 := Kd.C_take (m := 4) hC20 (by omega); have hy20 : y115.length = (4 : Int).toNat := (by rw [Ny115.out, List.length_take]; omega); rw [← Ny115.out] at hr20; rw [← hy20] at hcut20; have HR118 := Aside0.mk hr20; have HC118 := Aside0.mk (show y115.length ≤ co19 from by omega); clear hr20 hC20 hroom20 hi020 hsz20; have KY20 := Aside0.mk hy20; clear hy20; have KL20 := Aside0.mk (show 4 ≤ t108.length from by omega); replace q20 := eq_true q20) | ((with_reducible refine gate_dst (N := 24) rfl ?_); (try (refine gate_guard (by rfl) ?_; dsimp only)); refine Kd.R_lit (Kd.int .i64) _ 3 ?hg (N := 24) ?hd (xs := ([0, 1, 2, 0] : List Int)) (inner := [.int .i64 0, .int .i64 1, .int .i64 2, .int .i64 0]) (ok := fun _ => True) (okp := fun _ => True) ?hr ?hp (fun _ hk => hk) trivial (Below.refl _ _) (Nat.le_refl _) (by simp) ?_; (case hd => rfl); (case hg => rfl); (case hr => first | (go_simp; done) | (go_simp; rfl)); (case hp => exact (Reps.one (show Kd.M (Kd.int .i64) _ _ _ 0 [.int .i64 0] from rfl) (Reps.one (show Kd.M (Kd.int .i64) _ _ _ 1 [.int .i64 1] from rfl) (Reps.one (show Kd.M (Kd.int .i64) _ _ _ 2 [.int .i64 2] from rfl) (Reps.one (show Kd.M (Kd.int .i64) _ _ _ 0 [.int .i64 0] from rfl) (Reps.none _ _)))))); intro v120 w21 ho22 hb hg_ hnew_; clear hg_ hnew_; (first | rw [← Ny119.out] at ho22 | (simp only [Int.reduceToNat] at ho22; rw [← Ny119.out] at ho22)); have n0_ := Aside0.mk (Kd.R_elder' (by (with_reducible repeat (first | apply Kd.R_alloc | apply Kd.R_drewN | apply Kd.R_drew)); exact HO110.out) (Kd.R_base ho22) hb); have n1_ := Aside0.mk (Kd.R_lower (Kd.R_new' ho22 (Kd.R_lt (by (with_reducible repeat (first | apply Kd.R_alloc | apply Kd.R_drewN | apply Kd.R_drew)); exact HO110.out))) (below_size (by repeat (first | (with_reducible first | exact HB.out | apply below_alloc | apply pw_below_drewN | apply below_drew1) | exact HB.out)))); have n2_ := Aside0.mk (Kd.C_below (by repeat (first | (with_reducible exact HR118.out) | (with_reducible refine Kd.C_alloc ?_ _) | (with_reducible refine Kd.C_drewN ?_ _) | (with_reducible refine Kd.C_drew ?_) | exact HR118.out)) hb); have n3_ := Aside0.mk (below_step (by repeat (first | (with_reducible first | exact HB.out | apply below_alloc | apply pw_below_drewN | apply below_drew1) | exact HB.out)) hb); clear HO110; clear HR118; clear HB; have HO110 := n0_; have HO121 := n1_; have HR118 := n2_; have HB := n3_; clear n0_ n1_ n2_ n3_; clear hb ho22; obtain ⟨Ao23, co23, eo23⟩ := Kd.R_slice HO121.out; subst eo23) | (go_at_call 47; (with_reducible refine (clavigerbook_Same_int.calls k _ _ y115 _ _ y119 t122 _ ?side1 ?side2 ?side3 ?side4 A16.out).mono ?_); (case side1 => repeat (first | exact (by repeat (first | (with_reducible exact HR118.out) | (with_reducible refine Kd.C_alloc ?_ _) | (with_reducible refine Kd.C_drewN ?_ _) | (with_reducible refine Kd.C_drew ?_) | exact HR118.out)) | (with_reducible refine Kd.C_alloc ?_ _) | (with_reducible refine Kd.C_drewN ?_ _) | (with_reducible refine Kd.C_drew ?_))); (case side2 => exact HC118.out); (case side3 => repeat (first | exact (Kd.R_reads' HO121.out).2.2 | (with_reducible refine Kd.C_alloc ?_ _) | (with_reducible refine Kd.C_drewN ?_ _) | (with_reducible refine Kd.C_drew ?_))); (case side4 => exact (Kd.R_reads' HO121.out).2.1); rintro e w' ⟨rfl, ⟨nd, rfl⟩⟩))
              go_ret
              exact ⟨by first | rfl | (simp [errW_none, errW_some] <;> rfl) | (simp [*, errW_none, errW_some] <;> rfl), by repeat (first | (with_reducible first | exact HB.out | apply below_alloc | apply pw_below_drewN | apply below_drew1) | exact HB.out)⟩
            · rw [if_neg c15] at H
              exact absurd H (by simp)
          · rw [if_neg c14] at H
            have c14b0 : ((t108.length : Int) == 16) = false := beq_eq_false_iff_ne.mpr c14
            have c14b1 : ((t108.length : Int) != 16) = true := bne_iff_ne.mpr c14
            obtain rfl := Option.some.inj H
            go_enter Try.func18, Try.ntmps18
            go_wp2_with (first | ((with_reducible refine gate_callee (f := 17) rfl ?_); refine goesL_ (some 2) rfl rfl Try.func17 (by kernel_rfl) rfl #[.int .i64 3] rfl (by (try simp only [List.map_toArray, List.map_cons, List.map_nil]); first | done | rfl | (simp only [List.length_drop, List.length_take]; rfl)) ?_; (with_reducible refine (shard_Home.calls k 3 t108 _ A1.out).mono ?_); rintro e w24 ⟨v109, rfl, ho0, hb⟩; refine ⟨_, rfl, ?_⟩; have n0_ := Aside0.mk (Kd.R_lower ho0 (below_size (by repeat (first | (with_reducible first | exact HB.out | apply below_alloc | apply pw_below_drewN | apply below_drew1) | exact HB.out)))); have n1_ := Aside0.mk (below_step (by repeat (first | (with_reducible first | exact HB.out | apply below_alloc | apply pw_below_drewN | apply below_drew1) | exact HB.out)) hb); clear HB; have HO110 := n0_; have HB := n1_; clear n0_ n1_; (try clear hb); (try clear hb2); (try clear hk); (try clear hi); (try clear ho0)) | ((with_reducible refine gate_callee (f := 19) rfl ?_); refine goesL_ (some 3) rfl rfl Try.func19 (by kernel_rfl) rfl #[.int .i64 5, .int .i64 2] rfl (by (try simp only [List.map_toArray, List.map_cons, List.map_nil]); first | done | rfl | (simp only [List.length_drop, List.length_take]; rfl)) ?_; (with_reducible refine (shard_First.calls 5 2 t111 _ A2.out).mono ?_); rintro e w25 ⟨rfl, hb⟩; refine ⟨_, rfl, ?_⟩; have n0_ := Aside0.mk (Kd.R_below (by (with_reducible repeat (first | apply Kd.R_alloc | apply Kd.R_drewN | apply Kd.R_drew)); exact HO110.out) hb); have n1_ := Aside0.mk (below_step (by repeat (first | (with_reducible first | exact HB.out | apply below_alloc | apply pw_below_drewN | apply below_drew1) | exact HB.out)) hb); clear HO110; clear HB; have HO110 := n0_; have HB := n1_; clear n0_ n1_; (try clear hb); (try clear hb2); (try clear hk); (try clear hi)) | (go_at_call 31; (with_reducible refine (shard_Right.calls 16 false _ A4.out).mono ?_); rintro e w' ⟨rfl, ⟨nd, rfl⟩⟩) | (go_at_call 31; (with_reducible refine (shard_Right.calls (-1) false _ A8.out).mono ?_); rintro e w' ⟨rfl, ⟨nd, rfl⟩⟩) | (go_at_call 31; (with_reducible refine (shard_Right.calls 15 true _ A12.out).mono ?_); rintro e w' ⟨rfl, ⟨nd, rfl⟩⟩; obtain ⟨Ao26, co26, eo26⟩ := Kd.R_slice HO110.out; subst eo26))
            go_ret
            exact ⟨by first | rfl | (simp [errW_none, errW_some] <;> rfl) | (simp [*, errW_none, errW_some] <;> rfl), by repeat (first | (with_reducible first | exact HB.out | apply below_alloc | apply pw_below_drewN | apply below_drew1) | exact HB.out)⟩
        · replace c13 := Bool.eq_false_iff.mpr c13
          subst c13
          have H1 : (some false) = some r := by rw [if_neg (show ¬ (false = true) by decide)] at H; exact H
          clear H
          have H := H1
          clear H1
          obtain rfl := Option.some.inj H
          go_enter Try.func18, Try.ntmps18
          go_wp2_with (first | ((with_reducible refine gate_callee (f := 17) rfl ?_); refine goesL_ (some 2) rfl rfl Try.func17 (by kernel_rfl) rfl #[.int .i64 3] rfl (by (try simp only [List.map_toArray, List.map_cons, List.map_nil]); first | done | rfl | (simp only [List.length_drop, List.length_take]; rfl)) ?_; (with_reducible refine (shard_Home.calls k 3 t108 _ A1.out).mono ?_); rintro e w27 ⟨v109, rfl, ho0, hb⟩; refine ⟨_, rfl, ?_⟩; have n0_ := Aside0.mk (Kd.R_lower ho0 (below_size (by repeat (first | (with_reducible first | exact HB.out | apply below_alloc | apply pw_below_drewN | apply below_drew1) | exact HB.out)))); have n1_ := Aside0.mk (below_step (by repeat (first | (with_reducible first | exact HB.out | apply below_alloc | apply pw_below_drewN | apply below_drew1) | exact HB.out)) hb); clear HB; have HO110 := n0_; have HB := n1_; clear n0_ n1_; (try clear hb); (try clear hb2); (try clear hk); (try clear hi); (try clear ho0)) | ((with_reducible refine gate_callee (f := 19) rfl ?_); refine goesL_ (some 3) rfl rfl Try.func19 (by kernel_rfl) rfl #[.int .i64 5, .int .i64 2] rfl (by (try simp only [List.map_toArray, List.map_cons, List.map_nil]); first | done | rfl | (simp only [List.length_drop, List.length_take]; rfl)) ?_; (with_reducible refine (shard_First.calls 5 2 t111 _ A2.out).mono ?_); rintro e w28 ⟨rfl, hb⟩; refine ⟨_, rfl, ?_⟩; have n0_ := Aside0.mk (Kd.R_below (by (with_reducible repeat (first | apply Kd.R_alloc | apply Kd.R_drewN | apply Kd.R_drew)); exact HO110.out) hb); have n1_ := Aside0.mk (below_step (by repeat (first | (with_reducible first | exact HB.out | apply below_alloc | apply pw_below_drewN | apply below_drew1) | exact HB.out)) hb); clear HO110; clear HB; have HO110 := n0_; have HB := n1_; clear n0_ n1_; (try clear hb); (try clear hb2); (try clear hk); (try clear hi)) | (go_at_call 31; (with_reducible refine (shard_Right.calls 16 false _ A4.out).mono ?_); rintro e w' ⟨rfl, ⟨nd, rfl⟩⟩) | (go_at_call 31; (with_reducible refine (shard_Right.calls (-1) false _ A8.out).mono ?_); rintro e w' ⟨rfl, ⟨nd, rfl⟩⟩) | (go_at_call 31; (with_reducible refine (shard_Right.calls 15 false _ A12.out).mono ?_); rintro e w' ⟨rfl, ⟨nd, rfl⟩⟩))
          go_ret
          exact ⟨by first | rfl | (simp [errW_none, errW_some] <;> rfl) | (simp [*, errW_none, errW_some] <;> rfl), by repeat (first | (with_reducible first | exact HB.out | apply below_alloc | apply pw_below_drewN | apply below_drew1) | exact HB.out)⟩
  · rw [if_neg c3] at H
    have c3b0 : (t111 == 1) = false := beq_eq_false_iff_ne.mpr c3
    have c3b1 : (t111 != 1) = true := bne_iff_ne.mpr c3
    obtain rfl := Option.some.inj H
    go_enter Try.func18, Try.ntmps18
    go_wp2_with (first | ((with_reducible refine gate_callee (f := 17) rfl ?_); refine goesL_ (some 2) rfl rfl Try.func17 (by kernel_rfl) rfl #[.int .i64 3] rfl (by (try simp only [List.map_toArray, List.map_cons, List.map_nil]); first | done | rfl | (simp only [List.length_drop, List.length_take]; rfl)) ?_; (with_reducible refine (shard_Home.calls k 3 t108 _ A1.out).mono ?_); rintro e w29 ⟨v109, rfl, ho0, hb⟩; refine ⟨_, rfl, ?_⟩; have n0_ := Aside0.mk (Kd.R_lower ho0 (below_size (by repeat (first | (with_reducible first | exact HB.out | apply below_alloc | apply pw_below_drewN | apply below_drew1) | exact HB.out)))); have n1_ := Aside0.mk (below_step (by repeat (first | (with_reducible first | exact HB.out | apply below_alloc | apply pw_below_drewN | apply below_drew1) | exact HB.out)) hb); clear HB; have HO110 := n0_; have HB := n1_; clear n0_ n1_; (try clear hb); (try clear hb2); (try clear hk); (try clear hi); (try clear ho0)) | ((with_reducible refine gate_callee (f := 19) rfl ?_); refine goesL_ (some 3) rfl rfl Try.func19 (by kernel_rfl) rfl #[.int .i64 5, .int .i64 2] rfl (by (try simp only [List.map_toArray, List.map_cons, List.map_nil]); first | done | rfl | (simp only [List.length_drop, List.length_take]; rfl)) ?_; (with_reducible refine (shard_First.calls 5 2 t111 _ A2.out).mono ?_); rintro e w30 ⟨rfl, hb⟩; refine ⟨_, rfl, ?_⟩; have n0_ := Aside0.mk (Kd.R_below (by (with_reducible repeat (first | apply Kd.R_alloc | apply Kd.R_drewN | apply Kd.R_drew)); exact HO110.out) hb); have n1_ := Aside0.mk (below_step (by repeat (first | (with_reducible first | exact HB.out | apply below_alloc | apply pw_below_drewN | apply below_drew1) | exact HB.out)) hb); clear HO110; clear HB; have HO110 := n0_; have HB := n1_; clear n0_ n1_; (try clear hb); (try clear hb2); (try clear hk); (try clear hi)))
    go_ret
    exact ⟨by first | rfl | (simp [errW_none, errW_some] <;> rfl) | (simp [*, errW_none, errW_some] <;> rfl), by repeat (first | (with_reducible first | exact HB.out | apply below_alloc | apply pw_below_drewN | apply below_drew1) | exact HB.out)⟩

/-! ### clavigerlaw13_ShardMembers: function 4 -/
def clavigerlaw13_ShardMembers.j0 : Nat → Int → Int → Bool → Option (Bool)
  | 0, _, _, _ => none
  | k + 1, x1, x5, x45 => if x45 = true then (some false) else ((clavigerbook_Within.f k x1 1 8).bind fun t130 => ((shard_First.f x5 t130).bind fun t131 => (if t131 ≥ 0 then (if t131 < t130 then (if t130 = 0 then (none) else (if (Int.tmod (wrap64 (x5 - t131)) t130) = 0 then ((clavigerlaw13_known.f k).bind fun t132 => (some t132)) else (some false))) else (some false)) else (some false))))
def clavigerlaw13_ShardMembers.f (k : Nat) (a0 : Int) (a1 : Int) : Option (Bool) := (clavigerbook_Within.f k a0 0 15).bind fun t123 => ((shard_First.f t123 1).bind fun t124 => (if t124 = 0 then ((shard_First.f t123 8).bind fun t125 => (if t125 = (Int.tmod t123 8) then ((shard_First.f t123 100).bind fun t126 => (if t126 = (Int.tmod t123 8) then ((shard_First.f t123 (-5)).bind fun t127 => (if t127 = 0 then ((shard_First.f (wrap64 ((-1) - t123)) a1).bind fun t128 => (if t128 = 0 then ((shard_First.f (wrap64 (16 + t123)) a1).bind fun t129 => (clavigerlaw13_ShardMembers.j0 k a1 t123 (t129 != 0))) else (clavigerlaw13_ShardMembers.j0 k a1 t123 true))) else (clavigerlaw13_ShardMembers.j0 k a1 t123 true))) else (clavigerlaw13_ShardMembers.j0 k a1 t123 true))) else (clavigerlaw13_ShardMembers.j0 k a1 t123 true))) else (clavigerlaw13_ShardMembers.j0 k a1 t123 true)))
theorem clavigerlaw13_ShardMembers.mono_l : ∀ k, (∀ y0 y1 y2, LeO (clavigerlaw13_ShardMembers.j0 k y0 y1 y2) (clavigerlaw13_ShardMembers.j0 (k + 1) y0 y1 y2))
  | 0 => fun _ _ _ r h => by simp [clavigerlaw13_ShardMembers.j0] at h
  | k + 1 => by
    have ih0 := clavigerlaw13_ShardMembers.mono_l k
    · intro y0 y1 y2
      unfold clavigerlaw13_ShardMembers.j0
      repeat' first
      | (with_reducible exact ih0 _ _ _)
      | (with_reducible exact clavigerbook_Within.mono _ _ _ _)
      | (with_reducible exact clavigerlaw13_known.mono _)
      | (with_reducible exact LeO.refl _)
      | (with_reducible exact LeO.none _)
      | (with_reducible refine LeO.ite ?_ ?_)
      | (with_reducible refine LeO.bind ?_ (fun _ => ?_))
      | exact ih0 _ _ _
      | exact clavigerbook_Within.mono _ _ _ _
      | exact clavigerlaw13_known.mono _
      | exact LeO.none _
      | refine LeO.ite ?_ ?_
      | refine LeO.bind ?_ (fun _ => ?_)
theorem clavigerlaw13_ShardMembers.mono : ∀ a0 a1 k, LeO (clavigerlaw13_ShardMembers.f k a0 a1) (clavigerlaw13_ShardMembers.f (k + 1) a0 a1) := by
  intro a0 a1 k
  have ih0 := clavigerlaw13_ShardMembers.mono_l k
  unfold clavigerlaw13_ShardMembers.f
  repeat' first
      | (with_reducible exact ih0 _ _ _)
      | (with_reducible exact clavigerbook_Within.mono _ _ _ _)
      | (with_reducible exact clavigerlaw13_known.mono _)
      | (with_reducible exact LeO.refl _)
      | (with_reducible exact LeO.none _)
      | (with_reducible refine LeO.ite ?_ ?_)
      | (with_reducible refine LeO.bind ?_ (fun _ => ?_))
      | exact ih0 _ _ _
      | exact clavigerbook_Within.mono _ _ _ _
      | exact clavigerlaw13_known.mono _
      | exact LeO.none _
      | refine LeO.ite ?_ ?_
      | refine LeO.bind ?_ (fun _ => ?_)
set_option maxHeartbeats 8000000 in
set_option maxRecDepth 100000 in
theorem clavigerlaw13_ShardMembers.calls (k : Nat) (a0 : Int) (a1 : Int) (r : Bool) (w : World) (h : clavigerlaw13_ShardMembers.f k a0 a1 = some r) :
    Calls Try.prog 4 #[.int .i64 a0, .int .i64 a1] w fun e w' => e = .returned (.bool r) ∧ Below w.heap.size w w' := by
  have HB := Aside0.mk (Below.refl w.heap.size w)
  have H : ((clavigerbook_Within.f k a0 0 15).bind fun t123 => ((shard_First.f t123 1).bind fun t124 => (if t124 = 0 then ((shard_First.f t123 8).bind fun t125 => (if t125 = (Int.tmod t123 8) then ((shard_First.f t123 100).bind fun t126 => (if t126 = (Int.tmod t123 8) then ((shard_First.f t123 (-5)).bind fun t127 => (if t127 = 0 then ((shard_First.f (wrap64 ((-1) - t123)) a1).bind fun t128 => (if t128 = 0 then ((shard_First.f (wrap64 (16 + t123)) a1).bind fun t129 => (clavigerlaw13_ShardMembers.j0 k a1 t123 (t129 != 0))) else (clavigerlaw13_ShardMembers.j0 k a1 t123 true))) else (clavigerlaw13_ShardMembers.j0 k a1 t123 true))) else (clavigerlaw13_ShardMembers.j0 k a1 t123 true))) else (clavigerlaw13_ShardMembers.j0 k a1 t123 true))) else (clavigerlaw13_ShardMembers.j0 k a1 t123 true)))) = some r := h
  clear h
  replace H := Option.bind_eq_some_iff.mp H
  obtain ⟨t123, A30, H⟩ := H
  replace H : ((shard_First.f t123 1).bind fun t124 => (if t124 = 0 then ((shard_First.f t123 8).bind fun t125 => (if t125 = (Int.tmod t123 8) then ((shard_First.f t123 100).bind fun t126 => (if t126 = (Int.tmod t123 8) then ((shard_First.f t123 (-5)).bind fun t127 => (if t127 = 0 then ((shard_First.f (wrap64 ((-1) - t123)) a1).bind fun t128 => (if t128 = 0 then ((shard_First.f (wrap64 (16 + t123)) a1).bind fun t129 => (clavigerlaw13_ShardMembers.j0 k a1 t123 (t129 != 0))) else (clavigerlaw13_ShardMembers.j0 k a1 t123 true))) else (clavigerlaw13_ShardMembers.j0 k a1 t123 true))) else (clavigerlaw13_ShardMembers.j0 k a1 t123 true))) else (clavigerlaw13_ShardMembers.j0 k a1 t123 true))) else (clavigerlaw13_ShardMembers.j0 k a1 t123 true))) = some r := H
  have A3 := Aside0.mk A30
  clear A30
  have HC4 := Aside0.mk H
  clear H
  go_enter Try.func4, Try.ntmps4
  go_upto_region 2 with (first | ((with_reducible refine gate_callee (f := 16) rfl ?_); refine goesL_ (some 9) rfl rfl Try.func16 (by kernel_rfl) rfl #[.int .i64 a0, .int .i64 0, .int .i64 15] rfl (by (try simp only [List.map_toArray, List.map_cons, List.map_nil]); first | done | rfl | (simp only [List.length_drop, List.length_take]; rfl)) ?_; (with_reducible refine (clavigerbook_Within.calls k a0 0 15 t123 _ A3.out).mono ?_); rintro e w' ⟨rfl, ⟨nd, rfl⟩⟩; refine ⟨_, rfl, ?_⟩))
  (try simp only [Act.put, List.setIfInBounds_toArray, List.set_cons_zero, List.set_cons_succ])
  go_cut [45] (fun v45 wc => ∃ (kq : Nat) (x45_3 : Bool), v45 = .bool x45_3 ∧ Aside0 (clavigerlaw13_ShardMembers.j0 kq a1 t123 x45_3 = some r) ∧ Aside0 (kq ≤ k) ∧ Aside0 (Below w.heap.size w wc))
  case first =>
    have H := HC4.out
    clear HC4
    replace H := Option.bind_eq_some_iff.mp H
    obtain ⟨t124, A50, H⟩ := H
    replace H : (if t124 = 0 then ((shard_First.f t123 8).bind fun t125 => (if t125 = (Int.tmod t123 8) then ((shard_First.f t123 100).bind fun t126 => (if t126 = (Int.tmod t123 8) then ((shard_First.f t123 (-5)).bind fun t127 => (if t127 = 0 then ((shard_First.f (wrap64 ((-1) - t123)) a1).bind fun t128 => (if t128 = 0 then ((shard_First.f (wrap64 (16 + t123)) a1).bind fun t129 => (clavigerlaw13_ShardMembers.j0 k a1 t123 (t129 != 0))) else (clavigerlaw13_ShardMembers.j0 k a1 t123 true))) else (clavigerlaw13_ShardMembers.j0 k a1 t123 true))) else (clavigerlaw13_ShardMembers.j0 k a1 t123 true))) else (clavigerlaw13_ShardMembers.j0 k a1 t123 true))) else (clavigerlaw13_ShardMembers.j0 k a1 t123 true)) = some r := H
    have A5 := Aside0.mk A50
    clear A50
    by_cases c6 : t124 = 0
    · rw [if_pos c6] at H
      have c6b0 : (t124 == 0) = true := beq_iff_eq.mpr c6
      have c6b1 : (t124 != 0) = false := bne_eq_false_iff_eq.mpr c6
      clear c6
      (first | rw [c6b0] | (simp only [i64_w, i32_w]; rw [c6b0]) | skip)
      replace H := Option.bind_eq_some_iff.mp H
      obtain ⟨t125, A70, H⟩ := H
      replace H : (if t125 = (Int.tmod t123 8) then ((shard_First.f t123 100).bind fun t126 => (if t126 = (Int.tmod t123 8) then ((shard_First.f t123 (-5)).bind fun t127 => (if t127 = 0 then ((shard_First.f (wrap64 ((-1) - t123)) a1).bind fun t128 => (if t128 = 0 then ((shard_First.f (wrap64 (16 + t123)) a1).bind fun t129 => (clavigerlaw13_ShardMembers.j0 k a1 t123 (t129 != 0))) else (clavigerlaw13_ShardMembers.j0 k a1 t123 true))) else (clavigerlaw13_ShardMembers.j0 k a1 t123 true))) else (clavigerlaw13_ShardMembers.j0 k a1 t123 true))) else (clavigerlaw13_ShardMembers.j0 k a1 t123 true)) = some r := H
      have A7 := Aside0.mk A70
      clear A70
      by_cases c8 : t125 = (Int.tmod t123 8)
      · rw [if_pos c8] at H
        have c8b0 : (t125 == (Int.tmod t123 8)) = true := beq_iff_eq.mpr c8
        have c8b1 : (t125 != (Int.tmod t123 8)) = false := bne_eq_false_iff_eq.mpr c8
        clear c8
        replace H := Option.bind_eq_some_iff.mp H
        obtain ⟨t126, A90, H⟩ := H
        replace H : (if t126 = (Int.tmod t123 8) then ((shard_First.f t123 (-5)).bind fun t127 => (if t127 = 0 then ((shard_First.f (wrap64 ((-1) - t123)) a1).bind fun t128 => (if t128 = 0 then ((shard_First.f (wrap64 (16 + t123)) a1).bind fun t129 => (clavigerlaw13_ShardMembers.j0 k a1 t123 (t129 != 0))) else (clavigerlaw13_ShardMembers.j0 k a1 t123 true))) else (clavigerlaw13_ShardMembers.j0 k a1 t123 true))) else (clavigerlaw13_ShardMembers.j0 k a1 t123 true)) = some r := H
        have A9 := Aside0.mk A90
        clear A90
        by_cases c10 : t126 = (Int.tmod t123 8)
        · rw [if_pos c10] at H
          have c10b0 : (t126 == (Int.tmod t123 8)) = true := beq_iff_eq.mpr c10
          have c10b1 : (t126 != (Int.tmod t123 8)) = false := bne_eq_false_iff_eq.mpr c10
          clear c10
          replace H := Option.bind_eq_some_iff.mp H
          obtain ⟨t127, A110, H⟩ := H
          replace H : (if t127 = 0 then ((shard_First.f (wrap64 ((-1) - t123)) a1).bind fun t128 => (if t128 = 0 then ((shard_First.f (wrap64 (16 + t123)) a1).bind fun t129 => (clavigerlaw13_ShardMembers.j0 k a1 t123 (t129 != 0))) else (clavigerlaw13_ShardMembers.j0 k a1 t123 true))) else (clavigerlaw13_ShardMembers.j0 k a1 t123 true)) = some r := H
          have A11 := Aside0.mk A110
          clear A110
          by_cases c12 : t127 = 0
          · rw [if_pos c12] at H
            have c12b0 : (t127 == 0) = true := beq_iff_eq.mpr c12
            have c12b1 : (t127 != 0) = false := bne_eq_false_iff_eq.mpr c12
            clear c12
            replace H := Option.bind_eq_some_iff.mp H
            obtain ⟨t128, A130, H⟩ := H
            replace H : (if t128 = 0 then ((shard_First.f (wrap64 (16 + t123)) a1).bind fun t129 => (clavigerlaw13_ShardMembers.j0 k a1 t123 (t129 != 0))) else (clavigerlaw13_ShardMembers.j0 k a1 t123 true)) = some r := H
            have A13 := Aside0.mk A130
            clear A130
            by_cases c14 : t128 = 0
            · rw [if_pos c14] at H
              have c14b0 : (t128 == 0) = true := beq_iff_eq.mpr c14
              have c14b1 : (t128 != 0) = false := bne_eq_false_iff_eq.mpr c14
              clear c14
              replace H := Option.bind_eq_some_iff.mp H
              obtain ⟨t129, A150, H⟩ := H
              replace H : (clavigerlaw13_ShardMembers.j0 k a1 t123 (t129 != 0)) = some r := H
              have A15 := Aside0.mk A150
              clear A150
              have H' := Aside0.mk H
              clear H
              go_wp2_with (first | ((with_reducible refine gate_callee (f := 19) rfl ?_); refine goesL_ (some 11) rfl rfl Try.func19 (by kernel_rfl) rfl #[.int .i64 t123, .int .i64 1] rfl (by (try simp only [List.map_toArray, List.map_cons, List.map_nil]); first | done | rfl | (simp only [List.length_drop, List.length_take]; rfl)) ?_; (with_reducible refine (shard_First.calls t123 1 t124 _ A5.out).mono ?_); rintro e w16 ⟨rfl, hb⟩; refine ⟨_, rfl, ?_⟩; have n0_ := Aside0.mk (below_step (by repeat (first | (with_reducible first | exact HB.out | apply below_alloc | apply pw_below_drewN | apply below_drew1) | exact HB.out)) hb); clear HB; have HB := n0_; clear n0_; (try clear hb); (try clear hb2); (try clear hk); (try clear hi)) | (go_at_call 19; (with_reducible refine (shard_First.calls t123 8 t125 _ A7.out).mono ?_); rintro e w17 ⟨rfl, hb⟩; have n0_ := Aside0.mk (below_step (by repeat (first | (with_reducible first | exact HB.out | apply below_alloc | apply pw_below_drewN | apply below_drew1) | exact HB.out)) hb); clear HB; have HB := n0_; clear n0_; (try clear hb); (try clear hb2); (try clear hk); (try clear hi)) | (go_at_call 19; (with_reducible refine (shard_First.calls t123 100 t126 _ A9.out).mono ?_); rintro e w18 ⟨rfl, hb⟩; have n0_ := Aside0.mk (below_step (by repeat (first | (with_reducible first | exact HB.out | apply below_alloc | apply pw_below_drewN | apply below_drew1) | exact HB.out)) hb); clear HB; have HB := n0_; clear n0_; (try clear hb); (try clear hb2); (try clear hk); (try clear hi)) | (go_at_call 19; (with_reducible refine (shard_First.calls t123 (-5) t127 _ A11.out).mono ?_); rintro e w19 ⟨rfl, hb⟩; have n0_ := Aside0.mk (below_step (by repeat (first | (with_reducible first | exact HB.out | apply below_alloc | apply pw_below_drewN | apply below_drew1) | exact HB.out)) hb); clear HB; have HB := n0_; clear n0_; (try clear hb); (try clear hb2); (try clear hk); (try clear hi)) | (go_at_call 19; (with_reducible refine (shard_First.calls (wrap64 ((-1) - t123)) a1 t128 _ A13.out).mono ?_); rintro e w20 ⟨rfl, hb⟩; have n0_ := Aside0.mk (below_step (by repeat (first | (with_reducible first | exact HB.out | apply below_alloc | apply pw_below_drewN | apply below_drew1) | exact HB.out)) hb); clear HB; have HB := n0_; clear n0_; (try clear hb); (try clear hb2); (try clear hk); (try clear hi)) | (go_at_call 19; (with_reducible refine (shard_First.calls (wrap64 (16 + t123)) a1 t129 _ A15.out).mono ?_); rintro e w21 ⟨rfl, hb⟩; have n0_ := Aside0.mk (below_step (by repeat (first | (with_reducible first | exact HB.out | apply below_alloc | apply pw_below_drewN | apply below_drew1) | exact HB.out)) hb); clear HB; have HB := n0_; clear n0_; (try clear hb); (try clear hb2); (try clear hk); (try clear hi)))
              go_meet
              case rel => exact ⟨_, ((t129 != 0)), (by first | rfl | (simp; done) | (simp [*]; done)), H', ⟨by first | omega | exact Nat.le_refl _⟩, ⟨by repeat (first | (with_reducible first | exact HB.out | apply below_alloc | apply pw_below_drewN | apply below_drew1) | exact HB.out)⟩⟩
            · rw [if_neg c14] at H
              have c14b0 : (t128 == 0) = false := beq_eq_false_iff_ne.mpr c14
              have c14b1 : (t128 != 0) = true := bne_iff_ne.mpr c14
              have H' := Aside0.mk H
              clear H
              go_wp2_with (first | ((with_reducible refine gate_callee (f := 19) rfl ?_); refine goesL_ (some 11) rfl rfl Try.func19 (by kernel_rfl) rfl #[.int .i64 t123, .int .i64 1] rfl (by (try simp only [List.map_toArray, List.map_cons, List.map_nil]); first | done | rfl | (simp only [List.length_drop, List.length_take]; rfl)) ?_; (with_reducible refine (shard_First.calls t123 1 t124 _ A5.out).mono ?_); rintro e w22 ⟨rfl, hb⟩; refine ⟨_, rfl, ?_⟩; have n0_ := Aside0.mk (below_step (by repeat (first | (with_reducible first | exact HB.out | apply below_alloc | apply pw_below_drewN | apply below_drew1) | exact HB.out)) hb); clear HB; have HB := n0_; clear n0_; (try clear hb); (try clear hb2); (try clear hk); (try clear hi)) | (go_at_call 19; (with_reducible refine (shard_First.calls t123 8 t125 _ A7.out).mono ?_); rintro e w23 ⟨rfl, hb⟩; have n0_ := Aside0.mk (below_step (by repeat (first | (with_reducible first | exact HB.out | apply below_alloc | apply pw_below_drewN | apply below_drew1) | exact HB.out)) hb); clear HB; have HB := n0_; clear n0_; (try clear hb); (try clear hb2); (try clear hk); (try clear hi)) | (go_at_call 19; (with_reducible refine (shard_First.calls t123 100 t126 _ A9.out).mono ?_); rintro e w24 ⟨rfl, hb⟩; have n0_ := Aside0.mk (below_step (by repeat (first | (with_reducible first | exact HB.out | apply below_alloc | apply pw_below_drewN | apply below_drew1) | exact HB.out)) hb); clear HB; have HB := n0_; clear n0_; (try clear hb); (try clear hb2); (try clear hk); (try clear hi)) | (go_at_call 19; (with_reducible refine (shard_First.calls t123 (-5) t127 _ A11.out).mono ?_); rintro e w25 ⟨rfl, hb⟩; have n0_ := Aside0.mk (below_step (by repeat (first | (with_reducible first | exact HB.out | apply below_alloc | apply pw_below_drewN | apply below_drew1) | exact HB.out)) hb); clear HB; have HB := n0_; clear n0_; (try clear hb); (try clear hb2); (try clear hk); (try clear hi)) | (go_at_call 19; (with_reducible refine (shard_First.calls (wrap64 ((-1) - t123)) a1 t128 _ A13.out).mono ?_); rintro e w26 ⟨rfl, hb⟩; have n0_ := Aside0.mk (below_step (by repeat (first | (with_reducible first | exact HB.out | apply below_alloc | apply pw_below_drewN | apply below_drew1) | exact HB.out)) hb); clear HB; have HB := n0_; clear n0_; (try clear hb); (try clear hb2); (try clear hk); (try clear hi)))
              go_meet
              case rel => exact ⟨_, (true), (by first | rfl | (simp; done) | (simp [*]; done)), H', ⟨by first | omega | exact Nat.le_refl _⟩, ⟨by repeat (first | (with_reducible first | exact HB.out | apply below_alloc | apply pw_below_drewN | apply below_drew1) | exact HB.out)⟩⟩
          · rw [if_neg c12] at H
            have c12b0 : (t127 == 0) = false := beq_eq_false_iff_ne.mpr c12
            have c12b1 : (t127 != 0) = true := bne_iff_ne.mpr c12
            have H' := Aside0.mk H
            clear H
            go_wp2_with (first | ((with_reducible refine gate_callee (f := 19) rfl ?_); refine goesL_ (some 11) rfl rfl Try.func19 (by kernel_rfl) rfl #[.int .i64 t123, .int .i64 1] rfl (by (try simp only [List.map_toArray, List.map_cons, List.map_nil]); first | done | rfl | (simp only [List.length_drop, List.length_take]; rfl)) ?_; (with_reducible refine (shard_First.calls t123 1 t124 _ A5.out).mono ?_); rintro e w27 ⟨rfl, hb⟩; refine ⟨_, rfl, ?_⟩; have n0_ := Aside0.mk (below_step (by repeat (first | (with_reducible first | exact HB.out | apply below_alloc | apply pw_below_drewN | apply below_drew1) | exact HB.out)) hb); clear HB; have HB := n0_; clear n0_; (try clear hb); (try clear hb2); (try clear hk); (try clear hi)) | (go_at_call 19; (with_reducible refine (shard_First.calls t123 8 t125 _ A7.out).mono ?_); rintro e w28 ⟨rfl, hb⟩; have n0_ := Aside0.mk (below_step (by repeat (first | (with_reducible first | exact HB.out | apply below_alloc | apply pw_below_drewN | apply below_drew1) | exact HB.out)) hb); clear HB; have HB := n0_; clear n0_; (try clear hb); (try clear hb2); (try clear hk); (try clear hi)) | (go_at_call 19; (with_reducible refine (shard_First.calls t123 100 t126 _ A9.out).mono ?_); rintro e w29 ⟨rfl, hb⟩; have n0_ := Aside0.mk (below_step (by repeat (first | (with_reducible first | exact HB.out | apply below_alloc | apply pw_below_drewN | apply below_drew1) | exact HB.out)) hb); clear HB; have HB := n0_; clear n0_; (try clear hb); (try clear hb2); (try clear hk); (try clear hi)) | (go_at_call 19; (with_reducible refine (shard_First.calls t123 (-5) t127 _ A11.out).mono ?_); rintro e w30 ⟨rfl, hb⟩; have n0_ := Aside0.mk (below_step (by repeat (first | (with_reducible first | exact HB.out | apply below_alloc | apply pw_below_drewN | apply below_drew1) | exact HB.out)) hb); clear HB; have HB := n0_; clear n0_; (try clear hb); (try clear hb2); (try clear hk); (try clear hi)))
            go_meet
            case rel => exact ⟨_, (true), (by first | rfl | (simp; done) | (simp [*]; done)), H', ⟨by first | omega | exact Nat.le_refl _⟩, ⟨by repeat (first | (with_reducible first | exact HB.out | apply below_alloc | apply pw_below_drewN | apply below_drew1) | exact HB.out)⟩⟩
        · rw [if_neg c10] at H
          have c10b0 : (t126 == (Int.tmod t123 8)) = false := beq_eq_false_iff_ne.mpr c10
          have c10b1 : (t126 != (Int.tmod t123 8)) = true := bne_iff_ne.mpr c10
          have H' := Aside0.mk H
          clear H
          go_wp2_with (first | ((with_reducible refine gate_callee (f := 19) rfl ?_); refine goesL_ (some 11) rfl rfl Try.func19 (by kernel_rfl) rfl #[.int .i64 t123, .int .i64 1] rfl (by (try simp only [List.map_toArray, List.map_cons, List.map_nil]); first | done | rfl | (simp only [List.length_drop, List.length_take]; rfl)) ?_; (with_reducible refine (shard_First.calls t123 1 t124 _ A5.out).mono ?_); rintro e w31 ⟨rfl, hb⟩; refine ⟨_, rfl, ?_⟩; have n0_ := Aside0.mk (below_step (by repeat (first | (with_reducible first | exact HB.out | apply below_alloc | apply pw_below_drewN | apply below_drew1) | exact HB.out)) hb); clear HB; have HB := n0_; clear n0_; (try clear hb); (try clear hb2); (try clear hk); (try clear hi)) | (go_at_call 19; (with_reducible refine (shard_First.calls t123 8 t125 _ A7.out).mono ?_); rintro e w32 ⟨rfl, hb⟩; have n0_ := Aside0.mk (below_step (by repeat (first | (with_reducible first | exact HB.out | apply below_alloc | apply pw_below_drewN | apply below_drew1) | exact HB.out)) hb); clear HB; have HB := n0_; clear n0_; (try clear hb); (try clear hb2); (try clear hk); (try clear hi)) | (go_at_call 19; (with_reducible refine (shard_First.calls t123 100 t126 _ A9.out).mono ?_); rintro e w33 ⟨rfl, hb⟩; have n0_ := Aside0.mk (below_step (by repeat (first | (with_reducible first | exact HB.out | apply below_alloc | apply pw_below_drewN | apply below_drew1) | exact HB.out)) hb); clear HB; have HB := n0_; clear n0_; (try clear hb); (try clear hb2); (try clear hk); (try clear hi)))
          go_meet
          case rel => exact ⟨_, (true), (by first | rfl | (simp; done) | (simp [*]; done)), H', ⟨by first | omega | exact Nat.le_refl _⟩, ⟨by repeat (first | (with_reducible first | exact HB.out | apply below_alloc | apply pw_below_drewN | apply below_drew1) | exact HB.out)⟩⟩
      · rw [if_neg c8] at H
        have c8b0 : (t125 == (Int.tmod t123 8)) = false := beq_eq_false_iff_ne.mpr c8
        have c8b1 : (t125 != (Int.tmod t123 8)) = true := bne_iff_ne.mpr c8
        have H' := Aside0.mk H
        clear H
        go_wp2_with (first | ((with_reducible refine gate_callee (f := 19) rfl ?_); refine goesL_ (some 11) rfl rfl Try.func19 (by kernel_rfl) rfl #[.int .i64 t123, .int .i64 1] rfl (by (try simp only [List.map_toArray, List.map_cons, List.map_nil]); first | done | rfl | (simp only [List.length_drop, List.length_take]; rfl)) ?_; (with_reducible refine (shard_First.calls t123 1 t124 _ A5.out).mono ?_); rintro e w34 ⟨rfl, hb⟩; refine ⟨_, rfl, ?_⟩; have n0_ := Aside0.mk (below_step (by repeat (first | (with_reducible first | exact HB.out | apply below_alloc | apply pw_below_drewN | apply below_drew1) | exact HB.out)) hb); clear HB; have HB := n0_; clear n0_; (try clear hb); (try clear hb2); (try clear hk); (try clear hi)) | (go_at_call 19; (with_reducible refine (shard_First.calls t123 8 t125 _ A7.out).mono ?_); rintro e w35 ⟨rfl, hb⟩; have n0_ := Aside0.mk (below_step (by repeat (first | (with_reducible first | exact HB.out | apply below_alloc | apply pw_below_drewN | apply below_drew1) | exact HB.out)) hb); clear HB; have HB := n0_; clear n0_; (try clear hb); (try clear hb2); (try clear hk); (try clear hi)))
        go_meet
        case rel => exact ⟨_, (true), (by first | rfl | (simp; done) | (simp [*]; done)), H', ⟨by first | omega | exact Nat.le_refl _⟩, ⟨by repeat (first | (with_reducible first | exact HB.out | apply below_alloc | apply pw_below_drewN | apply below_drew1) | exact HB.out)⟩⟩
    · rw [if_neg c6] at H
      have c6b0 : (t124 == 0) = false := beq_eq_false_iff_ne.mpr c6
      have c6b1 : (t124 != 0) = true := bne_iff_ne.mpr c6
      (first | rw [c6b0] | (simp only [i64_w, i32_w]; rw [c6b0]) | skip)
      have H' := Aside0.mk H
      clear H
      go_wp2_with (first | ((with_reducible refine gate_callee (f := 19) rfl ?_); refine goesL_ (some 11) rfl rfl Try.func19 (by kernel_rfl) rfl #[.int .i64 t123, .int .i64 1] rfl (by (try simp only [List.map_toArray, List.map_cons, List.map_nil]); first | done | rfl | (simp only [List.length_drop, List.length_take]; rfl)) ?_; (with_reducible refine (shard_First.calls t123 1 t124 _ A5.out).mono ?_); rintro e w36 ⟨rfl, hb⟩; refine ⟨_, rfl, ?_⟩; have n0_ := Aside0.mk (below_step (by repeat (first | (with_reducible first | exact HB.out | apply below_alloc | apply pw_below_drewN | apply below_drew1) | exact HB.out)) hb); clear HB; have HB := n0_; clear n0_; (try clear hb); (try clear hb2); (try clear hk); (try clear hi)))
      go_meet
      case rel => exact ⟨_, (true), (by first | rfl | (simp; done) | (simp [*]; done)), H', ⟨by first | omega | exact Nat.le_refl _⟩, ⟨by repeat (first | (with_reducible first | exact HB.out | apply below_alloc | apply pw_below_drewN | apply below_drew1) | exact HB.out)⟩⟩
  case rest =>
    clear HC4
    try clear c1
    try clear p2
    try clear c4
    try clear c6
    try clear c6b0
    try clear c6b1
    try clear p6
    try clear c8
    try clear c8b0
    try clear c8b1
    try clear c10
    try clear c10b0
    try clear c10b1
    try clear c12
    try clear c12b0
    try clear c12b1
    try clear c14
    try clear c14b0
    try clear c14b1
    try clear c16
    try clear c19
    obtain ⟨kq, x45_3, rfl, HA, HJ3, HB⟩ := hcut
    cases kq with
    | zero => exact absurd HA.out (by simp [clavigerlaw13_ShardMembers.j0])
    | succ kj3 =>
      have H := HA.out
      clear HA
      simp only [clavigerlaw13_ShardMembers.j0] at H
      by_cases c37 : x45_3 = true
      · subst c37
        have H1 : (some false) = some r := by rw [if_pos rfl] at H; exact H
        clear H
        have H := H1
        clear H1
        obtain rfl := Option.some.inj H
        go_wp2
        go_ret
        exact ⟨by first | rfl | (simp [errW_none, errW_some] <;> rfl) | (simp [*, errW_none, errW_some] <;> rfl), by repeat (first | (with_reducible first | exact HB.out | apply below_alloc | apply pw_below_drewN | apply below_drew1) | exact HB.out)⟩
      · replace c37 := Bool.eq_false_iff.mpr c37
        subst c37
        have H1 : ((clavigerbook_Within.f kj3 a1 1 8).bind fun t130 => ((shard_First.f t123 t130).bind fun t131 => (if t131 ≥ 0 then (if t131 < t130 then (if t130 = 0 then (none) else (if (Int.tmod (wrap64 (t123 - t131)) t130) = 0 then ((clavigerlaw13_known.f kj3).bind fun t132 => (some t132)) else (some false))) else (some false)) else (some false)))) = some r := by rw [if_neg (show ¬ (false = true) by decide)] at H; exact H
        clear H
        have H := H1
        clear H1
        replace H := Option.bind_eq_some_iff.mp H
        obtain ⟨t130, A380, H⟩ := H
        replace H : ((shard_First.f t123 t130).bind fun t131 => (if t131 ≥ 0 then (if t131 < t130 then (if t130 = 0 then (none) else (if (Int.tmod (wrap64 (t123 - t131)) t130) = 0 then ((clavigerlaw13_known.f kj3).bind fun t132 => (some t132)) else (some false))) else (some false)) else (some false))) = some r := H
        have A38 := Aside0.mk A380
        clear A380
        replace H := Option.bind_eq_some_iff.mp H
        obtain ⟨t131, A390, H⟩ := H
        replace H : (if t131 ≥ 0 then (if t131 < t130 then (if t130 = 0 then (none) else (if (Int.tmod (wrap64 (t123 - t131)) t130) = 0 then ((clavigerlaw13_known.f kj3).bind fun t132 => (some t132)) else (some false))) else (some false)) else (some false)) = some r := H
        have A39 := Aside0.mk A390
        clear A390
        by_cases c40 : t131 ≥ 0
        · rw [if_pos c40] at H
          have c40b0 : decide (0 ≤ t131) = true := decide_eq_true c40
          clear c40
          by_cases c41 : t131 < t130
          · rw [if_pos c41] at H
            have c41b0 : decide (t131 < t130) = true := decide_eq_true c41
            clear c41
            by_cases c42 : t130 = 0
            · rw [if_pos c42] at H
              exact absurd H (by simp)
            · rw [if_neg c42] at H
              have c42b0 : (t130 == 0) = false := beq_eq_false_iff_ne.mpr c42
              have c42b1 : (t130 != 0) = true := bne_iff_ne.mpr c42
              by_cases c43 : (Int.tmod (wrap64 (t123 - t131)) t130) = 0
              · rw [if_pos c43] at H
                have c43b0 : ((Int.tmod (wrap64 (t123 - t131)) t130) == 0) = true := beq_iff_eq.mpr c43
                have c43b1 : ((Int.tmod (wrap64 (t123 - t131)) t130) != 0) = false := bne_eq_false_iff_eq.mpr c43
                clear c43
                replace H := Option.bind_eq_some_iff.mp H
                obtain ⟨t132, A440, H⟩ := H
                replace H : (some t132) = some r := H
                have A44 := Aside0.mk A440
                clear A440
                obtain rfl := Option.some.inj H
                go_wp2_with (first | ((with_reducible refine gate_callee (f := 16) rfl ?_); refine goesL_ (some 47) rfl rfl Try.func16 (by kernel_rfl) rfl #[.int .i64 a1, .int .i64 1, .int .i64 8] rfl (by (try simp only [List.map_toArray, List.map_cons, List.map_nil]); first | done | rfl | (simp only [List.length_drop, List.length_take]; rfl)) ?_; (with_reducible refine (clavigerbook_Within.calls kj3 a1 1 8 t130 _ A38.out).mono ?_); rintro e w' ⟨rfl, ⟨nd, rfl⟩⟩; refine ⟨_, rfl, ?_⟩) | ((with_reducible refine gate_callee (f := 19) rfl ?_); refine goesL_ (some 50) rfl rfl Try.func19 (by kernel_rfl) rfl #[.int .i64 t123, .int .i64 t130] rfl (by (try simp only [List.map_toArray, List.map_cons, List.map_nil]); first | done | rfl | (simp only [List.length_drop, List.length_take]; rfl)) ?_; (with_reducible refine (shard_First.calls t123 t130 t131 _ A39.out).mono ?_); rintro e w45 ⟨rfl, hb⟩; refine ⟨_, rfl, ?_⟩; have n0_ := Aside0.mk (below_step (by repeat (first | (with_reducible first | exact HB.out | apply below_alloc | apply pw_below_drewN | apply below_drew1) | exact HB.out)) hb); clear HB; have HB := n0_; clear n0_; (try clear hb); (try clear hb2); (try clear hk); (try clear hi)) | (go_at_call 18; (with_reducible refine (clavigerlaw13_known.calls kj3  t132 _ A44.out).mono ?_); rintro e w46 ⟨rfl, hb⟩; have n0_ := Aside0.mk (below_step (by repeat (first | (with_reducible first | exact HB.out | apply below_alloc | apply pw_below_drewN | apply below_drew1) | exact HB.out)) hb); clear HB; have HB := n0_; clear n0_; (try clear hb); (try clear hb2); (try clear hk); (try clear hi)))
                go_ret
                exact ⟨by first | rfl | (simp [errW_none, errW_some] <;> rfl) | (simp [*, errW_none, errW_some] <;> rfl), by repeat (first | (with_reducible first | exact HB.out | apply below_alloc | apply pw_below_drewN | apply below_drew1) | exact HB.out)⟩
              · rw [if_neg c43] at H
                have c43b0 : ((Int.tmod (wrap64 (t123 - t131)) t130) == 0) = false := beq_eq_false_iff_ne.mpr c43
                have c43b1 : ((Int.tmod (wrap64 (t123 - t131)) t130) != 0) = true := bne_iff_ne.mpr c43
                obtain rfl := Option.some.inj H
                go_wp2_with (first | ((with_reducible refine gate_callee (f := 16) rfl ?_); refine goesL_ (some 47) rfl rfl Try.func16 (by kernel_rfl) rfl #[.int .i64 a1, .int .i64 1, .int .i64 8] rfl (by (try simp only [List.map_toArray, List.map_cons, List.map_nil]); first | done | rfl | (simp only [List.length_drop, List.length_take]; rfl)) ?_; (with_reducible refine (clavigerbook_Within.calls kj3 a1 1 8 t130 _ A38.out).mono ?_); rintro e w' ⟨rfl, ⟨nd, rfl⟩⟩; refine ⟨_, rfl, ?_⟩) | ((with_reducible refine gate_callee (f := 19) rfl ?_); refine goesL_ (some 50) rfl rfl Try.func19 (by kernel_rfl) rfl #[.int .i64 t123, .int .i64 t130] rfl (by (try simp only [List.map_toArray, List.map_cons, List.map_nil]); first | done | rfl | (simp only [List.length_drop, List.length_take]; rfl)) ?_; (with_reducible refine (shard_First.calls t123 t130 t131 _ A39.out).mono ?_); rintro e w47 ⟨rfl, hb⟩; refine ⟨_, rfl, ?_⟩; have n0_ := Aside0.mk (below_step (by repeat (first | (with_reducible first | exact HB.out | apply below_alloc | apply pw_below_drewN | apply below_drew1) | exact HB.out)) hb); clear HB; have HB := n0_; clear n0_; (try clear hb); (try clear hb2); (try clear hk); (try clear hi)))
                go_ret
                exact ⟨by first | rfl | (simp [errW_none, errW_some] <;> rfl) | (simp [*, errW_none, errW_some] <;> rfl), by repeat (first | (with_reducible first | exact HB.out | apply below_alloc | apply pw_below_drewN | apply below_drew1) | exact HB.out)⟩
          · rw [if_neg c41] at H
            have c41b0 : decide (t131 < t130) = false := decide_eq_false c41
            clear c41
            obtain rfl := Option.some.inj H
            go_wp2_with (first | ((with_reducible refine gate_callee (f := 16) rfl ?_); refine goesL_ (some 47) rfl rfl Try.func16 (by kernel_rfl) rfl #[.int .i64 a1, .int .i64 1, .int .i64 8] rfl (by (try simp only [List.map_toArray, List.map_cons, List.map_nil]); first | done | rfl | (simp only [List.length_drop, List.length_take]; rfl)) ?_; (with_reducible refine (clavigerbook_Within.calls kj3 a1 1 8 t130 _ A38.out).mono ?_); rintro e w' ⟨rfl, ⟨nd, rfl⟩⟩; refine ⟨_, rfl, ?_⟩) | ((with_reducible refine gate_callee (f := 19) rfl ?_); refine goesL_ (some 50) rfl rfl Try.func19 (by kernel_rfl) rfl #[.int .i64 t123, .int .i64 t130] rfl (by (try simp only [List.map_toArray, List.map_cons, List.map_nil]); first | done | rfl | (simp only [List.length_drop, List.length_take]; rfl)) ?_; (with_reducible refine (shard_First.calls t123 t130 t131 _ A39.out).mono ?_); rintro e w48 ⟨rfl, hb⟩; refine ⟨_, rfl, ?_⟩; have n0_ := Aside0.mk (below_step (by repeat (first | (with_reducible first | exact HB.out | apply below_alloc | apply pw_below_drewN | apply below_drew1) | exact HB.out)) hb); clear HB; have HB := n0_; clear n0_; (try clear hb); (try clear hb2); (try clear hk); (try clear hi)))
            go_ret
            exact ⟨by first | rfl | (simp [errW_none, errW_some] <;> rfl) | (simp [*, errW_none, errW_some] <;> rfl), by repeat (first | (with_reducible first | exact HB.out | apply below_alloc | apply pw_below_drewN | apply below_drew1) | exact HB.out)⟩
        · rw [if_neg c40] at H
          have c40b0 : decide (0 ≤ t131) = false := decide_eq_false c40
          clear c40
          obtain rfl := Option.some.inj H
          go_wp2_with (first | ((with_reducible refine gate_callee (f := 16) rfl ?_); refine goesL_ (some 47) rfl rfl Try.func16 (by kernel_rfl) rfl #[.int .i64 a1, .int .i64 1, .int .i64 8] rfl (by (try simp only [List.map_toArray, List.map_cons, List.map_nil]); first | done | rfl | (simp only [List.length_drop, List.length_take]; rfl)) ?_; (with_reducible refine (clavigerbook_Within.calls kj3 a1 1 8 t130 _ A38.out).mono ?_); rintro e w' ⟨rfl, ⟨nd, rfl⟩⟩; refine ⟨_, rfl, ?_⟩) | ((with_reducible refine gate_callee (f := 19) rfl ?_); refine goesL_ (some 50) rfl rfl Try.func19 (by kernel_rfl) rfl #[.int .i64 t123, .int .i64 t130] rfl (by (try simp only [List.map_toArray, List.map_cons, List.map_nil]); first | done | rfl | (simp only [List.length_drop, List.length_take]; rfl)) ?_; (with_reducible refine (shard_First.calls t123 t130 t131 _ A39.out).mono ?_); rintro e w49 ⟨rfl, hb⟩; refine ⟨_, rfl, ?_⟩; have n0_ := Aside0.mk (below_step (by repeat (first | (with_reducible first | exact HB.out | apply below_alloc | apply pw_below_drewN | apply below_drew1) | exact HB.out)) hb); clear HB; have HB := n0_; clear n0_; (try clear hb); (try clear hb2); (try clear hk); (try clear hi)))
          go_ret
          exact ⟨by first | rfl | (simp [errW_none, errW_some] <;> rfl) | (simp [*, errW_none, errW_some] <;> rfl), by repeat (first | (with_reducible first | exact HB.out | apply below_alloc | apply pw_below_drewN | apply below_drew1) | exact HB.out)⟩

/-- THE ONE PURE STATEMENT of clavigerlaw13_ShardMembers: yours. -/
def clavigerlaw13_ShardMembers.Pure : Prop := ∀ (a0 : Int) (a1 : Int), (Lit.int .i64 a0).wf = true → (Lit.int .i64 a1).wf = true → ∃ k, clavigerlaw13_ShardMembers.f k a0 a1 = some true
theorem clavigerlaw13_ShardMembers.walk (P : clavigerlaw13_ShardMembers.Pure) (a0 : Int) (a1 : Int) (w : World) (w0 : (Lit.int .i64 a0).wf = true) (w1 : (Lit.int .i64 a1).wf = true) :
    Calls Try.prog 4 #[.int .i64 a0, .int .i64 a1] w fun e w' => e = .returned (.bool true) ∧ Below w.heap.size w w' := by
  obtain ⟨k, h⟩ := P a0 a1 w0 w1
  refine (clavigerlaw13_ShardMembers.calls k a0 a1 true w h).mono ?_
  rintro e w' ⟨rfl, hd⟩
  exact ⟨rfl, hd⟩

end Go.Proofs.Ytlahigboaeadmaa.PShardMembers
