/- Journals: what is written. -/
import Derived.Test.YtmmaenfjnkoknaaGreatFjou
import Derived.Test.YtmmaenfjnkoknaaGreatIregister
import Derived.Test.YtmmaenfjnkoknaaGreatPK
import Derived.Test.YtmmaenfjnkoknaaGreatVC
set_option linter.unusedVariables false
set_option linter.unusedSimpArgs false
set_option maxRecDepth 100000
namespace Go.Proofs.YtmmaenfjnkoknaaGreat.VA
open Go
attribute [local irreducible] WK NK XK TK RK FK CK CFK CallRel C
attribute [local irreducible] sealF textF fits sumF rightR frec headF imgR frameF keepR putR RightR
theorem cRgr_ids (x : Rgr) : idsInL (cRgr x) = [] := idsL_closed _ (cRgr_closed x)
def imB (i : Nat) : List UInt8 := [by8 (i : Int), by8 7]
def imW (k : Bn 16) (i : Nat) : List UInt8 := sealF k (i + 1) adI (imB i)
def hdW (k : Bn 16) (l : List KR) : Nat → Bn 16
  | 0 => Bn.zero 16
  | i + 1 => if (i + 1) % 8 = 0 then sumF (imW k i) else headF (hdW k l i) (frameF k (i + 1) (hdW k l i) (keepR (l.getD i default)))
def frW (k : Bn 16) (l : List KR) (i : Nat) : List UInt8 := frameF k (i + 1) (hdW k l i) (keepR (l.getD i default))
def rgW (k : Bn 16) (l : List KR) (i : Nat) : Rgr := ⟨0, i, (8 * (i / 8) : Nat), hdW k l i, (i / 8 % 2 : Nat)⟩
def dkW (k : Bn 16) (l : List KR) : Nat → Dsk
  | 0 => Dsk.zero
  | i + 1 => if (i + 1) % 8 = 0 then putD (putD (dkW k l i) (2 + i % 8) (.of (frW k l i))) (1 - i / 8 % 2) (.of (imW k i)) else putD (dkW k l i) (2 + i % 8) (.of (frW k l i))
def rkW (k : Bn 16) (l : List KR) : Nat → Rsk
  | 0 => rsk0
  | i + 1 => if (i + 1) % 8 = 0 then putK (putK (rkW k l i) (2 + i % 8) (.of (frW k l i))) (1 - i / 8 % 2) (.of (imW k i)) else putK (rkW k l i) (2 + i % 8) (.of (frW k l i))
theorem dkW_ok (k : Bn 16) (l : List KR) : ∀ i, (dkW k l i).ok
  | 0 => dsk_zero
  | i + 1 => by
    unfold dkW; split
    · exact putD_ok (putD_ok (dkW_ok k l i) _ _) _ _
    · exact putD_ok (dkW_ok k l i) _ _
theorem rkW_ok (k : Bn 16) (l : List KR) : ∀ i, (rkW k l i).ok
  | 0 => rsk0_ok
  | i + 1 => by
    unfold rkW; split
    · exact putK_ok (putK_ok (rkW_ok k l i) _ _) _ _
    · exact putK_ok (rkW_ok k l i) _ _
theorem rgW_inv (k : Bn 16) (l : List KR) (j : Nat) : InvR j (rgW k l j) where
  b0 := by simp [rgW]
  b1 := by simp [rgW]
  c0 := by simp [rgW]; omega
  c1 := by simp [rgW]; omega
  c2 := by simp [rgW]
  c3 := by simp [rgW]; omega
  p := by simp only [rgW]; omega
  hd := by
    simp only [rgW]
    by_cases hj : j = 0
    · subst hj; exact .inr rfl
    · exact .inl (by omega)
theorem rgW_0 (k : Bn 16) (l : List KR) : rgW k l 0 = Rgr.zero := rfl
theorem rgW_held (k : Bn 16) (l : List KR) (j : Nat) (hj : j ≤ 200) : heldR (rgW k l j) = (j % 8 : Nat) := by
  rw [inv_held (by omega) (rgW_inv k l j)]; simp only [rgW]; omega
theorem stepW (k : Bn 16) (l : List KR) (i : Nat) (hi : i < 30) : ∃ r1 : Rgr, nextR (rgW k l i) (headF (hdW k l i) (frW k l i)) = (r1, true) ∧ r1.count = ((i + 1 : Nat) : Int) ∧ heldR (rgW k l i) = ((i % 8 : Nat) : Int) ∧ placeR (rgW k l i) = ((2 + i % 8 : Nat) : Int) ∧
    ((¬ (i + 1) % 8 = 0 ∧ heldR r1 < 8 ∧ r1 = rgW k l (i + 1)) ∨
     ((i + 1) % 8 = 0 ∧ heldR r1 = 8 ∧ placeR r1 = -1 ∧ r1.point = ((i / 8 % 2 : Nat) : Int) ∧ foldR r1 (sumF (imW k i)) = (rgW k l (i + 1), true))) := by
  have hI := rgW_inv k l i
  have hh := rgW_held k l i (by omega)
  have h8 : (rgW k l i).count - (rgW k l i).base < 8 := by simp only [rgW]; omega
  obtain ⟨e1, I1⟩ := inv_next (by omega) hI (headF (hdW k l i) (frW k l i)) h8
  have hp : placeR (rgW k l i) = ((2 + i % 8 : Nat) : Int) := by
    unfold placeR; rw [hh, if_neg (by omega)]; omega
  have hh1 := inv_held (by omega) I1
  refine ⟨_, e1, by simp only [rgW]; omega, hh, hp, ?_⟩
  by_cases hm : (i + 1) % 8 = 0
  · right
    have hb : ({ rgW k l i with count := (rgW k l i).count + 1, head := headF (hdW k l i) (frW k l i) } : Rgr).count - ({ rgW k l i with count := (rgW k l i).count + 1, head := headF (hdW k l i) (frW k l i) } : Rgr).base = 8 := by simp only [rgW]; omega
    rw [hb] at hh1
    obtain ⟨e2, _⟩ := inv_fold (by omega) I1 (sumF (imW k i)) (by rw [hb]; decide)
    refine ⟨hm, hh1, by unfold placeR; rw [hh1]; rfl, rfl, ?_⟩
    rw [e2]
    congr 1
    unfold rgW
    simp only [Rgr.mk.injEq]
    refine ⟨trivial, by omega, by omega, ?_, by omega⟩
    rw [hdW, if_pos hm]
  · left
    refine ⟨hm, by rw [hh1]; simp only [rgW]; omega, ?_⟩
    unfold rgW
    simp only [Rgr.mk.injEq]
    refine ⟨trivial, by omega, by omega, ?_, by omega⟩
    rw [hdW, if_neg hm]; rfl
theorem arg_refK {H : Heap} {ids : List Nat} {id : Nat} (k off : Nat) (h : ids[k]? = some id) : ArgRel H ids [] (.ref id off) (.ref k off) := by
  simp only [ArgRel]; exact ⟨k, h, rfl⟩
theorem arg_srefK {H : Heap} {ids : List Nat} {id : Nat} (k off n sz : Nat) (h : ids[k]? = some id) : ArgRel H ids [] (.sref id off n sz) (.sref k off n sz) := by
  simp only [ArgRel]; exact .inl ⟨k, h, rfl⟩
theorem out_upd2 {H : Heap} {v r : V} {C D : List V} (hb : blkAt H 0 = some C) (hb1 : blkAt H 1 = some D) (hC : ClosedL C) (hD : ClosedL D) (hv : v = r) (hr : Closed r) : OutOK 2 H v r [some C, some D] := by
  subst hv
  exact out_upd2B [] hb hb1 hD (fun id h => by cases h) (argL_closed _ hC) hr
theorem im_len (k : Bn 16) (i : Nat) : (imW k i).length ≤ 8192 := by
  unfold imW; have h2 : (imB i).length = 2 := rfl
  rw [seal_len _ _ _ _ (by rw [h2]; decide), h2]; decide
set_option maxHeartbeats 16000000 in
theorem write_C (k : Bn 16) (l : Lst KR) (hl : ∀ x ∈ l.l, x.fine) (t : Nat) (ht : t ≤ 30) :
    C Tryz.prog 9 [.agg (dg k), .ref 0 0, .ref 1 0, lstV cKR l, vi .i64 t] [cDsk Dsk.zero, cRsk rsk0]
      (.tup [.agg (cRgr (rgW k l.l (min l.l.length t))), vb true]) [some (cDsk (dkW k l.l (min l.l.length t))), some (cRsk (rkW k l.l (min l.l.length t)))] := by
  refine C_of mixed Tryz.func9 A_clavigerlaw10_write_ok A_clavigerlaw10_write_res _ A_clavigerlaw10_write_nt ?_
  (repeat' (first | simp (maxSteps := 2000000) -implicitDefEqProofs only [A_clavigerlaw10_write, len_lst, cells_lst, rk_ext, fk_ext, lrp, lr_api, lr_keep, lr_register, lr, lr2, oO, oN, oG, oNG, oM, oF, oL, rg, ci, seval, resAll, resL, resV, blkAt, undef, fillV, evParts, footOp, wrOp, chk, disj] | split))
  generalize hN : min l.l.length t = N
  refine wk_loop (fun m S H => ∃ i : Nat, i ≤ N ∧ m = N - i ∧ S = (.dead :: .ref 0 0 :: .ref 1 0 :: lstV cKR l :: vi .i64 t :: .ref 2 0 :: .dead :: .dead :: .dead :: .dead :: .ref 3 0 :: .dead :: .ref 4 0 :: vi .i64 i :: .dead :: .dead :: .dead :: .dead :: .dead :: .dead :: .dead :: .dead :: .dead :: .dead :: .dead :: .dead :: .dead :: .dead :: .dead :: .dead :: .dead :: .dead :: .dead :: .dead :: .dead :: .dead :: .dead :: .dead :: .dead :: .dead :: .dead :: .dead :: .dead :: .dead :: .dead :: .dead :: .dead :: .dead :: .dead :: .dead :: .dead :: .dead :: .dead :: .dead :: .dead :: .dead :: .dead :: .dead :: .dead :: .dead :: .dead :: .dead :: .dead :: .dead :: .dead :: .dead :: .dead :: .dead :: .dead :: .dead :: .dead :: .dead :: .dead :: .dead :: .dead :: .dead :: .dead :: .dead :: .dead :: .dead :: .dead :: .dead :: .dead :: .dead :: .dead :: .dead :: .dead :: .dead :: .dead :: .dead :: .dead :: .dead :: .dead :: .dead :: .dead :: .dead :: .dead :: .dead :: .dead :: .dead :: .dead :: .dead :: .dead :: .dead :: .dead :: .dead :: .dead :: .dead :: .dead :: .dead :: .dead :: .dead :: .dead :: .dead :: .dead :: .dead :: .dead :: .dead :: .dead :: .dead :: .dead :: .dead :: .dead :: .dead :: .dead :: .dead :: .dead :: .dead :: .dead :: .dead :: .dead :: .dead :: .dead :: .dead :: .dead :: .dead :: .dead :: .dead :: .dead :: .dead :: .dead :: .dead :: .dead :: .dead :: .dead :: .dead :: .dead :: .dead :: .dead :: .dead :: .dead :: .dead :: .dead :: .dead :: .dead :: .dead :: .dead :: []) ∧
    H = [some (cDsk (dkW k l.l i)), some (cRsk (rkW k l.l i)), some (dg k), some (cRgr Rgr.zero), some (cRgr (rgW k l.l i))]) N ⟨0, Nat.zero_le _, rfl, rfl, rfl⟩ (by refine .ren _ _ _ [0, 1, 2, 3, 4] (by decide) (by intro k h; first | exact absurd h (Nat.not_lt_zero k) | (simp at h; done) | (rcases k with _ | _ | _ | k <;> first | rfl | (exfalso; omega) | (simp at h; done))) ?_ ?_ <;> simp [KeepS, KeepH, ArgRel, ArgRelL, argL_cl, arg_cl, row_l_of, row_l_nil, bn_len, blkAt, dkW, rkW, rgW_0]) ?_
  rintro m S H ⟨i, hi, rfl, rfl, rfl⟩ J hJ
  have d0 : (0 : Int) ≤ i := by omega
  by_cases hin : i < N
  · have d1 : (i : Int) < l.l.length := by omega
    have d2 : (i : Int) < t := by omega
    have d3 : (i : Int) ≤ 255 := by omega
    have w1 : IntKind.i64.wrap ((i : Int) + 1) = ((i + 1 : Nat) : Int) := by rw [wrap_id _ (by omega) (by omega)]; omega
    have w2 : IntKind.u64.wrap ((i : Int) + 1) = ((i + 1 : Nat) : Int) := by rw [IntWalk.u64_in _ ⟨by omega, by omega⟩]; omega
    have w3 : IntKind.u8.wrap (i : Int) = i := by rw [IntKind.wrap_u8]; omega
    have w4 : IntKind.i64.wrap (2 + ((i % 8 : Nat) : Int)) = ((2 + i % 8 : Nat) : Int) := by rw [wrap_id _ (by omega) (by omega)]; omega
    have w5 : IntKind.i64.wrap (1 - ((i / 8 % 2 : Nat) : Int)) = ((1 - i / 8 % 2 : Nat) : Int) := by rw [wrap_id _ (by omega) (by omega)]; omega
    have hf : (l.l.getD i default).fine := by
      rw [List.getD_eq_getElem?_getD, List.getElem?_eq_getElem (by omega)]
      exact hl _ (List.getElem_mem _)
    have g1 := rd_flat cKR_len l.l i (by omega)
    have kx := keepR_C (l.l.getD i default) hf
    have kr := keepR_right (l.l.getD i default) hf
    have hfr : frW k l.l i = frameF k (i + 1) (hdW k l.l i) (keepR (l.l.getD i default)) := rfl
    have ks := fseal_C k (i + 1) (hdW k l.l i) (keepR (l.l.getD i default)) kr.1 kr.2.1
    have krf := rframe_C k (i + 1) (by omega) (hdW k l.l i) (keepR (l.l.getD i default)) kr.1 kr.2.1 kr.2.2.1
    have fl := frame_len (k := k) (n := i + 1) (prev := hdW k l.l i) kr.1
    have fp := putR_le kr.1
    rw [← hfr] at ks krf fl
    have ld : (frW k l.l i).length ≤ 8192 := by omega
    have kp := put_C (dkW k l.l i) (dkW_ok k l.l i) (2 + i % 8) (by omega) (.of (frW k l.l i)) ld
    have kq := rput_C (rkW k l.l i) (rkW_ok k l.l i) (2 + i % 8) (by omega) (.of (frW k l.l i)) ld
    have kh := fhead_C (hdW k l.l i) (.of (frW k l.l i)) (by rw [row_l_of]; omega)
    rw [row_l_of] at kh
    obtain ⟨r1, hn, hc1, hh, hpl, hcase⟩ := stepW k l.l i (by omega)
    have kn := next_C (rgW k l.l i) (headF (hdW k l.l i) (frW k l.l i))
    rw [hn] at kn
    have kpl := place_C (rgW k l.l i)
    rw [hpl] at kpl
    have khe := rheld_C (rgW k l.l i)
    rw [hh] at khe
    have kh1 := held_C r1
    have hcnt : (rgW k l.l i).count = (i : Int) := rfl
    have hhd : (rgW k l.l i).head = hdW k l.l i := rfl
    have hpt : (rgW k l.l i).point = ((i / 8 % 2 : Nat) : Int) := rfl
    have od := putD_ok (dkW_ok k l.l i) (2 + i % 8) (.of (frW k l.l i))
    have ok := putK_ok (rkW_ok k l.l i) (2 + i % 8) (.of (frW k l.l i))
    have eD : dkW k l.l (i + 1) = if (i + 1) % 8 = 0 then putD (putD (dkW k l.l i) (2 + i % 8) (.of (frW k l.l i))) (1 - i / 8 % 2) (.of (imW k i)) else putD (dkW k l.l i) (2 + i % 8) (.of (frW k l.l i)) := rfl
    have eK : rkW k l.l (i + 1) = if (i + 1) % 8 = 0 then putK (putK (rkW k l.l i) (2 + i % 8) (.of (frW k l.l i))) (1 - i / 8 % 2) (.of (imW k i)) else putK (rkW k l.l i) (2 + i % 8) (.of (frW k l.l i)) := rfl
    have hpf : ¬ placeR r1 = -1 → True := fun _ => trivial
    generalize hR2 : rgW k l.l (i + 1) = r2 at *
    generalize hD2 : dkW k l.l (i + 1) = D2 at *
    generalize hK2 : rkW k l.l (i + 1) = K2 at *
    generalize rgW k l.l i = r0 at *
    generalize putD (dkW k l.l i) (2 + i % 8) (.of (frW k l.l i)) = D1 at *
    generalize putK (rkW k l.l i) (2 + i % 8) (.of (frW k l.l i)) = K1 at *
    generalize dkW k l.l i = D0 at *
    generalize rkW k l.l i = K0 at *
    generalize headF (hdW k l.l i) (frW k l.l i) = h1 at *
    generalize hdW k l.l i = h0 at *
    generalize frW k l.l i = fr at *
    generalize keepR (l.l.getD i default) = x at *
    generalize l.l.getD i default = y at *
    rcases hcase with ⟨hm, h8, rfl⟩ | ⟨hm, h8, hp1, hpt1, hfo⟩
    · rw [if_neg hm] at eD eK
      subst eD eK
      (repeat' (first | simp (maxSteps := 2000000) -implicitDefEqProofs only [A_clavigerlaw10_write_L0, d0, d1, d2, w1, w2, w4, hcnt, hhd, h8, g1, idx_lst cKR_len, len_lst, cells_lst, rk_ext, fk_ext, lrp, lr_api, lr_keep, lr_register, lr, lr2, oO, oN, oG, oNG, oM, oF, oL, rg, ci, seval, resAll, resL, resV, blkAt, undef, fillV, evParts, footOp, wrOp, chk, disj] | split | ((first | apply ck_call | apply cfk_call); (first | (apply call_pure (kx) cll cl) | (apply call_pure (ks) cll cl) | (apply call_pure (kpl) cll cl) | (apply call_pure (khe) cll cl) | (apply call_upd (kp) rfl cll cll cll cl) | (apply call_pure (krf) cll cl) | (apply call_upd (kq) rfl cll cll cll cl) | (apply call_pure (kh) cll cl) | (apply call_pure (kn) cll cl) | (apply call_pure (kh1) cll cl)))))
      exact hJ _ _ _ _ _ (by omega) ⟨i + 1, by omega, rfl, rfl, rfl⟩ (by refine .ren _ _ _ [0, 1, 2, 3, 4] (by decide) (by intro k h; first | exact absurd h (Nat.not_lt_zero k) | (simp at h; done) | (rcases k with _ | _ | _ | k <;> first | rfl | (exfalso; omega) | (simp at h; done))) ?_ ?_ <;> simp [KeepS, KeepH, ArgRel, ArgRelL, argL_cl, arg_cl, row_l_of, row_l_nil, bn_len, blkAt, hR2, hD2, hK2])
    · rw [if_pos hm] at eD eK
      have s1 := jsealO_C k r1 (i + 1) hc1 (.of (imB i)) (by rw [row_l_of]; show 2 ≤ 8184; decide)
      have s2 := rImageO_C k r1 (i + 1) hc1 (by omega) (.of (imB i)) (by rw [row_l_of]; show 2 ≤ 8184; decide)
      rw [row_l_of, show sealF k (i + 1) adI (imB i) = imW k i from rfl] at s1 s2
      have kp1 := place_C r1
      rw [hp1] at kp1
      have kro := room_C r1
      rw [hpt1, w5] at kro
      have im8 := im_len k i
      have hib : imB i = [by8 (i : Int), by8 7] := rfl
      have P2 := put2_C D1 od (1 - i / 8 % 2) (by omega) (imW k i) im8
      have Q2 := rput2_C K1 ok (1 - i / 8 % 2) (by omega) (imW k i) im8
      have kfi := first_C (.of (imW k i)) im8
      have kfo := fold_C r1 (sumF (imW k i))
      rw [row_l_of] at kfi
      rw [hfo] at kfo
      rw [← eD] at P2
      rw [← eK] at Q2
      rw [hib] at s1 s2
      generalize imW k i = im at *
      generalize sumF im = hs at *
      (repeat' (first | simp (maxSteps := 2000000) -implicitDefEqProofs only [A_clavigerlaw10_write_L0, d0, d1, d2, d3, w1, w2, w3, w4, w5, hcnt, hhd, h8, g1, hpt1, idx_lst cKR_len, len_lst, cells_lst, rk_ext, fk_ext, lrp, lr_api, lr_keep, lr_register, lr, lr2, oO, oN, oG, oNG, oM, oF, oL, rg, ci, seval, resAll, resL, resV, blkAt, undef, fillV, evParts, footOp, wrOp, chk, disj] | split | ((first | apply ck_call | apply cfk_call); (first | (apply call_pure (kx) cll cl) | (apply call_pure (ks) cll cl) | (apply call_pure (kpl) cll cl) | (apply call_pure (khe) cll cl) | (apply call_upd (kp) rfl cll cll cll cl) | (apply call_pure (krf) cll cl) | (apply call_upd (kq) rfl cll cll cll cl) | (apply call_pure (kh) cll cl) | (apply call_pure (kn) cll cl) | (apply call_pure (kh1) cll cl) | (apply call_inT (s1); (simp [ids_nil, ids_cons, ids_sc, ids_agg, ids_dg, ids_bs, ids_row, ids_ints, ids_sref, ids_ref, ids_sl, cRgr_ids, blkAt] <;> fail); (repeat' (first | exact args_n | apply args_c | (first | exact arg_closed _ cl | (refine arg_rowA rfl mem ?_; (first | rfl | omega | (simp [bn_len] <;> fail) | (simp [bn_len]; omega))) | (refine arg_row rfl mem ?_; (first | rfl | omega | (simp [bn_len] <;> fail) | (simp [bn_len]; omega))) | (refine arg_fld mem ?_ ?_; (first | rfl | omega | (simp [bn_len] <;> fail) | (simp [bn_len]; omega)); (simp only [len_lst, cells_lst, rk_ext, fk_ext, lrp, lr_api, lr_keep, lr_register, blkAt, List.getD_cons_zero, List.getD_cons_succ, Option.bind_some, rd_sE] <;> fail))))); (first | exact cl | exact cll); (first | exact nr | exact nrl); (first | exact cl | exact cll); (first | exact nr | exact nrl)) | (apply call_pure (kp1) cll cl) | (apply call_roA_new (s2); (simp [ids_nil, ids_cons, ids_sc, ids_agg, ids_dg, ids_bs, ids_row, ids_ints, ids_sref, ids_ref, ids_sl, cRgr_ids, blkAt] <;> fail); (repeat' (first | exact args_n | apply args_c | (first | exact arg_closed _ cl | (refine arg_rowA rfl mem ?_; (first | rfl | omega | (simp [bn_len] <;> fail) | (simp [bn_len]; omega))) | (refine arg_row rfl mem ?_; (first | rfl | omega | (simp [bn_len] <;> fail) | (simp [bn_len]; omega))) | (refine arg_fld mem ?_ ?_; (first | rfl | omega | (simp [bn_len] <;> fail) | (simp [bn_len]; omega)); (simp only [len_lst, cells_lst, rk_ext, fk_ext, lrp, lr_api, lr_keep, lr_register, blkAt, List.getD_cons_zero, List.getD_cons_succ, Option.bind_some, rd_sE] <;> fail))))); (first | exact cl | exact cll); (first | exact nr | exact nrl)) | (apply call_pure (kro) cll cl)))))
      refine cfk_call _ _ (call_two (i := 0) (j := 8) (r2 := vb true) P2 (by decide) rfl rfl cll cll cll cll (argL_cons (arg_refK 0 0 rfl) (argL_cons (arg_closed _ cl) (argL_cons (arg_srefK 1 0 _ 1 rfl) argL_nil))) mem mem rfl) ?_
      (repeat' (first | simp (maxSteps := 2000000) -implicitDefEqProofs only [w1, w5, hpt1, cRgr_ids, len_lst, cells_lst, rk_ext, fk_ext, lrp, lr_api, lr_keep, lr_register, lr, lr2, oO, oN, oG, oNG, oM, oF, oL, rg, ci, seval, resAll, resL, resV, blkAt, undef, fillV, evParts, footOp, wrOp, chk, disj] | split))
      refine cfk_call _ _ (call_two (i := 1) (j := 8) (r2 := vb true) Q2 (by decide) rfl rfl cll cll cll cll (argL_cons (arg_refK 0 0 rfl) (argL_cons (arg_closed _ cl) (argL_cons (arg_srefK 1 0 _ 1 rfl) argL_nil))) mem mem rfl) ?_
      (repeat' (first | simp (maxSteps := 2000000) -implicitDefEqProofs only [w1, w5, hpt1, cRgr_ids, len_lst, cells_lst, rk_ext, fk_ext, lrp, lr_api, lr_keep, lr_register, lr, lr2, oO, oN, oG, oNG, oM, oF, oL, rg, ci, seval, resAll, resL, resV, blkAt, undef, fillV, evParts, footOp, wrOp, chk, disj] | split | ((first | apply ck_call | apply cfk_call); (first | (apply call_roA (kfi); (simp [ids_nil, ids_cons, ids_sc, ids_agg, ids_dg, ids_bs, ids_row, ids_ints, ids_sref, ids_ref, ids_sl, cRgr_ids, blkAt] <;> fail); (repeat' (first | exact args_n | apply args_c | (first | exact arg_closed _ cl | (refine arg_rowA rfl mem ?_; (first | rfl | omega | (simp [bn_len] <;> fail) | (simp [bn_len]; omega))) | (refine arg_row rfl mem ?_; (first | rfl | omega | (simp [bn_len] <;> fail) | (simp [bn_len]; omega))) | (refine arg_fld mem ?_ ?_; (first | rfl | omega | (simp [bn_len] <;> fail) | (simp [bn_len]; omega)); (simp only [len_lst, cells_lst, rk_ext, fk_ext, lrp, lr_api, lr_keep, lr_register, blkAt, List.getD_cons_zero, List.getD_cons_succ, Option.bind_some, rd_sE] <;> fail))))); (first | exact cl | exact cll); (first | exact nr | exact nrl)) | (apply call_pure (kfo) cll cl)))))
      exact hJ _ _ _ _ _ (by omega) ⟨i + 1, by omega, rfl, rfl, rfl⟩ (by refine .ren _ _ _ [0, 1, 2, 3, 4] (by decide) (by intro k h; first | exact absurd h (Nat.not_lt_zero k) | (simp at h; done) | (rcases k with _ | _ | _ | k <;> first | rfl | (exfalso; omega) | (simp at h; done))) ?_ ?_ <;> simp [KeepS, KeepH, ArgRel, ArgRelL, argL_cl, arg_cl, row_l_of, row_l_nil, bn_len, blkAt, hR2, hD2, hK2])
  · obtain rfl : i = N := by omega
    by_cases d1 : (i : Int) < l.l.length
    · have d2 : ¬ (i : Int) < t := by omega
      (repeat' (first | simp (maxSteps := 2000000) -implicitDefEqProofs only [A_clavigerlaw10_write_L0, K_clavigerlaw10_write_L0, d0, d1, d2, len_lst, cells_lst, rk_ext, fk_ext, lrp, lr_api, lr_keep, lr_register, lr, lr2, oO, oN, oG, oNG, oM, oF, oL, rg, ci, seval, resAll, resL, resV, blkAt, undef, fillV, evParts, footOp, wrOp, chk, disj] | split))
      exact out_upd2 rfl rfl cll cll rfl cl
    · (repeat' (first | simp (maxSteps := 2000000) -implicitDefEqProofs only [A_clavigerlaw10_write_L0, K_clavigerlaw10_write_L0, d0, d1, len_lst, cells_lst, rk_ext, fk_ext, lrp, lr_api, lr_keep, lr_register, lr, lr2, oO, oN, oG, oNG, oM, oF, oL, rg, ci, seval, resAll, resL, resV, blkAt, undef, fillV, evParts, footOp, wrOp, chk, disj] | split))
      exact out_upd2 rfl rfl cll cll rfl cl
end Go.Proofs.YtmmaenfjnkoknaaGreat.VA
