/- Texts of this proof, one behind the other: Lveil, Cveil, Dveil. -/
import Derived.Test.YtfpoebmihjbknaaGreatVC
import Derived.Test.YtfpoebmihjbknaaGreatPB
/- The compact code of veil, and of the document's. -/
set_option linter.unusedVariables false
set_option maxRecDepth 100000
namespace Go.Proofs.YtfpoebmihjbknaaGreat.VA
open Go
noncomputable section
def A_veil_hidden_L0 : ACode := (.seq (rg [oO 17 (.bin .lss (.t 16) (.t 15))]) (.seq (.cond (.t 17) .skip (.exit 0)) (.seq (.block 1 (.seq (rg [oM 18 16, oM 8 18]) (rg [oM 19 7, oM 20 8, oO 21 (.idxSl 1 (.t 19) (.t 20)), oL 22 21, oM 23 2, oM 24 8, oO 25 (.idxSl 1 (.t 23) (.t 24)), oL 26 25, oO 27 (.bin .xor (.t 22) (.t 26)), oO 28 (.idxSl 1 (.t 19) (.t 20)), oN (.store 1 (.t 28) (.t 27))]))) (rg [oO 29 (.bin .add (.t 16) (ci 1)), oM 16 29]))))
def A_veil_hidden : ACode := (.seq (rg [oO 3 (.box (.t 0)), oO 6 (.mov (.c (.slice none 0 0)))]) (.seq (rg [oO 9 (.load (some 16) (.t 3)), oM 10 1, oM 11 2, oO 12 (.lenSl (.t 11)), oO 13 (.call 96 [(.t 9), (.t 10), (.t 12)]), oM 7 13]) (.seq (.seq (rg [oM 14 7, oO 15 (.lenSl (.t 14)), oO 16 (.mov (ci 0))]) (.block 0 (.loop A_veil_hidden_L0))) (.seq (rg [oM 30 7, oM 6 30]) .ret))))
def K_veil_hidden_L0 : Kt := (.blk 0 (.seq (.seq (rg [oM 30 7, oM 6 30]) .ret) .fin))
theorem A_veil_hidden_ok : Tryz.f80.body.bind (cCode Tryz.prog) = some A_veil_hidden := by kernel_rfl
theorem A_veil_hidden_res : cRes Tryz.prog Tryz.f80.results.toList = some [(.tmp 6)] := by kernel_rfl
theorem A_veil_hidden_nt : Tryz.f80.ntmps = 31 := by kernel_rfl
def A_veil_mark : ACode := (.seq (rg [oO 4 (.box (.t 0)), oO 8 (.mov (.c (.slice none 0 0)))]) (.seq (rg [oO 10 (.load (some 16) (.t 4)), oO 11 (.load (some 16) (.t 4)), oO 12 (.call 97 [(.t 10), (.t 11)]), oM 13 1, oO 14 (.call 35 [(.t 13)]), oM 15 2, oO 16 (.lenSl (.t 15)), oO 17 (.conv .u64 (.t 16)), oO 18 (.call 35 [(.t 17)]), oM 19 2, oM 20 3, oO 21 (.buildSl 1 4 [(.slice none 0 0)] [(0, (1, (.t 14))), (1, (1, (.t 18))), (2, (1, (.t 19))), (3, (1, (.t 20)))]), oO 22 (.call 79 [(.t 21)]), oO 23 (.call 82 [(.t 12), (.t 22)]), oO 9 (.alloc z16), oN (.store 16 (.t 9) (.t 23))]) (.seq (rg [oO 24 (.sliceArr 16 1 (.t 9) none (some (ci 8))), oM 8 24]) .ret)))
theorem A_veil_mark_ok : Tryz.f81.body.bind (cCode Tryz.prog) = some A_veil_mark := by kernel_rfl
theorem A_veil_mark_res : cRes Tryz.prog Tryz.f81.results.toList = some [(.tmp 8)] := by kernel_rfl
theorem A_veil_mark_nt : Tryz.f81.ntmps = 25 := by kernel_rfl
def A_veil_Seal : ACode := (.seq (rg [oO 4 (.box (.t 0)), oO 8 (.mov (.c (.slice none 0 0)))]) (.seq (.seq (rg [oM 9 3, oO 10 (.lenSl (.t 9)), oO 11 (.bin .gtr (.t 10) (ci 8184)), oM 12 11, oG 13 (.mov (.t 2)) 12 false, oG 14 (.lenSl (.t 13)) 12 false, oG 15 (.bin .gtr (.t 14) (ci 8192)) 12 false, oO 16 (.pick (.t 12) (.c (.bool true)) (.t 15))]) (.cond (.t 16) (.seq (rg [oO 8 (.mov (.c (.slice none 0 0)))]) .ret) .skip)) (.seq (.region [(3, 4)] [oO 17 (.load (some 16) (.t 4)), oM 18 1, oM 19 3, oO 20 (.call 80 [(.t 17), (.t 18), (.t 19)]), oO 21 (.load (some 16) (.t 4)), oM 22 1, oM 23 2, oM 24 3, oO 25 (.call 81 [(.t 21), (.t 22), (.t 23), (.t 24)]), oO 26 (.append 1 1 (.t 20) (.t 25)), oM 8 26]) .ret)))
theorem A_veil_Seal_ok : Tryz.f61.body.bind (cCode Tryz.prog) = some A_veil_Seal := by kernel_rfl
theorem A_veil_Seal_res : cRes Tryz.prog Tryz.f61.results.toList = some [(.tmp 8)] := by kernel_rfl
theorem A_veil_Seal_nt : Tryz.f61.ntmps = 27 := by kernel_rfl
def A_veil_Open : ACode := (.seq (rg [oO 4 (.box (.t 0)), oO 8 (.mov (.c (.slice none 0 0))), oO 9 (.mov (ci 0))]) (.seq (.seq (rg [oM 12 3, oO 13 (.lenSl (.t 12)), oO 14 (.bin .lss (.t 13) (ci 8)), oM 15 14, oG 16 (.mov (.t 3)) 15 false, oG 17 (.lenSl (.t 16)) 15 false, oG 18 (.bin .gtr (.t 17) (ci 8192)) 15 false, oO 19 (.pick (.t 15) (.c (.bool true)) (.t 18)), oM 20 19, oG 21 (.mov (.t 2)) 20 false, oG 22 (.lenSl (.t 21)) 20 false, oG 23 (.bin .gtr (.t 22) (ci 8192)) 20 false, oO 24 (.pick (.t 20) (.c (.bool true)) (.t 23))]) (.cond (.t 24) (.seq (rg [oO 8 (.mov (.c (.slice none 0 0))), oO 9 (.mov (ci 30))]) .ret) .skip)) (.seq (rg [oM 25 3, oO 26 (.lenSl (.t 25)), oO 27 (.bin .sub (.t 26) (ci 8)), oM 10 27]) (.seq (rg [oO 28 (.load (some 16) (.t 4)), oM 29 1, oM 30 3, oM 31 10, oO 32 (.sliceSl 1 (.t 30) none (some (.t 31))), oO 33 (.call 80 [(.t 28), (.t 29), (.t 32)]), oM 11 33]) (.seq (.seq (.region [(4, 7)] [oO 34 (.load (some 16) (.t 4)), oM 35 1, oM 36 2, oM 37 11, oO 38 (.call 81 [(.t 34), (.t 35), (.t 36), (.t 37)]), oM 39 3, oM 40 10, oO 41 (.sliceSl 1 (.t 39) (some (.t 40)) none), oO 42 (.call 87 [(.t 38), (.t 41)]), oO 43 (.un .not (.t 42))]) (.cond (.t 43) (.seq (rg [oO 8 (.mov (.c (.slice none 0 0))), oO 9 (.mov (ci 30))]) .ret) .skip)) (.seq (rg [oM 44 11, oM 8 44, oO 9 (.mov (ci 0))]) .ret))))))
theorem A_veil_Open_ok : Tryz.f68.body.bind (cCode Tryz.prog) = some A_veil_Open := by kernel_rfl
theorem A_veil_Open_res : cRes Tryz.prog Tryz.f68.results.toList = some [(.tmp 8), (.tmp 9)] := by kernel_rfl
theorem A_veil_Open_nt : Tryz.f68.ntmps = 45 := by kernel_rfl
def A_clavigerref4_mark : ACode := (.seq (rg [oO 4 (.box (.t 0)), oO 8 (.mov (.c (.slice none 0 0)))]) (.seq (rg [oM 11 1, oO 12 (.call 36 [(.t 11)]), oM 13 2, oO 14 (.lenSl (.t 13)), oO 15 (.conv .u64 (.t 14)), oO 16 (.call 36 [(.t 15)]), oO 17 (.append 1 1 (.t 12) (.t 16)), oM 9 17]) (.seq (rg [oO 18 (.load (some 16) (.t 4)), oO 19 (.load (some 16) (.t 4)), oO 20 (.call 84 [(.t 18), (.t 19)]), oM 21 9, oM 22 2, oO 23 (.append 1 1 (.t 21) (.t 22)), oM 24 3, oO 25 (.append 1 1 (.t 23) (.t 24)), oO 26 (.call 65 [(.t 20), (.t 25)]), oO 10 (.alloc z16), oN (.store 16 (.t 10) (.t 26))]) (.seq (rg [oO 27 (.buildSl 1 0 z1 []), oO 28 (.sliceArr 16 1 (.t 10) none (some (ci 8))), oO 29 (.append 1 1 (.t 27) (.t 28)), oM 8 29]) .ret))))
theorem A_clavigerref4_mark_ok : Tryz.f64.body.bind (cCode Tryz.prog) = some A_clavigerref4_mark := by kernel_rfl
theorem A_clavigerref4_mark_res : cRes Tryz.prog Tryz.f64.results.toList = some [(.tmp 8)] := by kernel_rfl
theorem A_clavigerref4_mark_nt : Tryz.f64.ntmps = 30 := by kernel_rfl
def A_clavigerref4_xored_L0 : ACode := (.seq (.seq (rg [oM 18 9, oM 19 8, oO 20 (.lenSl (.t 19)), oO 21 (.bin .lss (.t 18) (.t 20))]) (.cond (.t 21) .skip (.exit 0))) (.seq (.block 1 (rg [oM 24 8, oM 25 9, oM 26 8, oM 27 9, oO 28 (.idxSl 1 (.t 26) (.t 27)), oL 29 28, oM 30 7, oM 31 9, oO 32 (.idxSl 1 (.t 30) (.t 31)), oL 33 32, oO 34 (.bin .xor (.t 29) (.t 33)), oO 35 (.idxSl 1 (.t 24) (.t 25)), oN (.store 1 (.t 35) (.t 34))])) (rg [oM 22 9, oO 23 (.bin .add (.t 22) (ci 1)), oM 9 23])))
def A_clavigerref4_xored : ACode := (.seq (rg [oO 3 (.box (.t 0)), oO 6 (.mov (.c (.slice none 0 0)))]) (.seq (rg [oO 10 (.load (some 16) (.t 3)), oM 11 1, oM 12 2, oO 13 (.lenSl (.t 12)), oO 14 (.call 83 [(.t 10), (.t 11), (.t 13)]), oM 7 14]) (.seq (rg [oO 15 (.buildSl 1 0 z1 []), oM 16 2, oO 17 (.append 1 1 (.t 15) (.t 16)), oM 8 17]) (.seq (.seq (rg [oO 9 (.mov (ci 0))]) (.block 0 (.loop A_clavigerref4_xored_L0))) (.seq (rg [oM 36 8, oM 6 36]) .ret)))))
def K_clavigerref4_xored_L0 : Kt := (.blk 0 (.seq (.seq (rg [oM 36 8, oM 6 36]) .ret) .fin))
theorem A_clavigerref4_xored_ok : Tryz.f63.body.bind (cCode Tryz.prog) = some A_clavigerref4_xored := by kernel_rfl
theorem A_clavigerref4_xored_res : cRes Tryz.prog Tryz.f63.results.toList = some [(.tmp 6)] := by kernel_rfl
theorem A_clavigerref4_xored_nt : Tryz.f63.ntmps = 37 := by kernel_rfl
def A_clavigerref4_Seal : ACode := (.seq (rg [oO 4 (.box (.t 0)), oO 8 (.mov (.c (.slice none 0 0)))]) (.seq (.seq (rg [oM 9 3, oO 10 (.lenSl (.t 9)), oO 11 (.bin .gtr (.t 10) (ci 8184)), oM 12 11, oG 13 (.mov (.t 2)) 12 false, oG 14 (.lenSl (.t 13)) 12 false, oG 15 (.bin .gtr (.t 14) (ci 8192)) 12 false, oO 16 (.pick (.t 12) (.c (.bool true)) (.t 15))]) (.cond (.t 16) (.seq (rg [oO 8 (.mov (.c (.slice none 0 0)))]) .ret) .skip)) (.seq (.region [(3, 4)] [oO 17 (.load (some 16) (.t 4)), oM 18 1, oM 19 3, oO 20 (.call 63 [(.t 17), (.t 18), (.t 19)]), oO 21 (.load (some 16) (.t 4)), oM 22 1, oM 23 2, oM 24 3, oO 25 (.call 64 [(.t 21), (.t 22), (.t 23), (.t 24)]), oO 26 (.append 1 1 (.t 20) (.t 25)), oM 8 26]) .ret)))
theorem A_clavigerref4_Seal_ok : Tryz.f41.body.bind (cCode Tryz.prog) = some A_clavigerref4_Seal := by kernel_rfl
theorem A_clavigerref4_Seal_res : cRes Tryz.prog Tryz.f41.results.toList = some [(.tmp 8)] := by kernel_rfl
theorem A_clavigerref4_Seal_nt : Tryz.f41.ntmps = 27 := by kernel_rfl
def A_clavigerref4_Open : ACode := (.seq (rg [oO 4 (.box (.t 0)), oO 8 (.mov (.c (.slice none 0 0))), oO 9 (.mov (ci 0))]) (.seq (.seq (rg [oM 11 3, oO 12 (.lenSl (.t 11)), oO 13 (.bin .lss (.t 12) (ci 8)), oM 14 13, oG 15 (.mov (.t 3)) 14 false, oG 16 (.lenSl (.t 15)) 14 false, oG 17 (.bin .gtr (.t 16) (ci 8192)) 14 false, oO 18 (.pick (.t 14) (.c (.bool true)) (.t 17)), oM 19 18, oG 20 (.mov (.t 2)) 19 false, oG 21 (.lenSl (.t 20)) 19 false, oG 22 (.bin .gtr (.t 21) (ci 8192)) 19 false, oO 23 (.pick (.t 19) (.c (.bool true)) (.t 22))]) (.cond (.t 23) (.seq (rg [oO 8 (.mov (.c (.slice none 0 0))), oO 9 (.mov (ci 30))]) .ret) .skip)) (.seq (rg [oO 24 (.load (some 16) (.t 4)), oM 25 1, oM 26 3, oM 27 3, oO 28 (.lenSl (.t 27)), oO 29 (.bin .sub (.t 28) (ci 8)), oO 30 (.sliceSl 1 (.t 26) none (some (.t 29))), oO 31 (.call 63 [(.t 24), (.t 25), (.t 30)]), oM 10 31]) (.seq (.seq (.region [(4, 10), (4, 11)] [oO 32 (.load (some 16) (.t 4)), oM 33 1, oM 34 2, oM 35 10, oO 36 (.call 64 [(.t 32), (.t 33), (.t 34), (.t 35)]), oO 37 (.toStr (.t 36)), oM 38 3, oM 39 3, oO 40 (.lenSl (.t 39)), oO 41 (.bin .sub (.t 40) (ci 8)), oO 42 (.sliceSl 1 (.t 38) (some (.t 41)) none), oO 43 (.toStr (.t 42)), oO 44 (.bin .neq (.t 37) (.t 43))]) (.cond (.t 44) (.seq (rg [oO 8 (.mov (.c (.slice none 0 0))), oO 9 (.mov (ci 30))]) .ret) .skip)) (.seq (rg [oM 45 10, oM 8 45, oO 9 (.mov (ci 0))]) .ret)))))
theorem A_clavigerref4_Open_ok : Tryz.f52.body.bind (cCode Tryz.prog) = some A_clavigerref4_Open := by kernel_rfl
theorem A_clavigerref4_Open_res : cRes Tryz.prog Tryz.f52.results.toList = some [(.tmp 8), (.tmp 9)] := by kernel_rfl
theorem A_clavigerref4_Open_nt : Tryz.f52.ntmps = 46 := by kernel_rfl
end
end Go.Proofs.YtfpoebmihjbknaaGreat.VA

/- Sealed bytes: the program's. -/
set_option linter.unusedVariables false
set_option linter.unusedSimpArgs false
set_option maxRecDepth 100000
namespace Go.Proofs.YtfpoebmihjbknaaGreat.VA
open Go
attribute [local irreducible] WK NK XK TK RK FK CK CFK CallRel C
def hidF (k : Bn 16) (n : Nat) (t : List UInt8) : List UInt8 := xorF (streamF k n t.length) t
theorem hid_len (k : Bn 16) (n : Nat) (t : List UInt8) (h : t.length ≤ 8192) : (hidF k n t).length = t.length := by
  rw [hidF, xor_len _ _ (stream_len k n _ h), stream_len k n _ h]
theorem hidden_C (k : Bn 16) (n : Nat) (t : Row) (h : t.l.length ≤ 8192) (h0 : 0 < t.l.length) : C Tryz.prog 80 [.agg (dg k), vi .u64 n, rowV t] [] (.sref 0 0 t.l.length 1) [some (bs (hidF k n t.l))] := by
  refine C_of mixed Tryz.func80 A_veil_hidden_ok A_veil_hidden_res _ A_veil_hidden_nt ?_
  have sl := stream_len k n t.l.length h
  (repeat' (first | simp (maxSteps := 2000000) -implicitDefEqProofs only [A_veil_hidden, lr, lr2, oO, oN, oG, oNG, oM, oF, oL, rg, ci, seval, resAll, resL, resV, blkAt, undef, fillV, evParts, footOp, wrOp, chk, disj] | split | ((first | apply ck_call | apply cfk_call); (first | (apply call_new (stream_C k n t.l.length t.l.length (by omega) h0) cll cll)))))
  refine wk_loop (fun m S H => ∃ i : Nat, i ≤ t.l.length ∧ m = t.l.length - i ∧ S = (.agg (dg k) :: vi .u64 n :: rowV t :: .ref 0 0 :: .dead :: .dead :: vnil :: .sref 1 0 t.l.length 1 :: .dead :: .dead :: .dead :: .dead :: .dead :: .dead :: .dead :: vi .i64 t.l.length :: vi .i64 i :: .dead :: .dead :: .dead :: .dead :: .dead :: .dead :: .dead :: .dead :: .dead :: .dead :: .dead :: .dead :: .dead :: .dead :: []) ∧ H = [some (dg k), some (bs (mixF i (streamF k n t.l.length) t.l))]) t.l.length ⟨0, Nat.zero_le _, rfl, rfl, rfl⟩ (by refine .ren _ _ _ [0, 1] (by decide) (by intro k h; first | exact absurd h (Nat.not_lt_zero k) | (simp at h; done) | (rcases k with _ | _ | _ | k <;> first | rfl | (exfalso; omega) | (simp at h; done))) ?_ ?_ <;> simp [KeepS, KeepH, ArgRel, ArgRelL, argL_cl, arg_cl, row_l_of, row_l_nil, bn_len, blkAt, mix_zero]) ?_
  rintro m S H ⟨i, hi, rfl, rfl, rfl⟩ J hJ
  have ml := mix_len (streamF k n t.l.length) t.l i sl
  have d0 : (0 : Int) ≤ i := by omega
  by_cases hil : i < t.l.length
  · have d1 : (i : Int) < t.l.length := by omega
    have d2 : i < (mixF i (streamF k n t.l.length) t.l).length := by rw [ml, sl]; exact hil
    have d3 : i + 1 ≤ (mixF i (streamF k n t.l.length) t.l).length := d2
    have w1 : IntKind.i64.wrap ((i : Int) + 1) = ((i + 1 : Nat) : Int) := by rw [wrap_id _ (by omega) (by omega)]; omega
    have g := mix_get (streamF k n t.l.length) t.l i sl (by rw [sl]; exact hil)
    have s := mix_set (streamF k n t.l.length) t.l i sl (by rw [sl]; exact hil)
    simp (maxSteps := 2000000) -implicitDefEqProofs only [A_veil_hidden_L0, d0, d1, d2, d3, hil, by8_nat, w1, g, s, rd_bs, lr, lr2, oO, oN, oG, oNG, oM, oF, oL, rg, ci, seval, resAll, resL, resV, blkAt, undef, fillV, evParts, footOp, wrOp, chk, disj]
    exact hJ _ _ _ _ _ (by omega) ⟨i + 1, by omega, rfl, rfl, rfl⟩ (by refine .ren _ _ _ [0, 1] (by decide) (by intro k h; first | exact absurd h (Nat.not_lt_zero k) | (simp at h; done) | (rcases k with _ | _ | _ | k <;> first | rfl | (exfalso; omega) | (simp at h; done))) ?_ ?_ <;> simp [KeepS, KeepH, ArgRel, ArgRelL, argL_cl, arg_cl, row_l_of, row_l_nil, bn_len, blkAt])
  · obtain rfl : i = t.l.length := by omega
    have d1 : ¬ ((t.l.length : Nat) : Int) < t.l.length := by omega
    have e : mixF t.l.length (streamF k n t.l.length) t.l = hidF k n t.l := by
      have := mix_all (streamF k n t.l.length) t.l sl
      rw [sl] at this; exact this
    simp (maxSteps := 2000000) -implicitDefEqProofs only [A_veil_hidden_L0, K_veil_hidden_L0, d1, e, lr, lr2, oO, oN, oG, oNG, oM, oF, oL, rg, ci, seval, resAll, resL, resV, blkAt, undef, fillV, evParts, footOp, wrOp, chk, disj]
    exact out_row rfl (bs_closed _)
theorem hiddenN_C (k : Bn 16) (n : Nat) (t : Row) (h : t.l.length = 0) : C Tryz.prog 80 [.agg (dg k), vi .u64 n, rowV t] [] vnil [] := by
  refine C_of mixed Tryz.func80 A_veil_hidden_ok A_veil_hidden_res _ A_veil_hidden_nt ?_
  (repeat' (first | simp (maxSteps := 2000000) -implicitDefEqProofs only [A_veil_hidden, h, lr, lr2, oO, oN, oG, oNG, oM, oF, oL, rg, ci, seval, resAll, resL, resV, blkAt, undef, fillV, evParts, footOp, wrOp, chk, disj] | split | ((first | apply ck_call | apply cfk_call); (first | (apply call_pure (streamN_C k n 0 (by decide)) cll cl)))))
  refine wk_unroll 1 ?_
  (repeat' (first | simp (maxSteps := 2000000) -implicitDefEqProofs only [A_veil_hidden_L0, lr, lr2, oO, oN, oG, oNG, oM, oF, oL, rg, ci, seval, resAll, resL, resV, blkAt, undef, fillV, evParts, footOp, wrOp, chk, disj] | split))
  all_goals (refine out_eq ?_ (cl); first | rfl | (simp_all []; done) | (simp_all []; intros; omega) | (simp []; (repeat' split) <;> first | rfl | omega | (simp_all; done) | (simp_all; intros; omega)))
def markF (k : Bn 16) (n : Nat) (ad t : List UInt8) : Bn 16 := keyedF (twoF k k) (numF n ++ (numF ad.length ++ (ad ++ t)))
theorem mark_C (k : Bn 16) (n : Nat) (ad t : Row) (ha : ad.l.length ≤ 8192) (h : t.l.length ≤ 8192) : C Tryz.prog 81 [.agg (dg k), vi .u64 n, rowV ad, rowV t] [] (.sref 0 0 8 1) [some (bs (markF k n ad.l t.l).1)] := by
  refine C_of mixed Tryz.func81 A_veil_mark_ok A_veil_mark_res _ A_veil_mark_nt ?_
  have ej : joinF [.of (numF n), .of (numF ad.l.length), ad, t] = numF n ++ (numF ad.l.length ++ (ad.l ++ t.l)) := by simp [joinF, row_l_of]
  have hl : (numF n ++ (numF ad.l.length ++ (ad.l ++ t.l))).length = 16 + (ad.l.length + t.l.length) := by simp [numF_len]; omega
  have cc := concat_C [.of (numF n), .of (numF ad.l.length), ad, t] (by simp) (by rw [ej, hl]; omega) (by rw [ej, hl]; omega)
  rw [ej] at cc
  have kc := keyed_C (twoF k k) (.of (numF n ++ (numF ad.l.length ++ (ad.l ++ t.l)))) (by rw [row_l_of, hl]; omega)
  have d1 : (0 : Int) ≤ ad.l.length := by omega
  have d2 : (ad.l.length : Int) ≤ 18446744073709551615 := by omega
  (repeat' (first | simp (maxSteps := 2000000) -implicitDefEqProofs only [A_veil_mark, d1, d2, lr, lr2, oO, oN, oG, oNG, oM, oF, oL, rg, ci, seval, resAll, resL, resV, blkAt, undef, fillV, evParts, footOp, wrOp, chk, disj] | split | ((first | apply ck_call | apply cfk_call); (first | (apply call_pure (two_C k k) cll cl) | (apply call_new (number_C n) cll cll) | (apply call_new (number_C ad.l.length) cll cll)))))
  ((first | apply ck_call | apply cfk_call); (apply call_rows_new (cc); rfl; rfl; rfl; (simp [ids_nil, ids_cons, ids_sc, ids_agg, ids_dg, ids_bs, ids_row, ids_ints, ids_sref, ids_ref, ids_sl, blkAt] <;> fail); (repeat' (first | exact seen_n | refine seen_c ?_ ?_ | (first | exact seen_rowV _ | (refine seen_rowA rfl ?_ ?_; (simp [ids_nil, ids_cons, ids_sc, ids_agg, ids_dg, ids_bs, ids_row, ids_ints, ids_sref, ids_ref, ids_sl] <;> fail); (first | rfl | omega | (simp <;> fail) | (simp; omega) | fail)) | (refine seen_row rfl ?_ ?_; (simp [ids_nil, ids_cons, ids_sc, ids_agg, ids_dg, ids_bs, ids_row, ids_ints, ids_sref, ids_ref, ids_sl] <;> fail); (first | rfl | omega | (simp <;> fail) | (simp; omega) | fail)) | (refine seen_fld ?_ ?_ ?_; (simp [ids_nil, ids_cons, ids_sc, ids_agg, ids_dg, ids_bs, ids_row, ids_ints, ids_sref, ids_ref, ids_sl] <;> fail); (first | rfl | omega | (simp <;> fail) | (simp; omega) | fail); (simp only [blkAt, List.getD_cons_zero, List.getD_cons_succ, Option.bind_some, rd_sE] <;> fail))))); (first | exact cl | exact cll); exact nrl))
  simp (maxSteps := 2000000) -implicitDefEqProofs only [lr, lr2, oO, oN, oG, oNG, oM, oF, oL, rg, ci, seval, resAll, resL, resV, blkAt, undef, fillV, evParts, footOp, wrOp, chk, disj]
  ((first | apply ck_call | apply cfk_call); (apply call_roA (kc); (simp [ids_nil, ids_cons, ids_sc, ids_agg, ids_dg, ids_bs, ids_row, ids_ints, ids_sref, ids_ref, ids_sl, blkAt] <;> fail); (repeat' (first | exact args_n | apply args_c | (first | exact arg_closed _ cl | (refine arg_rowA rfl mem ?_; (first | rfl | omega | (simp <;> fail) | (simp; omega))) | (refine arg_row rfl mem ?_; (first | rfl | omega | (simp <;> fail) | (simp; omega))) | (refine arg_fld mem ?_ ?_; (first | rfl | omega | (simp <;> fail) | (simp; omega)); (simp only [blkAt, List.getD_cons_zero, List.getD_cons_succ, Option.bind_some, rd_sE] <;> fail))))); (first | exact cl | exact cll); (first | exact nr | exact nrl)))
  simp (maxSteps := 2000000) -implicitDefEqProofs only [lr, lr2, oO, oN, oG, oNG, oM, oF, oL, rg, ci, seval, resAll, resL, resV, blkAt, undef, fillV, evParts, footOp, wrOp, chk, disj]
  exact out_row rfl (bs_closed _)
def sealF (k : Bn 16) (n : Nat) (ad t : List UInt8) : List UInt8 := hidF k n t ++ (markF k n ad t).1.take 8
theorem seal_len (k : Bn 16) (n : Nat) (ad t : List UInt8) (h : t.length ≤ 8192) : (sealF k n ad t).length = t.length + 8 := by
  rw [sealF, List.length_append, hid_len _ _ _ h, List.length_take, bn_len]; rfl
theorem hid_nil (k : Bn 16) (n : Nat) (t : List UInt8) (h : t.length = 0) : hidF k n t = [] := by
  obtain rfl := List.length_eq_zero_iff.1 h
  simp only [hidF, List.length_nil]
  cases streamF k n 0 <;> rfl
theorem seal_C (k : Bn 16) (n : Nat) (ad t : Row) (ha : ad.l.length ≤ 8192) (h : t.l.length ≤ 8184) : C Tryz.prog 61 [.agg (dg k), vi .u64 n, rowV ad, rowV t] [] (.sref 0 0 (sealF k n ad.l t.l).length 1) [some (bs (sealF k n ad.l t.l))] := by
  refine C_of mixed Tryz.func61 A_veil_Seal_ok A_veil_Seal_res _ A_veil_Seal_nt ?_
  have c1 : ¬ (t.l.length : Int) > 8184 := by omega
  have c2 : ¬ (ad.l.length : Int) > 8192 := by omega
  have b8 : 8 ≤ (markF k n ad.l t.l).1.length := by rw [bn_len]; decide
  have e8 : ((markF k n ad.l t.l).1.take 8).length = 8 := by rw [List.length_take, bn_len]; rfl
  have s8 := fun id => slB_bs (markF k n ad.l t.l).1 id 0 8 (by omega)
  rw [List.drop_zero, e8] at s8
  by_cases h0 : t.l.length = 0
  · have e : sealF k n ad.l t.l = (markF k n ad.l t.l).1.take 8 := by rw [sealF, hid_nil _ _ _ h0]; rfl
    rw [e, e8]
    (repeat' (first | simp (maxSteps := 2000000) -implicitDefEqProofs only [A_veil_Seal, c1, c2, s8, lr, lr2, oO, oN, oG, oNG, oM, oF, oL, rg, ci, seval, resAll, resL, resV, blkAt, undef, fillV, evParts, footOp, wrOp, chk, disj] | split | ((first | apply ck_call | apply cfk_call); (first | (apply call_pure (hiddenN_C k n t h0) cll cl) | (apply call_new (mark_C k n ad t ha (by omega)) cll cll)))))
    exact out_row rfl (bs_closed _)
  · have hl := hid_len k n t.l (by omega)
    have hs : Sm (hidF k n t.l) 8 := by simp only [Sm]; omega
    (repeat' (first | simp (maxSteps := 2000000) -implicitDefEqProofs only [A_veil_Seal, c1, c2, s8, hl, hs, e8, lr, lr2, oO, oN, oG, oNG, oM, oF, oL, rg, ci, seval, resAll, resL, resV, blkAt, undef, fillV, evParts, footOp, wrOp, chk, disj] | split | ((first | apply ck_call | apply cfk_call); (first | (apply call_new (hidden_C k n t (by omega) (by omega)) cll cll) | (apply call_new (mark_C k n ad t ha (by omega)) cll cll)))))
    exact out_row rfl (bs_closed _)
def textF (k : Bn 16) (n : Nat) (b : List UInt8) : List UInt8 := hidF k n (b.take (b.length - 8))
def fits (k : Bn 16) (n : Nat) (ad b : List UInt8) : Prop := 8 ≤ b.length ∧ b.length ≤ 8192 ∧ ad.length ≤ 8192 ∧ (markF k n ad (textF k n b)).1.take 8 = b.drop (b.length - 8)
theorem text_len (k : Bn 16) (n : Nat) (b : List UInt8) (h : b.length ≤ 8192) : (textF k n b).length = b.length - 8 := by
  rw [textF, hid_len _ _ _ (by rw [List.length_take]; omega), List.length_take]; omega
theorem openS_C (k : Bn 16) (n : Nat) (ad b : Row) (h : b.l.length < 8 ∨ 8192 < b.l.length ∨ 8192 < ad.l.length) : C Tryz.prog 68 [.agg (dg k), vi .u64 n, rowV ad, rowV b] [] (.tup [vnil, vi .i64 30]) [] := by
  refine C_of mixed Tryz.func68 A_veil_Open_ok A_veil_Open_res _ A_veil_Open_nt ?_
  by_cases c1 : (b.l.length : Int) < 8
  · (repeat' (first | simp (maxSteps := 2000000) -implicitDefEqProofs only [A_veil_Open, c1, lr, lr2, oO, oN, oG, oNG, oM, oF, oL, rg, ci, seval, resAll, resL, resV, blkAt, undef, fillV, evParts, footOp, wrOp, chk, disj] | split))
    all_goals (refine out_eq ?_ (cl); first | rfl | (simp_all []; done) | (simp_all []; intros; omega) | (simp []; (repeat' split) <;> first | rfl | omega | (simp_all; done) | (simp_all; intros; omega)))
  by_cases c2 : (b.l.length : Int) > 8192
  · (repeat' (first | simp (maxSteps := 2000000) -implicitDefEqProofs only [A_veil_Open, c1, c2, lr, lr2, oO, oN, oG, oNG, oM, oF, oL, rg, ci, seval, resAll, resL, resV, blkAt, undef, fillV, evParts, footOp, wrOp, chk, disj] | split))
    all_goals (refine out_eq ?_ (cl); first | rfl | (simp_all []; done) | (simp_all []; intros; omega) | (simp []; (repeat' split) <;> first | rfl | omega | (simp_all; done) | (simp_all; intros; omega)))
  have c3 : (ad.l.length : Int) > 8192 := by omega
  (repeat' (first | simp (maxSteps := 2000000) -implicitDefEqProofs only [A_veil_Open, c1, c2, c3, lr, lr2, oO, oN, oG, oNG, oM, oF, oL, rg, ci, seval, resAll, resL, resV, blkAt, undef, fillV, evParts, footOp, wrOp, chk, disj] | split))
  all_goals (refine out_eq ?_ (cl); first | rfl | (simp_all []; done) | (simp_all []; intros; omega) | (simp []; (repeat' split) <;> first | rfl | omega | (simp_all; done) | (simp_all; intros; omega)))
theorem open_walk (k : Bn 16) (n : Nat) (ad b : Row) (h : 8 < b.l.length) (h1 : b.l.length ≤ 8192) (h2 : ad.l.length ≤ 8192) (v : V) (H : Heap)
    (hv : if (markF k n ad.l (textF k n b.l)).1.take 8 = b.l.drop (b.l.length - 8) then v = .tup [.sref 0 0 (b.l.length - 8) 1, vi .i64 0] ∧ H = [some (bs (textF k n b.l))] else v = .tup [vnil, vi .i64 30] ∧ H = []) :
    C Tryz.prog 68 [.agg (dg k), vi .u64 n, rowV ad, rowV b] [] v H := by
  refine C_of mixed Tryz.func68 A_veil_Open_ok A_veil_Open_res _ A_veil_Open_nt ?_
  have c1 : ¬ (b.l.length : Int) < 8 := by omega
  have c2 : ¬ (b.l.length : Int) > 8192 := by omega
  have c3 : ¬ (ad.l.length : Int) > 8192 := by omega
  have w1 : IntKind.i64.wrap ((b.l.length : Int) - 8) = ((b.l.length - 8 : Nat) : Int) := by rw [wrap_id _ (by omega) (by omega)]; omega
  have d1 : (0 : Int) ≤ ((b.l.length - 8 : Nat) : Int) := by omega
  have d2 : ((b.l.length - 8 : Nat) : Int) ≤ b.l.length := by omega
  have ec : (b.cut 0 (b.l.length - 8)).l = b.l.take (b.l.length - 8) := by rw [cut_l, List.drop_zero, Nat.sub_zero]
  have el : (b.l.take (b.l.length - 8)).length = b.l.length - 8 := by rw [List.length_take]; omega
  have ed : (b.cut (b.l.length - 8) b.l.length).l = b.l.drop (b.l.length - 8) := by rw [cut_l, List.take_of_length_le (by rw [List.length_drop]; omega)]
  have tl := text_len k n b.l h1
  have hc := hidden_C k n (b.cut 0 (b.l.length - 8)) (by rw [ec, el]; omega) (by rw [ec, el]; omega)
  rw [ec, el] at hc
  rw [show hidF k n (b.l.take (b.l.length - 8)) = textF k n b.l from rfl] at hc
  have mc := mark_C k n ad (.of (textF k n b.l)) h2 (by rw [row_l_of, tl]; omega)
  have sc := same_C (.of (((markF k n ad.l (textF k n b.l)).1.drop 0).take 8)) (b.cut (b.l.length - 8) b.l.length)
  rw [row_l_of, ed] at sc
  split at hv
  all_goals
    rename_i hm
    obtain ⟨rfl, rfl⟩ := hv
    (repeat' (first | simp (maxSteps := 2000000) -implicitDefEqProofs only [A_veil_Open, c1, c2, c3, w1, d1, d2, hm, lr, lr2, oO, oN, oG, oNG, oM, oF, oL, rg, ci, seval, resAll, resL, resV, blkAt, undef, fillV, evParts, footOp, wrOp, chk, disj] | split | ((first | apply ck_call | apply cfk_call); (first | (apply call_new (hc) cll cll) | (apply call_roA_new (mc); (simp [ids_nil, ids_cons, ids_sc, ids_agg, ids_dg, ids_bs, ids_row, ids_ints, ids_sref, ids_ref, ids_sl, blkAt] <;> fail); (repeat' (first | exact args_n | apply args_c | (first | exact arg_closed _ cl | (refine arg_rowA rfl mem ?_; (first | rfl | omega | (simp [bn_len] <;> fail) | (simp [bn_len]; omega))) | (refine arg_row rfl mem ?_; (first | rfl | omega | (simp [bn_len] <;> fail) | (simp [bn_len]; omega))) | (refine arg_fld mem ?_ ?_; (first | rfl | omega | (simp [bn_len] <;> fail) | (simp [bn_len]; omega)); (simp only [blkAt, List.getD_cons_zero, List.getD_cons_succ, Option.bind_some, rd_sE] <;> fail))))); (first | exact cl | exact cll); (first | exact nr | exact nrl)) | (apply call_roA (sc); (simp [ids_nil, ids_cons, ids_sc, ids_agg, ids_dg, ids_bs, ids_row, ids_ints, ids_sref, ids_ref, ids_sl, blkAt] <;> fail); (repeat' (first | exact args_n | apply args_c | (first | exact arg_closed _ cl | (refine arg_rowA rfl mem ?_; (first | rfl | omega | (simp [bn_len] <;> fail) | (simp [bn_len]; omega))) | (refine arg_row rfl mem ?_; (first | rfl | omega | (simp [bn_len] <;> fail) | (simp [bn_len]; omega))) | (refine arg_fld mem ?_ ?_; (first | rfl | omega | (simp [bn_len] <;> fail) | (simp [bn_len]; omega)); (simp only [blkAt, List.getD_cons_zero, List.getD_cons_succ, Option.bind_some, rd_sE] <;> fail))))); (first | exact cl | exact cll); (first | exact nr | exact nrl))))))
  · exact out_rowT rfl trivial (bs_closed _)
  · all_goals (refine out_eq ?_ (cl); first | rfl | (simp_all []; done) | (simp_all []; intros; omega) | (simp []; (repeat' split) <;> first | rfl | omega | (simp_all; done) | (simp_all; intros; omega)))
theorem openN_C (k : Bn 16) (n : Nat) (ad b : Row) (h : b.l.length = 8) (h2 : ad.l.length ≤ 8192) :
    C Tryz.prog 68 [.agg (dg k), vi .u64 n, rowV ad, rowV b] [] (.tup [vnil, vi .i64 (if (markF k n ad.l []).1.take 8 = b.l then 0 else 30)]) [] := by
  refine C_of mixed Tryz.func68 A_veil_Open_ok A_veil_Open_res _ A_veil_Open_nt ?_
  have c3 : ¬ (ad.l.length : Int) > 8192 := by omega
  have ec : (b.cut 0 0).l = [] := by rw [cut_l]; rfl
  have ed : (b.cut 8 8).l.length = 0 := by rw [cut_l]; simp
  have ed : (b.cut 0 8).l = b.l := by rw [cut_l, List.drop_zero, List.take_of_length_le (by omega)]
  have mc := mark_C k n ad .nil h2 (by decide)
  have sc := same_C (.of (((markF k n ad.l []).1.drop 0).take 8)) (b.cut 0 8)
  rw [row_l_of, ed] at sc
  rw [row_l_nil] at mc
  split
  all_goals
    rename_i hm
    (repeat' (first | simp (maxSteps := 2000000) -implicitDefEqProofs only [A_veil_Open, h, c3, hm, lr, lr2, oO, oN, oG, oNG, oM, oF, oL, rg, ci, seval, resAll, resL, resV, blkAt, undef, fillV, evParts, footOp, wrOp, chk, disj] | split | ((first | apply ck_call | apply cfk_call); (first | (apply call_pure (hiddenN_C k n (b.cut 0 0) (by rw [ec]; rfl)) cll cl) | (apply call_roA_new (mc); (simp [ids_nil, ids_cons, ids_sc, ids_agg, ids_dg, ids_bs, ids_row, ids_ints, ids_sref, ids_ref, ids_sl, blkAt] <;> fail); (repeat' (first | exact args_n | apply args_c | (first | exact arg_closed _ cl | (refine arg_rowA rfl mem ?_; (first | rfl | omega | (simp [bn_len] <;> fail) | (simp [bn_len]; omega))) | (refine arg_row rfl mem ?_; (first | rfl | omega | (simp [bn_len] <;> fail) | (simp [bn_len]; omega))) | (refine arg_fld mem ?_ ?_; (first | rfl | omega | (simp [bn_len] <;> fail) | (simp [bn_len]; omega)); (simp only [blkAt, List.getD_cons_zero, List.getD_cons_succ, Option.bind_some, rd_sE] <;> fail))))); (first | exact cl | exact cll); (first | exact nr | exact nrl)) | (apply call_roA (sc); (simp [ids_nil, ids_cons, ids_sc, ids_agg, ids_dg, ids_bs, ids_row, ids_ints, ids_sref, ids_ref, ids_sl, blkAt] <;> fail); (repeat' (first | exact args_n | apply args_c | (first | exact arg_closed _ cl | (refine arg_rowA rfl mem ?_; (first | rfl | omega | (simp [bn_len] <;> fail) | (simp [bn_len]; omega))) | (refine arg_row rfl mem ?_; (first | rfl | omega | (simp [bn_len] <;> fail) | (simp [bn_len]; omega))) | (refine arg_fld mem ?_ ?_; (first | rfl | omega | (simp [bn_len] <;> fail) | (simp [bn_len]; omega)); (simp only [blkAt, List.getD_cons_zero, List.getD_cons_succ, Option.bind_some, rd_sE] <;> fail))))); (first | exact cl | exact cll); (first | exact nr | exact nrl))))))
    all_goals (refine out_eq ?_ (cl); first | rfl | (simp_all []; done) | (simp_all []; intros; omega) | (simp []; (repeat' split) <;> first | rfl | omega | (simp_all; done) | (simp_all; intros; omega)))
theorem open_C (k : Bn 16) (n : Nat) (ad b : Row) (h8 : 8 < b.l.length) (h : fits k n ad.l b.l) : C Tryz.prog 68 [.agg (dg k), vi .u64 n, rowV ad, rowV b] [] (.tup [.sref 0 0 (b.l.length - 8) 1, vi .i64 0]) [some (bs (textF k n b.l))] :=
  open_walk k n ad b h8 h.2.1 h.2.2.1 _ _ (by rw [if_pos h.2.2.2]; exact ⟨rfl, rfl⟩)
theorem text_8 (k : Bn 16) (n : Nat) (b : List UInt8) (h : b.length = 8) : textF k n b = [] := by
  rw [textF, h]; exact hid_nil _ _ _ (by rw [List.length_take]; omega)
theorem open8_C (k : Bn 16) (n : Nat) (ad b : Row) (h8 : b.l.length = 8) (h : fits k n ad.l b.l) : C Tryz.prog 68 [.agg (dg k), vi .u64 n, rowV ad, rowV b] [] (.tup [vnil, vi .i64 0]) [] := by
  have := openN_C k n ad b h8 h.2.2.1
  obtain ⟨_, _, _, h4⟩ := h
  rw [text_8 k n b.l h8, h8, Nat.sub_self, List.drop_zero] at h4
  rwa [if_pos h4] at this
theorem openE_C (k : Bn 16) (n : Nat) (ad b : Row) (h : ¬ fits k n ad.l b.l) : C Tryz.prog 68 [.agg (dg k), vi .u64 n, rowV ad, rowV b] [] (.tup [vnil, vi .i64 30]) [] := by
  by_cases hb : b.l.length < 8 ∨ 8192 < b.l.length ∨ 8192 < ad.l.length
  · exact openS_C k n ad b hb
  have hn : ¬ (markF k n ad.l (textF k n b.l)).1.take 8 = b.l.drop (b.l.length - 8) := fun e => h ⟨by omega, by omega, by omega, e⟩
  by_cases h8 : b.l.length = 8
  · have := openN_C k n ad b h8 (by omega)
    rw [text_8 k n b.l h8, h8, Nat.sub_self, List.drop_zero] at hn
    rwa [if_neg hn] at this
  · exact open_walk k n ad b (by omega) (by omega) (by omega) _ _ (by rw [if_neg hn]; exact ⟨rfl, rfl⟩)
end Go.Proofs.YtfpoebmihjbknaaGreat.VA

/- Sealed bytes: the document's. -/
set_option linter.unusedVariables false
set_option linter.unusedSimpArgs false
set_option maxRecDepth 100000
namespace Go.Proofs.YtfpoebmihjbknaaGreat.VA
open Go
attribute [local irreducible] WK NK XK TK RK FK CK CFK CallRel C
theorem chunk_get (k : Bn 16) (n c i : Nat) (h : c ≤ 8192) (hi : i < c) : (chunksF k n ((c + 15) / 16)).getD i 0 = (streamF k n c).getD i 0 := by
  rw [← stream_of k n c ((c + 15) / 16) (by omega) (by omega), List.getD_eq_getElem?_getD, List.getD_eq_getElem?_getD, List.getElem?_take_of_lt hi]
theorem xored_C (k : Bn 16) (n : Nat) (hn : n < 18446744073709551616) (t : Row) (h : t.l.length ≤ 8192) : C Tryz.prog 63 [.agg (dg k), vi .u64 n, rowV t] [] (.sref 0 0 t.l.length 1) [some (bs (hidF k n t.l))] := by
  refine C_of mixed Tryz.func63 A_clavigerref4_xored_ok A_clavigerref4_xored_res _ A_clavigerref4_xored_nt ?_
  have sl := stream_len k n t.l.length h
  have hs1 : t.l.length ≤ 140737488355328 := by omega
  by_cases h0 : t.l.length = 0
  · have e : hidF k n t.l = [] := hid_nil k n t.l h0
    have et : t.l = [] := List.length_eq_zero_iff.1 h0
    rw [e, et]
    (repeat' (first | simp (maxSteps := 2000000) -implicitDefEqProofs only [A_clavigerref4_xored, et, lr, lr2, oO, oN, oG, oNG, oM, oF, oL, rg, ci, seval, resAll, resL, resV, blkAt, undef, fillV, evParts, footOp, wrOp, chk, disj] | split | ((first | apply ck_call | apply cfk_call); (first | (apply call_pure (rstreamN_C k n 0 (by decide)) cll cl)))))
    refine wk_unroll 1 ?_
    (repeat' (first | simp (maxSteps := 2000000) -implicitDefEqProofs only [A_clavigerref4_xored_L0, lr, lr2, oO, oN, oG, oNG, oM, oF, oL, rg, ci, seval, resAll, resL, resV, blkAt, undef, fillV, evParts, footOp, wrOp, chk, disj] | split))
    exact out_row rfl (bs_closed _)
  (repeat' (first | simp (maxSteps := 2000000) -implicitDefEqProofs only [A_clavigerref4_xored, hs1, lr, lr2, oO, oN, oG, oNG, oM, oF, oL, rg, ci, seval, resAll, resL, resV, blkAt, undef, fillV, evParts, footOp, wrOp, chk, disj] | split | ((first | apply ck_call | apply cfk_call); (first | (apply call_new (rstream_C k n t.l.length t.l.length hn (by omega) (by omega)) cll cll)))))
  refine wk_loop (fun m S H => ∃ i : Nat, i ≤ t.l.length ∧ m = t.l.length - i ∧ S = (.agg (dg k) :: vi .u64 n :: rowV t :: .ref 0 0 :: .dead :: .dead :: vnil :: .sref 1 0 t.l.length 1 :: .sref 2 0 t.l.length 1 :: vi .i64 i :: .dead :: .dead :: .dead :: .dead :: .dead :: .dead :: .dead :: .dead :: .dead :: .dead :: .dead :: .dead :: .dead :: .dead :: .dead :: .dead :: .dead :: .dead :: .dead :: .dead :: .dead :: .dead :: .dead :: .dead :: .dead :: .dead :: .dead :: []) ∧ H = [some (dg k), some (bs (chunksF k n ((t.l.length + 15) / 16))), some (bs (mixF i t.l (streamF k n t.l.length)))]) t.l.length ⟨0, Nat.zero_le _, rfl, rfl, rfl⟩ (by refine .ren _ _ _ [0, 1, 3] (by decide) (by intro k h; first | exact absurd h (Nat.not_lt_zero k) | (simp at h; done) | (rcases k with _ | _ | _ | k <;> first | rfl | (exfalso; omega) | (simp at h; done))) ?_ ?_ <;> simp [KeepS, KeepH, ArgRel, ArgRelL, argL_cl, arg_cl, row_l_of, row_l_nil, bn_len, blkAt, mix_zero]) ?_
  rintro m S H ⟨i, hi, rfl, rfl, rfl⟩ J hJ
  have ml := mix_len t.l (streamF k n t.l.length) i sl.symm
  have d0 : (0 : Int) ≤ i := by omega
  by_cases hil : i < t.l.length
  · have d1 : (i : Int) < t.l.length := by omega
    have d2 : i < (mixF i t.l (streamF k n t.l.length)).length := by rw [ml]; exact hil
    have d3 : i + 1 ≤ (mixF i t.l (streamF k n t.l.length)).length := d2
    have d4 : i < (chunksF k n ((t.l.length + 15) / 16)).length := by rw [chunks_len]; omega
    have w1 : IntKind.i64.wrap ((i : Int) + 1) = ((i + 1 : Nat) : Int) := by rw [wrap_id _ (by omega) (by omega)]; omega
    have g := mix_get t.l (streamF k n t.l.length) i sl.symm hil
    have g2 := chunk_get k n t.l.length i h hil
    have s := mix_set t.l (streamF k n t.l.length) i sl.symm hil
    simp (maxSteps := 2000000) -implicitDefEqProofs only [A_clavigerref4_xored_L0, d0, d1, d2, d3, d4, hil, w1, g, g2, s, rd_bs, by8_nat, lr, lr2, oO, oN, oG, oNG, oM, oF, oL, rg, ci, seval, resAll, resL, resV, blkAt, undef, fillV, evParts, footOp, wrOp, chk, disj]
    exact hJ _ _ _ _ _ (by omega) ⟨i + 1, by omega, rfl, rfl, rfl⟩ (by refine .ren _ _ _ [0, 1, 2] (by decide) (by intro k h; first | exact absurd h (Nat.not_lt_zero k) | (simp at h; done) | (rcases k with _ | _ | _ | k <;> first | rfl | (exfalso; omega) | (simp at h; done))) ?_ ?_ <;> simp [KeepS, KeepH, ArgRel, ArgRelL, argL_cl, arg_cl, row_l_of, row_l_nil, bn_len, blkAt])
  · obtain rfl : i = t.l.length := by omega
    have d1 : ¬ ((t.l.length : Nat) : Int) < t.l.length := by omega
    have e : mixF t.l.length t.l (streamF k n t.l.length) = hidF k n t.l := by
      rw [mix_all t.l _ sl.symm, xor_comm]; rfl
    simp (maxSteps := 2000000) -implicitDefEqProofs only [A_clavigerref4_xored_L0, K_clavigerref4_xored_L0, d1, e, lr, lr2, oO, oN, oG, oNG, oM, oF, oL, rg, ci, seval, resAll, resL, resV, blkAt, undef, fillV, evParts, footOp, wrOp, chk, disj]
    exact out_row rfl (bs_closed _)
theorem rmark_C (k : Bn 16) (n : Nat) (hn : n < 18446744073709551616) (ad t : Row) (ha : ad.l.length ≤ 8192) (h : t.l.length ≤ 8192) : C Tryz.prog 64 [.agg (dg k), vi .u64 n, rowV ad, rowV t] [] (.sref 0 0 8 1) [some (bs ((markF k n ad.l t.l).1.take 8))] := by
  refine C_of mixed Tryz.func64 A_clavigerref4_mark_ok A_clavigerref4_mark_res _ A_clavigerref4_mark_nt ?_
  have hl : ((numF n ++ numF ad.l.length) ++ ad.l ++ t.l).length = 16 + (ad.l.length + t.l.length) := by simp [numF_len]; omega
  have kc := rkeyed_C (twoF k k) (.of ((numF n ++ numF ad.l.length) ++ ad.l ++ t.l)) (by rw [row_l_of, hl]; omega)
  have d1 : (0 : Int) ≤ ad.l.length := by omega
  have d2 : (ad.l.length : Int) ≤ 18446744073709551615 := by omega
  have s1 : Sm (numF n) 8 := by simp only [Sm, numF_len]; omega
  have s2 : Sm (numF n ++ numF ad.l.length) ad.l.length := by simp only [Sm, List.length_append, numF_len]; omega
  have s3 : Sm (numF n ++ numF ad.l.length ++ ad.l) t.l.length := by simp only [Sm, List.length_append, numF_len]; omega
  have em : keyedF (twoF k k) ((numF n ++ numF ad.l.length) ++ ad.l ++ t.l) = markF k n ad.l t.l := by rw [markF, List.append_assoc, List.append_assoc]
  rw [row_l_of, em] at kc
  have e8 : ((markF k n ad.l t.l).1.take 8).length = 8 := by rw [List.length_take, bn_len]; rfl
  have s8 := fun id => slB_bs (markF k n ad.l t.l).1 id 0 8 (by rw [bn_len]; decide)
  rw [List.drop_zero, e8] at s8
  (repeat' (first | simp (maxSteps := 2000000) -implicitDefEqProofs only [A_clavigerref4_mark, d1, d2, s1, s2, s3, numF_len, s8, e8, dg, lr, lr2, oO, oN, oG, oNG, oM, oF, oL, rg, ci, seval, resAll, resL, resV, blkAt, undef, fillV, evParts, footOp, wrOp, chk, disj] | split | ((first | apply ck_call | apply cfk_call); (first | (apply call_pure (two_C k k) cll cl) | (apply call_pure (rtwo_C k k) cll cl) | (apply call_new (rnumber_C n hn) cll cll) | (apply call_new (rnumber_C ad.l.length (by omega)) cll cll) | (apply call_roA (kc); (simp [ids_nil, ids_cons, ids_sc, ids_agg, ids_dg, ids_bs, ids_row, ids_ints, ids_sref, ids_ref, ids_sl, blkAt] <;> fail); (repeat' (first | exact args_n | apply args_c | (first | exact arg_closed _ cl | (refine arg_rowA rfl mem ?_; (first | rfl | omega | (simp [bn_len] <;> fail) | (simp [bn_len]; omega))) | (refine arg_row rfl mem ?_; (first | rfl | omega | (simp [bn_len] <;> fail) | (simp [bn_len]; omega))) | (refine arg_fld mem ?_ ?_; (first | rfl | omega | (simp [bn_len] <;> fail) | (simp [bn_len]; omega)); (simp only [blkAt, List.getD_cons_zero, List.getD_cons_succ, Option.bind_some, rd_sE] <;> fail))))); (first | exact cl | exact cll); (first | exact nr | exact nrl))))))
  exact out_row rfl (bs_closed _)
theorem rseal_C (k : Bn 16) (n : Nat) (hn : n < 18446744073709551616) (ad t : Row) (ha : ad.l.length ≤ 8192) (h : t.l.length ≤ 8184) : C Tryz.prog 41 [.agg (dg k), vi .u64 n, rowV ad, rowV t] [] (.sref 0 0 (sealF k n ad.l t.l).length 1) [some (bs (sealF k n ad.l t.l))] := by
  refine C_of mixed Tryz.func41 A_clavigerref4_Seal_ok A_clavigerref4_Seal_res _ A_clavigerref4_Seal_nt ?_
  have c1 : ¬ (t.l.length : Int) > 8184 := by omega
  have c2 : ¬ (ad.l.length : Int) > 8192 := by omega
  have e8 : ((markF k n ad.l t.l).1.take 8).length = 8 := by rw [List.length_take, bn_len]; rfl
  have s8 := fun id => slB_bs ((markF k n ad.l t.l).1.take 8) id 0 8 (by rw [e8]; omega)
  rw [List.drop_zero, List.take_of_length_le (l := (markF k n ad.l t.l).1.take 8) (by rw [e8]; omega), e8] at s8
  have hl := hid_len k n t.l (by omega)
  have hs : Sm (hidF k n t.l) 8 := by simp only [Sm]; omega
  (repeat' (first | simp (maxSteps := 2000000) -implicitDefEqProofs only [A_clavigerref4_Seal, c1, c2, s8, hl, hs, e8, lr, lr2, oO, oN, oG, oNG, oM, oF, oL, rg, ci, seval, resAll, resL, resV, blkAt, undef, fillV, evParts, footOp, wrOp, chk, disj] | split | ((first | apply ck_call | apply cfk_call); (first | (apply call_new (xored_C k n hn t (by omega)) cll cll) | (apply call_new (rmark_C k n hn ad t ha (by omega)) cll cll)))))
  exact out_row rfl (bs_closed _)
theorem ropenS_C (k : Bn 16) (n : Nat) (ad b : Row) (h : b.l.length < 8 ∨ 8192 < b.l.length ∨ 8192 < ad.l.length) : C Tryz.prog 52 [.agg (dg k), vi .u64 n, rowV ad, rowV b] [] (.tup [vnil, vi .i64 30]) [] := by
  refine C_of mixed Tryz.func52 A_clavigerref4_Open_ok A_clavigerref4_Open_res _ A_clavigerref4_Open_nt ?_
  by_cases c1 : (b.l.length : Int) < 8
  · (repeat' (first | simp (maxSteps := 2000000) -implicitDefEqProofs only [A_clavigerref4_Open, c1, lr, lr2, oO, oN, oG, oNG, oM, oF, oL, rg, ci, seval, resAll, resL, resV, blkAt, undef, fillV, evParts, footOp, wrOp, chk, disj] | split))
    all_goals (refine out_eq ?_ (cl); first | rfl | (simp_all []; done) | (simp_all []; intros; omega) | (simp []; (repeat' split) <;> first | rfl | omega | (simp_all; done) | (simp_all; intros; omega)))
  by_cases c2 : (b.l.length : Int) > 8192
  · (repeat' (first | simp (maxSteps := 2000000) -implicitDefEqProofs only [A_clavigerref4_Open, c1, c2, lr, lr2, oO, oN, oG, oNG, oM, oF, oL, rg, ci, seval, resAll, resL, resV, blkAt, undef, fillV, evParts, footOp, wrOp, chk, disj] | split))
    all_goals (refine out_eq ?_ (cl); first | rfl | (simp_all []; done) | (simp_all []; intros; omega) | (simp []; (repeat' split) <;> first | rfl | omega | (simp_all; done) | (simp_all; intros; omega)))
  have c3 : (ad.l.length : Int) > 8192 := by omega
  (repeat' (first | simp (maxSteps := 2000000) -implicitDefEqProofs only [A_clavigerref4_Open, c1, c2, c3, lr, lr2, oO, oN, oG, oNG, oM, oF, oL, rg, ci, seval, resAll, resL, resV, blkAt, undef, fillV, evParts, footOp, wrOp, chk, disj] | split))
  all_goals (refine out_eq ?_ (cl); first | rfl | (simp_all []; done) | (simp_all []; intros; omega) | (simp []; (repeat' split) <;> first | rfl | omega | (simp_all; done) | (simp_all; intros; omega)))
theorem ropen_walk (k : Bn 16) (n : Nat) (hn : n < 18446744073709551616) (ad b : Row) (h : 8 ≤ b.l.length) (h1 : b.l.length ≤ 8192) (h2 : ad.l.length ≤ 8192) (v : V) (H : Heap)
    (hv : if (markF k n ad.l (textF k n b.l)).1.take 8 = b.l.drop (b.l.length - 8) then v = .tup [.sref 0 0 (b.l.length - 8) 1, vi .i64 0] ∧ H = [some (bs (textF k n b.l))] else v = .tup [vnil, vi .i64 30] ∧ H = []) :
    C Tryz.prog 52 [.agg (dg k), vi .u64 n, rowV ad, rowV b] [] v H := by
  refine C_of mixed Tryz.func52 A_clavigerref4_Open_ok A_clavigerref4_Open_res _ A_clavigerref4_Open_nt ?_
  have c1 : ¬ (b.l.length : Int) < 8 := by omega
  have c2 : ¬ (b.l.length : Int) > 8192 := by omega
  have c3 : ¬ (ad.l.length : Int) > 8192 := by omega
  have w1 : IntKind.i64.wrap ((b.l.length : Int) - 8) = ((b.l.length - 8 : Nat) : Int) := by rw [wrap_id _ (by omega) (by omega)]; omega
  have d1 : (0 : Int) ≤ ((b.l.length - 8 : Nat) : Int) := by omega
  have d2 : ((b.l.length - 8 : Nat) : Int) ≤ b.l.length := by omega
  have ec : (b.cut 0 (b.l.length - 8)).l = b.l.take (b.l.length - 8) := by rw [cut_l, List.drop_zero, Nat.sub_zero]
  have el : (b.l.take (b.l.length - 8)).length = b.l.length - 8 := by rw [List.length_take]; omega
  have ed : (b.cut (b.l.length - 8) b.l.length).l = b.l.drop (b.l.length - 8) := by rw [cut_l, List.take_of_length_le (by rw [List.length_drop]; omega)]
  have tl := text_len k n b.l h1
  have hc := xored_C k n hn (b.cut 0 (b.l.length - 8)) (by rw [ec, el]; omega)
  rw [ec, el] at hc
  rw [show hidF k n (b.l.take (b.l.length - 8)) = textF k n b.l from rfl] at hc
  have mc := rmark_C k n hn ad (.of (textF k n b.l)) h2 (by rw [row_l_of, tl]; omega)
  rw [row_l_of] at mc
  have e9 : (b.l.drop (b.l.length - 8)).length = 8 := by rw [List.length_drop]; omega
  have e8 : ((markF k n ad.l (textF k n b.l)).1.take 8).length = 8 := by rw [List.length_take, bn_len]; rfl
  split at hv
  all_goals
    rename_i hm
    obtain ⟨rfl, rfl⟩ := hv
    (repeat' (first | simp (maxSteps := 2000000) -implicitDefEqProofs only [A_clavigerref4_Open, c1, c2, c3, w1, d1, d2, ed, e8, e9, hm, lr, lr2, oO, oN, oG, oNG, oM, oF, oL, rg, ci, seval, resAll, resL, resV, blkAt, undef, fillV, evParts, footOp, wrOp, chk, disj] | split | ((first | apply ck_call | apply cfk_call); (first | (apply call_new (hc) cll cll) | (apply call_roA_new (mc); (simp [ids_nil, ids_cons, ids_sc, ids_agg, ids_dg, ids_bs, ids_row, ids_ints, ids_sref, ids_ref, ids_sl, blkAt] <;> fail); (repeat' (first | exact args_n | apply args_c | (first | exact arg_closed _ cl | (refine arg_rowA rfl mem ?_; (first | rfl | omega | (simp [bn_len] <;> fail) | (simp [bn_len]; omega))) | (refine arg_row rfl mem ?_; (first | rfl | omega | (simp [bn_len] <;> fail) | (simp [bn_len]; omega))) | (refine arg_fld mem ?_ ?_; (first | rfl | omega | (simp [bn_len] <;> fail) | (simp [bn_len]; omega)); (simp only [blkAt, List.getD_cons_zero, List.getD_cons_succ, Option.bind_some, rd_sE] <;> fail))))); (first | exact cl | exact cll); (first | exact nr | exact nrl))))))
  · exact out_rowT rfl trivial (bs_closed _)
  · all_goals (refine out_eq ?_ (cl); first | rfl | (simp_all []; done) | (simp_all []; intros; omega) | (simp []; (repeat' split) <;> first | rfl | omega | (simp_all; done) | (simp_all; intros; omega)))
theorem ropen_C (k : Bn 16) (n : Nat) (hn : n < 18446744073709551616) (ad b : Row) (h : fits k n ad.l b.l) : C Tryz.prog 52 [.agg (dg k), vi .u64 n, rowV ad, rowV b] [] (.tup [.sref 0 0 (b.l.length - 8) 1, vi .i64 0]) [some (bs (textF k n b.l))] :=
  ropen_walk k n hn ad b h.1 h.2.1 h.2.2.1 _ _ (by rw [if_pos h.2.2.2]; exact ⟨rfl, rfl⟩)
theorem ropenE_C (k : Bn 16) (n : Nat) (hn : n < 18446744073709551616) (ad b : Row) (h : ¬ fits k n ad.l b.l) : C Tryz.prog 52 [.agg (dg k), vi .u64 n, rowV ad, rowV b] [] (.tup [vnil, vi .i64 30]) [] := by
  by_cases hb : b.l.length < 8 ∨ 8192 < b.l.length ∨ 8192 < ad.l.length
  · exact ropenS_C k n ad b hb
  have hn2 : ¬ (markF k n ad.l (textF k n b.l)).1.take 8 = b.l.drop (b.l.length - 8) := fun e => h ⟨by omega, by omega, by omega, e⟩
  exact ropen_walk k n hn ad b (by omega) (by omega) (by omega) _ _ (by rw [if_neg hn2]; exact ⟨rfl, rfl⟩)
end Go.Proofs.YtfpoebmihjbknaaGreat.VA
