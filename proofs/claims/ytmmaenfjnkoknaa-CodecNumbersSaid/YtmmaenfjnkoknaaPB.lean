/- Texts of this proof, one behind the other: Lblend, Lbase, Cbase, Cblend, Lconcat, Cconcat, Bnum, Lbook, Cbook, Dblend, Drblend, Eblend, Rblend. -/
import Derived.Test.YtmmaenfjnkoknaaVC
/- The compact code of the functions that sum up. -/
set_option linter.unusedVariables false
set_option maxRecDepth 100000
namespace Go.Proofs.Ytmmaenfjnkoknaa.VA
open Go
noncomputable section
def A_blend_Number_L0 : ACode := (.seq (rg [oO 9 (.bin .lss (.t 8) (.t 7))]) (.seq (.cond (.t 9) .skip (.exit 0)) (.seq (.block 1 (.seq (rg [oM 10 8, oM 4 10]) (rg [oM 11 3, oM 12 4, oM 13 0, oM 14 4, oO 15 (.bin .sub (ci 7) (.t 14)), oO 16 (.bin .mul (ci 8) (.t 15)), oO 17 (.bin .shr (.t 13) (.t 16)), oO 18 (.conv .u8 (.t 17)), oO 19 (.idxSl 1 (.t 11) (.t 12)), oN (.store 1 (.t 19) (.t 18))]))) (rg [oO 20 (.bin .add (.t 8) (ci 1)), oM 8 20]))))
def A_blend_Number : ACode := (.seq (rg [oO 2 (.mov (.c (.slice none 0 0)))]) (.seq (rg [oO 5 (.mkSl 1 1 z1 (ci 8) (ci 8)), oM 3 5]) (.seq (.seq (rg [oM 6 3, oO 7 (.lenSl (.t 6)), oO 8 (.mov (ci 0))]) (.block 0 (.loop A_blend_Number_L0))) (.seq (rg [oM 21 3, oM 2 21]) .ret))))
theorem A_blend_Number_ok : Try.f167.body.bind (cCode Try.prog) = some A_blend_Number := by kernel_rfl
theorem A_blend_Number_res : cRes Try.prog Try.f167.results.toList = some [(.tmp 2)] := by kernel_rfl
theorem A_blend_Number_nt : Try.f167.ntmps = 22 := by kernel_rfl
def A_clavigerref2_Number_L0 : ACode := (.seq (.seq (rg [oM 6 4, oO 7 (.bin .geq (.t 6) (ci 0))]) (.cond (.t 7) .skip (.exit 0))) (.seq (.block 1 (.seq (rg [oM 10 3, oM 11 4, oM 12 0, oO 13 (.conv .u8 (.t 12)), oO 14 (.idxSl 1 (.t 10) (.t 11)), oN (.store 1 (.t 14) (.t 13))]) (rg [oM 15 0, oO 16 (.bin .quo (.t 15) (.c (.int .u64 256))), oM 0 16]))) (rg [oM 8 4, oO 9 (.bin .sub (.t 8) (ci 1)), oM 4 9])))
def A_clavigerref2_Number : ACode := (.seq (rg [oO 2 (.mov (.c (.slice none 0 0)))]) (.seq (rg [oO 5 (.mkSl 1 1 z1 (ci 8) (ci 8)), oM 3 5]) (.seq (.seq (rg [oO 4 (.mov (ci 7))]) (.block 0 (.loop A_clavigerref2_Number_L0))) (.seq (rg [oM 17 3, oM 2 17]) .ret))))
theorem A_clavigerref2_Number_ok : Try.f108.body.bind (cCode Try.prog) = some A_clavigerref2_Number := by kernel_rfl
theorem A_clavigerref2_Number_res : cRes Try.prog Try.f108.results.toList = some [(.tmp 2)] := by kernel_rfl
theorem A_clavigerref2_Number_nt : Try.f108.ntmps = 18 := by kernel_rfl
def A_bytes_Clone : ACode := (.seq (rg [oO 2 (.mov (.c (.slice none 0 0)))]) (.seq (.seq (rg [oM 3 0, oO 4 (.eqNil false (.t 3) (.c (.slice none 0 0)))]) (.cond (.t 4) (.seq (rg [oO 2 (.mov (.c (.slice none 0 0)))]) .ret) .skip)) (.seq (rg [oO 5 (.buildSl 1 0 z1 []), oM 6 0, oO 7 (.append 1 1 (.t 5) (.t 6)), oM 2 7]) .ret)))
theorem A_bytes_Clone_ok : Try.f160.body.bind (cCode Try.prog) = some A_bytes_Clone := by kernel_rfl
theorem A_bytes_Clone_res : cRes Try.prog Try.f160.results.toList = some [(.tmp 2)] := by kernel_rfl
theorem A_bytes_Clone_nt : Try.f160.ntmps = 8 := by kernel_rfl
def A_bytes_Equal : ACode := (.seq (rg [oO 4 (.mov (.c (.bool false)))]) (.seq (rg [oM 5 0, oO 6 (.toStr (.t 5)), oM 7 1, oO 8 (.toStr (.t 7)), oO 9 (.bin .eql (.t 6) (.t 8)), oM 4 9]) .ret))
theorem A_bytes_Equal_ok : Try.f228.body.bind (cCode Try.prog) = some A_bytes_Equal := by kernel_rfl
theorem A_bytes_Equal_res : cRes Try.prog Try.f228.results.toList = some [(.tmp 4)] := by kernel_rfl
theorem A_bytes_Equal_nt : Try.f228.ntmps = 10 := by kernel_rfl
end
end Go.Proofs.Ytmmaenfjnkoknaa.VA

/- The compact code of Within. -/
set_option linter.unusedVariables false
set_option maxRecDepth 100000
namespace Go.Proofs.Ytmmaenfjnkoknaa.VA
open Go
noncomputable section
end
end Go.Proofs.Ytmmaenfjnkoknaa.VA

/- What Within does. -/
set_option linter.unusedVariables false
set_option linter.unusedSimpArgs false
set_option maxRecDepth 100000
namespace Go.Proofs.Ytmmaenfjnkoknaa.VA
open Go
attribute [local irreducible] WK NK XK TK RK FK CK CFK CallRel C
theorem mixed : Try.prog.follows .mixedOrders = true := by kernel_rfl
end Go.Proofs.Ytmmaenfjnkoknaa.VA

/- What the functions that sum up do: words. -/
set_option linter.unusedVariables false
set_option linter.unusedSimpArgs false
set_option maxRecDepth 100000
namespace Go.Proofs.Ytmmaenfjnkoknaa.VA
open Go
attribute [local irreducible] WK NK XK TK RK FK CK CFK CallRel C
structure W4 where
  a : Nat
  b : Nat
  c : Nat
  d : Nat
theorem clone_C (l : List UInt8) (h : l.length ≤ 140737488355328) : C Try.prog 160 [rowV (.of l)] [] (.sref 0 0 l.length 1) [some (bs l)] := by
  refine C_of mixed Try.func160 A_bytes_Clone_ok A_bytes_Clone_res _ A_bytes_Clone_nt ?_
  (repeat' (first | simp (maxSteps := 2000000) -implicitDefEqProofs only [A_bytes_Clone, h, lr, lr2, oO, oN, oG, oNG, oM, oF, oL, rg, ci, Nat.reduceEqDiff, Nat.reduceAdd, Nat.reduceSub, Int.reduceTDiv, Int.reduceTMod, ge_iff_le, Int.reduceGE, Nat.reducePow, Int.reduceEq, Int.reduceNeg, Int.reduceLE, Int.reducePow, Int.reduceLT, Int.reduceSub, Int.reduceAdd, Int.reduceMul, Int.reduceToNat, Option.map_some, ↓reduceIte, ite_not, beq_iff_eq, bne_iff_ne, ne_eq, beq_self_eq_true, beq_eq_false_iff_ne, bne_eq_false_iff_eq, resAll, resL, resV, reduceCtorEq, Option.some.injEq, exists_eq_left', blkAt, Nat.reduceLeDiff, Nat.reduceMul, eq_self, Nat.reduceLT, undef, fillV, evParts, footOp, wrOp, chk, disj, Nat.reduceBEq] | split))
  exact out_row rfl (bs_closed _)
theorem cloneN_C : C Try.prog 160 [vnil] [] vnil [] := by
  refine C_of mixed Try.func160 A_bytes_Clone_ok A_bytes_Clone_res _ A_bytes_Clone_nt ?_
  (repeat' (first | simp (maxSteps := 2000000) -implicitDefEqProofs only [A_bytes_Clone, lr, lr2, oO, oN, oG, oNG, oM, oF, oL, rg, ci, Nat.reduceEqDiff, Nat.reduceAdd, Nat.reduceSub, Int.reduceTDiv, Int.reduceTMod, ge_iff_le, Int.reduceGE, Nat.reducePow, Int.reduceEq, Int.reduceNeg, Int.reduceLE, Int.reducePow, Int.reduceLT, Int.reduceSub, Int.reduceAdd, Int.reduceMul, Int.reduceToNat, Option.map_some, ↓reduceIte, ite_not, beq_iff_eq, bne_iff_ne, ne_eq, beq_self_eq_true, beq_eq_false_iff_ne, bne_eq_false_iff_eq, resAll, resL, resV, reduceCtorEq, Option.some.injEq, exists_eq_left', blkAt, Nat.reduceLeDiff, Nat.reduceMul, eq_self, Nat.reduceLT, undef, fillV, evParts, footOp, wrOp, chk, disj, Nat.reduceBEq] | split))
  all_goals (refine out_eq ?_ (cl); first | rfl | (simp_all []; done) | (simp_all []; intros; omega) | (simp []; (repeat' split) <;> first | rfl | omega | (simp_all; done) | (simp_all; intros; omega)))
def numF (n : Nat) : List UInt8 := [UInt8.ofNat (n / 72057594037927936), UInt8.ofNat (n / 281474976710656), UInt8.ofNat (n / 1099511627776), UInt8.ofNat (n / 4294967296), UInt8.ofNat (n / 16777216), UInt8.ofNat (n / 65536), UInt8.ofNat (n / 256), UInt8.ofNat n]
theorem number_C (n : Nat) : C Try.prog 167 [vi .u64 n] [] (.sref 0 0 8 1) [some (bs (numF n))] := by
  refine C_of mixed Try.func167 A_blend_Number_ok A_blend_Number_res _ A_blend_Number_nt ?_
  simp (maxSteps := 2000000) -implicitDefEqProofs only [A_blend_Number, lr, lr2, oO, oN, oG, oNG, oM, oF, oL, rg, ci, Nat.reduceEqDiff, Nat.reduceAdd, Nat.reduceSub, Int.reduceTDiv, Int.reduceTMod, ge_iff_le, Int.reduceGE, Nat.reducePow, Int.reduceEq, Int.reduceNeg, Int.reduceLE, Int.reducePow, Int.reduceLT, Int.reduceSub, Int.reduceAdd, Int.reduceMul, Int.reduceToNat, Option.map_some, ↓reduceIte, ite_not, beq_iff_eq, bne_iff_ne, ne_eq, beq_self_eq_true, beq_eq_false_iff_ne, bne_eq_false_iff_eq, resAll, resL, resV, reduceCtorEq, Option.some.injEq, exists_eq_left', blkAt, Nat.reduceLeDiff, Nat.reduceMul, eq_self, Nat.reduceLT, undef, fillV, evParts, footOp, wrOp, chk, disj, Nat.reduceBEq]
  refine wk_unroll 9 ?_
  simp (maxSteps := 2000000) -implicitDefEqProofs only [A_blend_Number_L0, lr, lr2, oO, oN, oG, oNG, oM, oF, oL, rg, ci, Nat.reduceEqDiff, Nat.reduceAdd, Nat.reduceSub, Int.reduceTDiv, Int.reduceTMod, ge_iff_le, Int.reduceGE, Nat.reducePow, Int.reduceEq, Int.reduceNeg, Int.reduceLE, Int.reducePow, Int.reduceLT, Int.reduceSub, Int.reduceAdd, Int.reduceMul, Int.reduceToNat, Option.map_some, ↓reduceIte, ite_not, beq_iff_eq, bne_iff_ne, ne_eq, beq_self_eq_true, beq_eq_false_iff_ne, bne_eq_false_iff_eq, resAll, resL, resV, reduceCtorEq, Option.some.injEq, exists_eq_left', blkAt, Nat.reduceLeDiff, Nat.reduceMul, eq_self, Nat.reduceLT, undef, fillV, evParts, footOp, wrOp, chk, disj, Nat.reduceBEq]
  exact out_row rfl (bs_closed _)
theorem rnumber_C (n : Nat) (hn : n < 18446744073709551616) : C Try.prog 108 [vi .u64 n] [] (.sref 0 0 8 1) [some (bs (numF n))] := by
  refine C_of mixed Try.func108 A_clavigerref2_Number_ok A_clavigerref2_Number_res _ A_clavigerref2_Number_nt ?_
  simp (maxSteps := 2000000) -implicitDefEqProofs only [A_clavigerref2_Number, lr, lr2, oO, oN, oG, oNG, oM, oF, oL, rg, ci, Nat.reduceEqDiff, Nat.reduceAdd, Nat.reduceSub, Int.reduceTDiv, Int.reduceTMod, ge_iff_le, Int.reduceGE, Nat.reducePow, Int.reduceEq, Int.reduceNeg, Int.reduceLE, Int.reducePow, Int.reduceLT, Int.reduceSub, Int.reduceAdd, Int.reduceMul, Int.reduceToNat, Option.map_some, ↓reduceIte, ite_not, beq_iff_eq, bne_iff_ne, ne_eq, beq_self_eq_true, beq_eq_false_iff_ne, bne_eq_false_iff_eq, resAll, resL, resV, reduceCtorEq, Option.some.injEq, exists_eq_left', blkAt, Nat.reduceLeDiff, Nat.reduceMul, eq_self, Nat.reduceLT, undef, fillV, evParts, footOp, wrOp, chk, disj, Nat.reduceBEq]
  refine wk_unroll 9 ?_
  simp (maxSteps := 2000000) -implicitDefEqProofs only [A_clavigerref2_Number_L0, show ¬ (-1 : Int) ≥ 0 from by decide, lr, lr2, oO, oN, oG, oNG, oM, oF, oL, rg, ci, Nat.reduceEqDiff, Nat.reduceAdd, Nat.reduceSub, Int.reduceTDiv, Int.reduceTMod, ge_iff_le, Int.reduceGE, Nat.reducePow, Int.reduceEq, Int.reduceNeg, Int.reduceLE, Int.reducePow, Int.reduceLT, Int.reduceSub, Int.reduceAdd, Int.reduceMul, Int.reduceToNat, Option.map_some, ↓reduceIte, ite_not, beq_iff_eq, bne_iff_ne, ne_eq, beq_self_eq_true, beq_eq_false_iff_ne, bne_eq_false_iff_eq, resAll, resL, resV, reduceCtorEq, Option.some.injEq, exists_eq_left', blkAt, Nat.reduceLeDiff, Nat.reduceMul, eq_self, Nat.reduceLT, undef, fillV, evParts, footOp, wrOp, chk, disj, Nat.reduceBEq]
  refine out_bs (l := numF n) rfl ?_ rfl
  have e1 : ∀ a : Nat, n / a % 18446744073709551616 = n / a := fun a => Nat.mod_eq_of_lt (Nat.lt_of_le_of_lt (Nat.div_le_self n a) hn)
  simp only [Nat.div_div_eq_div_mul, e1, numF, Nat.reduceMul]
  rfl
theorem equal_C (a b : Row) : C Try.prog 228 [rowV a, rowV b] [] (vb (decide (a.l = b.l))) [] := by
  refine C_of mixed Try.func228 A_bytes_Equal_ok A_bytes_Equal_res _ A_bytes_Equal_nt ?_
  (repeat' (first | simp (maxSteps := 2000000) -implicitDefEqProofs only [A_bytes_Equal, lr, lr2, oO, oN, oG, oNG, oM, oF, oL, rg, ci, Nat.reduceEqDiff, Nat.reduceAdd, Nat.reduceSub, Int.reduceTDiv, Int.reduceTMod, ge_iff_le, Int.reduceGE, Nat.reducePow, Int.reduceEq, Int.reduceNeg, Int.reduceLE, Int.reducePow, Int.reduceLT, Int.reduceSub, Int.reduceAdd, Int.reduceMul, Int.reduceToNat, Option.map_some, ↓reduceIte, ite_not, beq_iff_eq, bne_iff_ne, ne_eq, beq_self_eq_true, beq_eq_false_iff_ne, bne_eq_false_iff_eq, resAll, resL, resV, reduceCtorEq, Option.some.injEq, exists_eq_left', blkAt, Nat.reduceLeDiff, Nat.reduceMul, eq_self, Nat.reduceLT, undef, fillV, evParts, footOp, wrOp, chk, disj, Nat.reduceBEq] | split))
  all_goals (refine out_eq ?_ (cl); first | rfl | (simp_all []; done) | (simp_all []; intros; omega) | (simp []; (repeat' split) <;> first | rfl | omega | (simp_all; done) | (simp_all; intros; omega)))
end Go.Proofs.Ytmmaenfjnkoknaa.VA

/- The compact code of slices.Concat. -/
set_option linter.unusedVariables false
set_option maxRecDepth 100000
namespace Go.Proofs.Ytmmaenfjnkoknaa.VA
open Go
noncomputable section
def A_slices_Concat_byte_byte_L0 : ACode := (.seq (rg [oO 12 (.bin .lss (.t 11) (.t 10))]) (.seq (.cond (.t 12) .skip (.exit 0)) (.seq (.block 1 (.seq (rg [oO 13 (.idxSl 1 (.t 9) (.t 11)), oL 14 13, oM 5 14]) (.seq (rg [oM 15 3, oM 16 5, oO 17 (.lenSl (.t 16)), oO 18 (.bin .add (.t 15) (.t 17)), oM 3 18]) (.seq (rg [oM 19 3, oO 20 (.bin .lss (.t 19) (ci 0))]) (.cond (.t 20) (rg [⟨(some 21), .bad, none⟩, ⟨none, .bad, none⟩]) .skip))))) (rg [oO 22 (.bin .add (.t 11) (ci 1)), oM 11 22]))))
def A_slices_Concat_byte_byte_L1 : ACode := (.seq (rg [oO 28 (.bin .lss (.t 27) (.t 26))]) (.seq (.cond (.t 28) .skip (.exit 2)) (.seq (.block 3 (.seq (rg [oO 29 (.idxSl 1 (.t 25) (.t 27)), oL 30 29, oM 8 30]) (rg [oM 31 6, oM 32 8, oO 33 (.append 1 1 (.t 31) (.t 32)), oM 6 33]))) (rg [oO 34 (.bin .add (.t 27) (ci 1)), oM 27 34]))))
def A_slices_Concat_byte_byte : ACode := (.seq (rg [oO 2 (.mov (.c (.slice none 0 0)))]) (.seq (rg [oO 3 (.mov (ci 0))]) (.seq (.seq (rg [oM 9 0, oO 10 (.lenSl (.t 9)), oO 11 (.mov (ci 0))]) (.block 0 (.loop A_slices_Concat_byte_byte_L0))) (.seq (rg [oM 23 3, oO 24 (.call 210 [(.c (.slice none 0 0)), (.t 23)]), oM 6 24]) (.seq (.seq (rg [oM 25 0, oO 26 (.lenSl (.t 25)), oO 27 (.mov (ci 0))]) (.block 2 (.loop A_slices_Concat_byte_byte_L1))) (.seq (rg [oM 35 6, oM 2 35]) .ret))))))
def K_slices_Concat_byte_byte_L0 : Kt := (.blk 0 (.seq (.seq (rg [oM 23 3, oO 24 (.call 210 [(.c (.slice none 0 0)), (.t 23)]), oM 6 24]) (.seq (.seq (rg [oM 25 0, oO 26 (.lenSl (.t 25)), oO 27 (.mov (ci 0))]) (.block 2 (.loop A_slices_Concat_byte_byte_L1))) (.seq (rg [oM 35 6, oM 2 35]) .ret))) .fin))
def K_slices_Concat_byte_byte_L1 : Kt := (.blk 2 (.seq (.seq (rg [oM 35 6, oM 2 35]) .ret) .fin))
theorem A_slices_Concat_byte_byte_ok : Try.f173.body.bind (cCode Try.prog) = some A_slices_Concat_byte_byte := by kernel_rfl
theorem A_slices_Concat_byte_byte_res : cRes Try.prog Try.f173.results.toList = some [(.tmp 2)] := by kernel_rfl
theorem A_slices_Concat_byte_byte_nt : Try.f173.ntmps = 36 := by kernel_rfl
def A_slices_Grow_byte_byte : ACode := (.seq (rg [oO 4 (.mov (.c (.slice none 0 0)))]) (.seq (.seq (rg [oM 5 1, oO 6 (.bin .lss (.t 5) (ci 0))]) (.cond (.t 6) (rg [⟨(some 7), .bad, none⟩, ⟨none, .bad, none⟩]) .skip)) (.seq (.seq (rg [oM 8 1, oM 9 0, oO 10 (.capSl (.t 9)), oM 11 0, oO 12 (.lenSl (.t 11)), oO 13 (.bin .sub (.t 10) (.t 12)), oO 14 (.bin .sub (.t 8) (.t 13)), oM 1 14]) (.seq (rg [oM 15 1, oO 16 (.bin .gtr (.t 15) (ci 0))]) (.cond (.t 16) (rg [oM 17 0, oM 18 0, oO 19 (.capSl (.t 18)), oO 20 (.sliceSl 1 (.t 17) none (some (.t 19))), oM 21 1, oO 22 (.growN 1 1 z1 (.t 20) (.t 21)), oM 23 0, oO 24 (.lenSl (.t 23)), oO 25 (.sliceSl 1 (.t 22) none (some (.t 24))), oM 0 25]) .skip))) (.seq (rg [oM 26 0, oM 4 26]) .ret))))
theorem A_slices_Grow_byte_byte_ok : Try.f210.body.bind (cCode Try.prog) = some A_slices_Grow_byte_byte := by kernel_rfl
theorem A_slices_Grow_byte_byte_res : cRes Try.prog Try.f210.results.toList = some [(.tmp 4)] := by kernel_rfl
theorem A_slices_Grow_byte_byte_nt : Try.f210.ntmps = 27 := by kernel_rfl
end
end Go.Proofs.Ytmmaenfjnkoknaa.VA

/- slices.Concat, of rows of bytes. -/
set_option linter.unusedVariables false
set_option linter.unusedSimpArgs false
set_option maxRecDepth 100000
namespace Go.Proofs.Ytmmaenfjnkoknaa.VA
open Go
attribute [local irreducible] WK NK XK TK RK FK CK CFK CallRel C
theorem grow_C (n : Nat) (h1 : 1 ≤ n) (h2 : n ≤ 1099511627776) : C Try.prog 210 [vnil, vi .i64 n] [] (.sref 0 0 0 1) [some (bs (List.replicate n 0))] := by
  refine C_of mixed Try.func210 A_slices_Grow_byte_byte_ok A_slices_Grow_byte_byte_res _ A_slices_Grow_byte_byte_nt ?_
  have c0 : (0 : Int) ≤ n := by omega
  have c1 : ¬ (n : Int) < 0 := by omega
  have c2 : (n : Int) > 0 := by omega
  have c3 : (1 : Int) ≤ n := by omega
  have c4 : (n : Int) ≤ 140737488355328 := by omega
  have w : IntKind.i64.wrap (n : Int) = n := wrap_id _ (by omega) (by omega)
  (repeat' (first | simp (maxSteps := 2000000) -implicitDefEqProofs only [A_slices_Grow_byte_byte, c0, c1, c2, c3, c4, w, Int.mul_one, Int.sub_zero, lr, lr2, oO, oN, oG, oNG, oM, oF, oL, rg, ci, Nat.reduceEqDiff, Nat.reduceAdd, Nat.reduceSub, Int.reduceTDiv, Int.reduceTMod, ge_iff_le, Int.reduceGE, Nat.reducePow, Int.reduceEq, Int.reduceNeg, Int.reduceLE, Int.reducePow, Int.reduceLT, Int.reduceSub, Int.reduceAdd, Int.reduceMul, Int.reduceToNat, Option.map_some, ↓reduceIte, ite_not, beq_iff_eq, bne_iff_ne, ne_eq, beq_self_eq_true, beq_eq_false_iff_ne, bne_eq_false_iff_eq, resAll, resL, resV, reduceCtorEq, Option.some.injEq, exists_eq_left', blkAt, Nat.reduceLeDiff, Nat.reduceMul, eq_self, Nat.reduceLT, undef, fillV, evParts, footOp, wrOp, chk, disj, Nat.reduceBEq] | split))
  exact out_row rfl (bs_closed _)
theorem concat_C (rs : List Row) (hl : rs.length ≤ 1000) (h1 : 1 ≤ (joinF rs).length) (h2 : (joinF rs).length ≤ 1099511627776) :
    C Try.prog 173 [rowsV rs] [] (.sref 0 0 (joinF rs).length 1) [some (bs (joinF rs))] := by
  refine C_of mixed Try.func173 A_slices_Concat_byte_byte_ok A_slices_Concat_byte_byte_res _ A_slices_Concat_byte_byte_nt ?_
  have hcap : ∀ i, i < rs.length → (joinF (rs.take (i + 1))).length = (joinF (rs.take i)).length + (rs.getD i .nil).l.length := fun i hi => by rw [join_take rs i hi, List.length_append]
  simp (maxSteps := 2000000) -implicitDefEqProofs only [A_slices_Concat_byte_byte, len_rows, lr, lr2, oO, oN, oG, oNG, oM, oF, oL, rg, ci, Nat.reduceEqDiff, Nat.reduceAdd, Nat.reduceSub, Int.reduceTDiv, Int.reduceTMod, ge_iff_le, Int.reduceGE, Nat.reducePow, Int.reduceEq, Int.reduceNeg, Int.reduceLE, Int.reducePow, Int.reduceLT, Int.reduceSub, Int.reduceAdd, Int.reduceMul, Int.reduceToNat, Option.map_some, ↓reduceIte, ite_not, beq_iff_eq, bne_iff_ne, ne_eq, beq_self_eq_true, beq_eq_false_iff_ne, bne_eq_false_iff_eq, resAll, resL, resV, reduceCtorEq, Option.some.injEq, exists_eq_left', blkAt, Nat.reduceLeDiff, Nat.reduceMul, eq_self, Nat.reduceLT, undef, fillV, evParts, footOp, wrOp, chk, disj, Nat.reduceBEq]
  refine wk_loop (fun n S H => ∃ i : Nat, i ≤ rs.length ∧ n = rs.length - i ∧ S = (rowsV rs :: .dead :: vnil :: vi .i64 ((joinF (rs.take i)).length : Nat) :: .dead :: .dead :: .dead :: .dead :: .dead :: rowsV rs :: vi .i64 rs.length :: vi .i64 i :: .dead :: .dead :: .dead :: .dead :: .dead :: .dead :: .dead :: .dead :: .dead :: .dead :: .dead :: .dead :: .dead :: .dead :: .dead :: .dead :: .dead :: .dead :: .dead :: .dead :: .dead :: .dead :: .dead :: .dead :: []) ∧ H = []) rs.length ⟨0, Nat.zero_le _, rfl, rfl, rfl⟩ (by refine .ren _ _ _ [] (by decide) (by intro k h; first | exact absurd h (Nat.not_lt_zero k) | (simp at h; done) | (match k, h with | 0, _ => rfl)) ?_ ?_ <;> simp [KeepS, KeepH, ArgRel, ArgRelL, argL_cl, arg_cl, row_l_of, row_l_nil, bn_len, blkAt, List.take_zero, joinF]) ?_
  rintro n S H ⟨i, hi, rfl, rfl, rfl⟩ J hJ
  have d0 : (0 : Int) ≤ i := by omega
  have w1 : IntKind.i64.wrap ((i : Int) + 1) = ((i + 1 : Nat) : Int) := by rw [wrap_id _ (by omega) (by omega)]; omega
  have hle := join_le rs
  by_cases hil : i < rs.length
  · have d1 : (i : Int) < rs.length := by omega
    have hr := rd_rows rs i hil
    have hc := hcap i hil
    have hb := hle (i + 1)
    have w2 : IntKind.i64.wrap (((joinF (rs.take i)).length : Int) + ((rs.getD i .nil).l.length : Int)) = ((joinF (rs.take (i + 1))).length : Int) := by rw [wrap_id _ (by omega) (by omega)]; omega
    have d2 : ¬ ((joinF (rs.take (i + 1))).length : Int) < 0 := by omega
    (repeat' (first | simp (maxSteps := 2000000) -implicitDefEqProofs only [A_slices_Concat_byte_byte_L0, d0, d1, w1, w2, d2, hr, idx_rows, lr, lr2, oO, oN, oG, oNG, oM, oF, oL, rg, ci, Nat.reduceEqDiff, Nat.reduceAdd, Nat.reduceSub, Int.reduceTDiv, Int.reduceTMod, ge_iff_le, Int.reduceGE, Nat.reducePow, Int.reduceEq, Int.reduceNeg, Int.reduceLE, Int.reducePow, Int.reduceLT, Int.reduceSub, Int.reduceAdd, Int.reduceMul, Int.reduceToNat, Option.map_some, ↓reduceIte, ite_not, beq_iff_eq, bne_iff_ne, ne_eq, beq_self_eq_true, beq_eq_false_iff_ne, bne_eq_false_iff_eq, resAll, resL, resV, reduceCtorEq, Option.some.injEq, exists_eq_left', blkAt, Nat.reduceLeDiff, Nat.reduceMul, eq_self, Nat.reduceLT, undef, fillV, evParts, footOp, wrOp, chk, disj, Nat.reduceBEq] | split))
    exact hJ _ _ _ _ _ (by omega) ⟨i + 1, by omega, rfl, rfl, rfl⟩ (by refine .ren _ _ _ [] (by decide) (by intro k h; first | exact absurd h (Nat.not_lt_zero k) | (simp at h; done) | (match k, h with | 0, _ => rfl)) ?_ ?_ <;> simp [KeepS, KeepH, ArgRel, ArgRelL, argL_cl, arg_cl, row_l_of, row_l_nil, bn_len, blkAt])
  · obtain rfl : i = rs.length := by omega
    have d1 : ¬ ((rs.length : Nat) : Int) < rs.length := by omega
    have e : (joinF (rs.take rs.length)).length = (joinF rs).length := by rw [List.take_length]
    (repeat' (first | simp (maxSteps := 2000000) -implicitDefEqProofs only [A_slices_Concat_byte_byte_L0, K_slices_Concat_byte_byte_L0, d1, e, len_rows, lr, lr2, oO, oN, oG, oNG, oM, oF, oL, rg, ci, Nat.reduceEqDiff, Nat.reduceAdd, Nat.reduceSub, Int.reduceTDiv, Int.reduceTMod, ge_iff_le, Int.reduceGE, Nat.reducePow, Int.reduceEq, Int.reduceNeg, Int.reduceLE, Int.reducePow, Int.reduceLT, Int.reduceSub, Int.reduceAdd, Int.reduceMul, Int.reduceToNat, Option.map_some, ↓reduceIte, ite_not, beq_iff_eq, bne_iff_ne, ne_eq, beq_self_eq_true, beq_eq_false_iff_ne, bne_eq_false_iff_eq, resAll, resL, resV, reduceCtorEq, Option.some.injEq, exists_eq_left', blkAt, Nat.reduceLeDiff, Nat.reduceMul, eq_self, Nat.reduceLT, undef, fillV, evParts, footOp, wrOp, chk, disj, Nat.reduceBEq] | split | ((first | apply ck_call | apply cfk_call); (first | (apply call_new (grow_C (joinF rs).length h1 h2) cll cll)))))
    refine wk_loop (fun n S H => ∃ i : Nat, i ≤ rs.length ∧ n = rs.length - i ∧ ((i = 0 ∧ S = (rowsV rs :: .dead :: vnil :: .dead :: .dead :: .dead :: .sref 0 0 0 1 :: .dead :: .dead :: .dead :: .dead :: .dead :: .dead :: .dead :: .dead :: .dead :: .dead :: .dead :: .dead :: .dead :: .dead :: .dead :: .dead :: .dead :: .dead :: rowsV rs :: vi .i64 rs.length :: vi .i64 0 :: .dead :: .dead :: .dead :: .dead :: .dead :: .dead :: .dead :: .dead :: []) ∧ H = [some (bs (List.replicate (joinF rs).length 0))]) ∨ (0 < i ∧ S = (rowsV rs :: .dead :: vnil :: .dead :: .dead :: .dead :: .sref 0 0 (joinF (rs.take i)).length 1 :: .dead :: .dead :: .dead :: .dead :: .dead :: .dead :: .dead :: .dead :: .dead :: .dead :: .dead :: .dead :: .dead :: .dead :: .dead :: .dead :: .dead :: .dead :: rowsV rs :: vi .i64 rs.length :: vi .i64 i :: .dead :: .dead :: .dead :: .dead :: .dead :: .dead :: .dead :: .dead :: []) ∧ H = [some (bs (joinF (rs.take i)))]))) rs.length ⟨0, Nat.zero_le _, rfl, .inl ⟨rfl, rfl, rfl⟩⟩ (by refine .ren _ _ _ [0] (by decide) (by intro k h; first | exact absurd h (Nat.not_lt_zero k) | (simp at h; done) | (match k, h with | 0, _ => rfl)) ?_ ?_ <;> simp [KeepS, KeepH, ArgRel, ArgRelL, argL_cl, arg_cl, row_l_of, row_l_nil, bn_len, blkAt]) ?_
    clear hJ J
    rintro n S H ⟨i, hi, rfl, ⟨rfl, rfl, rfl⟩ | ⟨hi0, rfl, rfl⟩⟩ J hJ
    · by_cases h0 : 0 < rs.length
      · have d1 : (0 : Int) < rs.length := by omega
        have hr := rd_rows rs 0 h0
        rw [List.drop_zero] at hr
        have hc := join_take rs 0 h0
        have hb := hle 1
        have hb2 : (rs.getD 0 .nil).l.length ≤ 140737488355328 := by have := hcap 0 h0; have := hle (0 + 1); omega
        (repeat' (first | simp (maxSteps := 2000000) -implicitDefEqProofs only [A_slices_Concat_byte_byte_L1, d1, hr, idx_rows, app_bs0, hb2, lr, lr2, oO, oN, oG, oNG, oM, oF, oL, rg, ci, Nat.reduceEqDiff, Nat.reduceAdd, Nat.reduceSub, Int.reduceTDiv, Int.reduceTMod, ge_iff_le, Int.reduceGE, Nat.reducePow, Int.reduceEq, Int.reduceNeg, Int.reduceLE, Int.reducePow, Int.reduceLT, Int.reduceSub, Int.reduceAdd, Int.reduceMul, Int.reduceToNat, Option.map_some, ↓reduceIte, ite_not, beq_iff_eq, bne_iff_ne, ne_eq, beq_self_eq_true, beq_eq_false_iff_ne, bne_eq_false_iff_eq, resAll, resL, resV, reduceCtorEq, Option.some.injEq, exists_eq_left', blkAt, Nat.reduceLeDiff, Nat.reduceMul, eq_self, Nat.reduceLT, undef, fillV, evParts, footOp, wrOp, chk, disj, Nat.reduceBEq] | split))
        exact hJ _ _ _ _ _ (by omega) ⟨1, by omega, rfl, .inr ⟨by omega, rfl, rfl⟩⟩ (by refine .ren _ _ _ [1] (by decide) (by intro k h; first | exact absurd h (Nat.not_lt_zero k) | (simp at h; done) | (match k, h with | 0, _ => rfl)) ?_ ?_ <;> simp [KeepS, KeepH, ArgRel, ArgRelL, argL_cl, arg_cl, row_l_of, row_l_nil, bn_len, blkAt, hc, joinF, List.take_zero])
      · exfalso
        have : rs = [] := List.length_eq_zero_iff.1 (by omega)
        subst this
        simp [joinF] at h1
    · have d0 : (0 : Int) ≤ i := by omega
      have w1 : IntKind.i64.wrap ((i : Int) + 1) = ((i + 1 : Nat) : Int) := by rw [wrap_id _ (by omega) (by omega)]; omega
      by_cases hil : i < rs.length
      · have d1 : (i : Int) < rs.length := by omega
        have hr := rd_rows rs i hil
        have hc := join_take rs i hil
        have hb := hle (i + 1)
        have hs : Sm (joinF (rs.take i)) (rs.getD i .nil).l.length := by have := hcap i hil; simp only [Sm]; omega
        (repeat' (first | simp (maxSteps := 2000000) -implicitDefEqProofs only [A_slices_Concat_byte_byte_L1, d0, d1, w1, hr, idx_rows, hs, lr, lr2, oO, oN, oG, oNG, oM, oF, oL, rg, ci, Nat.reduceEqDiff, Nat.reduceAdd, Nat.reduceSub, Int.reduceTDiv, Int.reduceTMod, ge_iff_le, Int.reduceGE, Nat.reducePow, Int.reduceEq, Int.reduceNeg, Int.reduceLE, Int.reducePow, Int.reduceLT, Int.reduceSub, Int.reduceAdd, Int.reduceMul, Int.reduceToNat, Option.map_some, ↓reduceIte, ite_not, beq_iff_eq, bne_iff_ne, ne_eq, beq_self_eq_true, beq_eq_false_iff_ne, bne_eq_false_iff_eq, resAll, resL, resV, reduceCtorEq, Option.some.injEq, exists_eq_left', blkAt, Nat.reduceLeDiff, Nat.reduceMul, eq_self, Nat.reduceLT, undef, fillV, evParts, footOp, wrOp, chk, disj, Nat.reduceBEq] | split))
        exact hJ _ _ _ _ _ (by omega) ⟨i + 1, by omega, rfl, .inr ⟨by omega, rfl, rfl⟩⟩ (by refine .ren _ _ _ [1] (by decide) (by intro k h; first | exact absurd h (Nat.not_lt_zero k) | (simp at h; done) | (match k, h with | 0, _ => rfl)) ?_ ?_ <;> simp [KeepS, KeepH, ArgRel, ArgRelL, argL_cl, arg_cl, row_l_of, row_l_nil, bn_len, blkAt, hc])
      · obtain rfl : i = rs.length := by omega
        have d1 : ¬ ((rs.length : Nat) : Int) < rs.length := by omega
        simp (maxSteps := 2000000) -implicitDefEqProofs only [A_slices_Concat_byte_byte_L1, K_slices_Concat_byte_byte_L1, d1, List.take_length, lr, lr2, oO, oN, oG, oNG, oM, oF, oL, rg, ci, Nat.reduceEqDiff, Nat.reduceAdd, Nat.reduceSub, Int.reduceTDiv, Int.reduceTMod, ge_iff_le, Int.reduceGE, Nat.reducePow, Int.reduceEq, Int.reduceNeg, Int.reduceLE, Int.reducePow, Int.reduceLT, Int.reduceSub, Int.reduceAdd, Int.reduceMul, Int.reduceToNat, Option.map_some, ↓reduceIte, ite_not, beq_iff_eq, bne_iff_ne, ne_eq, beq_self_eq_true, beq_eq_false_iff_ne, bne_eq_false_iff_eq, resAll, resL, resV, reduceCtorEq, Option.some.injEq, exists_eq_left', blkAt, Nat.reduceLeDiff, Nat.reduceMul, eq_self, Nat.reduceLT, undef, fillV, evParts, footOp, wrOp, chk, disj, Nat.reduceBEq]
        exact out_row rfl (bs_closed _)
end Go.Proofs.Ytmmaenfjnkoknaa.VA

/- Numbers out of bytes. -/
set_option linter.unusedVariables false
set_option linter.unusedSimpArgs false
namespace Go.Proofs.Ytmmaenfjnkoknaa.VA
open Go
attribute [local irreducible] WK NK XK TK RK FK CK CFK CallRel C
theorem or64 (v : Nat) (b : UInt8) : evBin .or (.sc (.int .u64 ((v * 256 % 18446744073709551616 : Nat) : Int))) (.sc (.int .u64 (b.toNat : Int))) = some (.sc (.int .u64 ((v * 256 % 18446744073709551616 + b.toNat : Nat) : Int))) := by
  have hb := b.toNat_lt
  rw [bin_or]
  have e : (BitVec.ofInt IntKind.u64.bits ((v * 256 % 18446744073709551616 : Nat) : Int) ||| BitVec.ofInt IntKind.u64.bits (b.toNat : Int)).toNat = v * 256 % 18446744073709551616 + b.toNat := by
    rw [BitVec.toNat_or, ofInt_nat, ofInt_nat]
    have h1 : (2 : Nat) ^ IntKind.u64.bits = 18446744073709551616 := by decide
    have h2 : v * 256 % 18446744073709551616 = (v % 72057594037927936) * 2 ^ 8 := by omega
    rw [h1, Nat.mod_mod, Nat.mod_eq_of_lt (show b.toNat < 18446744073709551616 by omega), h2, ← Nat.shiftLeft_eq, Nat.shiftLeft_add_eq_or_of_lt (show b.toNat < 2 ^ 8 by omega)]
  rw [e, u64_id _ (by omega) (by omega)]
def numB (l : List UInt8) : Nat := l.foldl (fun n b => n * 256 + b.toNat) 0
theorem numB_snoc (l : List UInt8) (b : UInt8) : numB (l ++ [b]) = numB l * 256 + b.toNat := by simp [numB]
theorem numB_lt (l : List UInt8) : numB l < 256 ^ l.length := by
  have key : ∀ (l : List UInt8) (n k : Nat), n < 256 ^ k → l.foldl (fun n b => n * 256 + b.toNat) n < 256 ^ (k + l.length) := by
    intro l
    induction l with
    | nil => intro n k h; simpa using h
    | cons b l ih =>
      intro n k h
      have hb := b.toNat_lt
      have := ih (n * 256 + b.toNat) (k + 1) (by rw [Nat.pow_succ]; omega)
      rw [List.foldl_cons, List.length_cons, show k + (l.length + 1) = k + 1 + l.length by omega]
      exact this
  have := key l 0 0 (by decide)
  simpa [numB] using this
theorem numB_nil : numB [] = 0 := rfl
theorem w64_b (b : UInt8) : IntKind.i64.wrap (b.toNat : Int) = (b.toNat : Int) := by
  have := b.toNat_lt
  exact wrap_id _ (by omega) (by omega)
end Go.Proofs.Ytmmaenfjnkoknaa.VA

/- The compact code of the book's functions. -/
set_option linter.unusedVariables false
set_option maxRecDepth 100000
namespace Go.Proofs.Ytmmaenfjnkoknaa.VA
open Go
noncomputable section
end
end Go.Proofs.Ytmmaenfjnkoknaa.VA

/- Rows cut, rows with room behind them. -/
set_option linter.unusedVariables false
set_option linter.unusedSimpArgs false
set_option maxRecDepth 100000
namespace Go.Proofs.Ytmmaenfjnkoknaa.VA
open Go
attribute [local irreducible] WK NK XK TK RK FK CK CFK CallRel C
end Go.Proofs.Ytmmaenfjnkoknaa.VA

/- Sums. -/
set_option linter.unusedVariables false
set_option linter.unusedSimpArgs false
set_option maxRecDepth 100000
namespace Go.Proofs.Ytmmaenfjnkoknaa.VA
open Go
attribute [local irreducible] WK NK XK TK RK FK CK CFK CallRel C
end Go.Proofs.Ytmmaenfjnkoknaa.VA

/- The document's own sums. -/
set_option linter.unusedVariables false
set_option linter.unusedSimpArgs false
set_option maxRecDepth 100000
namespace Go.Proofs.Ytmmaenfjnkoknaa.VA
open Go
attribute [local irreducible] WK NK XK TK RK FK CK CFK CallRel C
def W4.ok (x : W4) : Prop := x.a < 4294967296 ∧ x.b < 4294967296 ∧ x.c < 4294967296 ∧ x.d < 4294967296
end Go.Proofs.Ytmmaenfjnkoknaa.VA

/- Keyed sums, streams. -/
set_option linter.unusedVariables false
set_option linter.unusedSimpArgs false
set_option maxRecDepth 100000
namespace Go.Proofs.Ytmmaenfjnkoknaa.VA
open Go
attribute [local irreducible] WK NK XK TK RK FK CK CFK CallRel C
end Go.Proofs.Ytmmaenfjnkoknaa.VA

/- The document's own keyed sums and streams. -/
set_option linter.unusedVariables false
set_option linter.unusedSimpArgs false
set_option maxRecDepth 100000
namespace Go.Proofs.Ytmmaenfjnkoknaa.VA
open Go
attribute [local irreducible] WK NK XK TK RK FK CK CFK CallRel C
end Go.Proofs.Ytmmaenfjnkoknaa.VA
