/- Layer 6's laws: rows of bytes are read as the document says. -/
import Derived.Test.YtmmaenfjnkoknaaClaw6
import Derived.Test.YtmmaenfjnkoknaaPR
import Derived.Test.YtmmaenfjnkoknaaVC
set_option linter.unusedVariables false
set_option linter.unusedSimpArgs false
set_option maxRecDepth 100000
namespace Go.Proofs.Ytmmaenfjnkoknaa.VA
open Go
attribute [local irreducible] WK NK XK TK RK FK CK CFK CallRel C
attribute [local irreducible] putV putQ putP putR
theorem takeL8_lt (l : List UInt8) : (numB (takeL 8 l) : Int) < 18446744073709551616 := by
  have lt := numB_lt (takeL 8 l)
  rw [takeL_len] at lt
  have : (256 : Nat) ^ 8 = 18446744073709551616 := by decide
  omega
theorem textR_le (r : Rd) : (textR r).l.length ≤ 255 := by
  have hr := oneV_range r
  unfold textR; split
  · rw [cut_l]; simp
  · rw [row_l_of, takeL_len]; omega
attribute [local irreducible] dropS textS textR rtextR oneV takeL bnT numB RightV RightQ RightP RightR rd0
theorem req6 (b : Row) : ∃ (q : Req) (e : Int) (ok : Bool), C Try.prog 112 [rowV b] [] (.tup [.agg (cReq q), vi .i64 e]) [] ∧ C Try.prog 113 [rowV b] [] (.tup [.agg (cReq q), vb ok]) [] ∧
    C Try.prog 62 [.agg (cReq q), .agg (cReq q)] [] (vb true) [] ∧ (ok = true ∧ e = 0 ∨ ok = false ∧ e = 12) := by
  have c1 := toRequest_C b
  have c2 := rtoRequest_C b
  by_cases h : reqOK (rd0 b)
  · rw [if_pos h] at c1 c2
    have n1 : (reqV (rd0 b)).num = (numB (takeL 8 (reqS (rd0 b)).s7.b.l) : Int) := rfl
    have n2 : (reqV (rd0 b)).secret = textR (reqS (rd0 b)).s8 := rfl
    have n3 := takeL8_lt (reqS (rd0 b)).s7.b.l
    have n4 := textR_le (reqS (rd0 b)).s8
    exact ⟨_, _, _, c1, c2, rrequests_C _ (by rw [n1]; omega) (by rw [n1]; exact n3) (by rw [n2]; omega), .inl ⟨rfl, rfl⟩⟩
  · rw [if_neg h] at c1 c2
    exact ⟨_, _, _, c1, c2, rrequests_C _ (by decide) (by decide) (by decide), .inr ⟨rfl, rfl⟩⟩
theorem rpl6 (b : Row) : ∃ (q : Rpl) (e : Int) (ok : Bool), C Try.prog 114 [rowV b] [] (.tup [.agg (cRpl q), vi .i64 e]) [] ∧ C Try.prog 115 [rowV b] [] (.tup [.agg (cRpl q), vb ok]) [] ∧ (ok = true ∧ e = 0 ∨ ok = false ∧ e = 12) := by
  have c1 := toReply_C b
  have c2 := rtoReply_C b
  by_cases h : rplOK (rd0 b)
  · rw [if_pos h] at c1 c2
    exact ⟨_, _, _, c1, c2, .inl ⟨rfl, rfl⟩⟩
  · rw [if_neg h] at c1 c2
    exact ⟨_, _, _, c1, c2, .inr ⟨rfl, rfl⟩⟩
theorem seqV_le (r : Rd) : (recS r).x.vaults.l.length ≤ 5 := by
  unfold recS
  split
  · simp [Lst.l]
  · split
    · simp [Lst.l]
    · split
      · simp only [lstOf_l, seqV_len]; omega
      · split <;> simp [Lst.l]
theorem rec6 (b : Row) : ∃ (q : Rec) (e : Int) (ok : Bool), C Try.prog 116 [rowV b] [] (.tup [.agg (cRec q), vi .i64 e]) [] ∧ C Try.prog 117 [rowV b] [] (.tup [.agg (cRec q), vb ok]) [] ∧
    C Try.prog 69 [.agg (cRec q), .agg (cRec q)] [] (vb true) [] ∧ (ok = true ∧ e = 0 ∨ ok = false ∧ e = 12) := by
  have c1 := toRecord_C b
  have c2 := rtoRecord_C b
  unfold recOut at c1
  unfold rrecOut at c2
  by_cases h : endP (recS (rd0 b)).e ∧ RightR (recS (rd0 b)).x
  · rw [if_pos h] at c1 c2
    exact ⟨_, _, _, c1, c2, rrecords_C _ _ (sameR_self _) (Nat.le_trans (seqV_le _) (by decide)), .inl ⟨rfl, rfl⟩⟩
  · rw [if_neg h] at c1 c2
    exact ⟨_, _, _, c1, c2, rrecords_C _ _ (sameR_self _) (by decide), .inr ⟨rfl, rfl⟩⟩
theorem vlt6 (b : Row) : (∃ (v : Vlt) (E : Rd), C Try.prog 109 [rowV b] [] (.tup [.agg (cVlt v), vi .i64 (usedF b E), vi .i64 0]) [] ∧ C Try.prog 110 [.ref 0 0] [cRd (rd0 b)] (.tup [.agg (cVlt v), vb true]) [some (cRd E)]) ∨
    (∃ E : Rd, C Try.prog 109 [rowV b] [] (.tup [.agg (cVlt Vlt.zero), vi .i64 0, vi .i64 12]) [] ∧ C Try.prog 110 [.ref 0 0] [cRd (rd0 b)] (.tup [.agg (cVlt Vlt.zero), vb false]) [some (cRd E)]) := by
  have c1 := toVault_C b
  by_cases h : rvltOK (rd0 b)
  · have hb := (vlt_same (rd0 b)).1.2 h
    rw [if_neg (by rw [hb]; decide)] at c1
    exact .inl ⟨_, _, c1, rvaultT_C _ (ok0 b) h⟩
  · have hb := vlt_bad _ h
    rw [if_pos hb] at c1
    exact .inr ⟨_, c1, rvaultN_C _ (ok0 b) h⟩
set_option maxHeartbeats 8000000 in
theorem reads6_C (b : Row) : C Try.prog 44 [rowV b] [] (vb true) [] := by
  refine C_of mixed Try.func44 A_clavigerlaw6_reads_ok A_clavigerlaw6_reads_res _ A_clavigerlaw6_reads_nt ?_
  obtain ⟨q, e, ok, q1, q2, q3, qo⟩ := req6 b
  obtain ⟨p, e', ok', p1, p2, po⟩ := rpl6 b
  have p3 := rreplies_C p
  obtain ⟨s, e'', ok'', s1, s2, s3, so⟩ := rec6 b
  have e0 : (⟨b, Rd.zero.bad⟩ : Rd) = rd0 b := rd0_of b
  rcases vlt6 b with ⟨v, E, v1, v2⟩ | ⟨E, v1, v2⟩
  · have ss := sameV_self v
    have hu : IntKind.i64.wrap ((b.l.length : Int) - E.b.l.length) = usedF b E := rfl
    generalize usedF b E = u at *
    rcases qo with ⟨rfl, rfl⟩ | ⟨rfl, rfl⟩
    all_goals ((repeat' (first | simp (maxSteps := 2000000) -implicitDefEqProofs only [A_clavigerlaw6_reads, e0, ss, hu, Int.reduceBNe, Int.reduceBEq, len_lst, rk_ext, fk_ext, sm_c, sm_a, numI_len, lr_api, lr, lr2, oO, oN, oG, oNG, oM, oF, oL, rg, ci, Nat.reduceEqDiff, Nat.reduceAdd, Nat.reduceSub, Int.reduceTDiv, Int.reduceTMod, ge_iff_le, Int.reduceGE, Nat.reducePow, Int.reduceEq, Int.reduceNeg, Int.reduceLE, Int.reducePow, Int.reduceLT, Int.reduceSub, Int.reduceAdd, Int.reduceMul, Int.reduceToNat, Option.map_some, ↓reduceIte, ite_not, beq_iff_eq, bne_iff_ne, ne_eq, beq_self_eq_true, beq_eq_false_iff_ne, bne_eq_false_iff_eq, resAll, resL, resV, reduceCtorEq, Option.some.injEq, exists_eq_left', blkAt, Nat.reduceLeDiff, Nat.reduceMul, eq_self, Nat.reduceLT, undef, fillV, evParts, footOp, wrOp, chk, disj, Nat.reduceBEq] | split | ((first | apply ck_call | apply cfk_call); (first | (apply call_pure (v1) cll cl) | (apply call_upd (v2) rfl cll cll cll cl) | (apply call_pure (rsame_C v v) cll cl) | (apply call_pure (q1) cll cl) | (apply call_pure (q2) cll cl) | (apply call_pure (q3) cll cl))))))
    all_goals (rcases po with ⟨rfl, rfl⟩ | ⟨rfl, rfl⟩)
    all_goals ((repeat' (first | simp (maxSteps := 2000000) -implicitDefEqProofs only [Int.reduceBNe, Int.reduceBEq, len_lst, rk_ext, fk_ext, sm_c, sm_a, numI_len, lr_api, lr, lr2, oO, oN, oG, oNG, oM, oF, oL, rg, ci, Nat.reduceEqDiff, Nat.reduceAdd, Nat.reduceSub, Int.reduceTDiv, Int.reduceTMod, ge_iff_le, Int.reduceGE, Nat.reducePow, Int.reduceEq, Int.reduceNeg, Int.reduceLE, Int.reducePow, Int.reduceLT, Int.reduceSub, Int.reduceAdd, Int.reduceMul, Int.reduceToNat, Option.map_some, ↓reduceIte, ite_not, beq_iff_eq, bne_iff_ne, ne_eq, beq_self_eq_true, beq_eq_false_iff_ne, bne_eq_false_iff_eq, resAll, resL, resV, reduceCtorEq, Option.some.injEq, exists_eq_left', blkAt, Nat.reduceLeDiff, Nat.reduceMul, eq_self, Nat.reduceLT, undef, fillV, evParts, footOp, wrOp, chk, disj, Nat.reduceBEq] | split | ((first | apply ck_call | apply cfk_call); (first | (apply call_pure (p1) cll cl) | (apply call_pure (p2) cll cl) | (apply call_pure (p3) cll cl))))))
    all_goals (rcases so with ⟨rfl, rfl⟩ | ⟨rfl, rfl⟩)
    all_goals ((repeat' (first | simp (maxSteps := 2000000) -implicitDefEqProofs only [Int.reduceBNe, Int.reduceBEq, len_lst, rk_ext, fk_ext, sm_c, sm_a, numI_len, lr_api, lr, lr2, oO, oN, oG, oNG, oM, oF, oL, rg, ci, Nat.reduceEqDiff, Nat.reduceAdd, Nat.reduceSub, Int.reduceTDiv, Int.reduceTMod, ge_iff_le, Int.reduceGE, Nat.reducePow, Int.reduceEq, Int.reduceNeg, Int.reduceLE, Int.reducePow, Int.reduceLT, Int.reduceSub, Int.reduceAdd, Int.reduceMul, Int.reduceToNat, Option.map_some, ↓reduceIte, ite_not, beq_iff_eq, bne_iff_ne, ne_eq, beq_self_eq_true, beq_eq_false_iff_ne, bne_eq_false_iff_eq, resAll, resL, resV, reduceCtorEq, Option.some.injEq, exists_eq_left', blkAt, Nat.reduceLeDiff, Nat.reduceMul, eq_self, Nat.reduceLT, undef, fillV, evParts, footOp, wrOp, chk, disj, Nat.reduceBEq] | split | ((first | apply ck_call | apply cfk_call); (first | (apply call_pure (s1) cll cl) | (apply call_pure (s2) cll cl) | (apply call_pure (s3) cll cl))))))
    all_goals (refine out_eq ?_ (cl); first | rfl | (simp_all []; done) | (simp_all []; intros; omega) | (simp []; (repeat' split) <;> first | rfl | omega | (simp_all; done) | (simp_all; intros; omega)))
  · have ss := sameV_self Vlt.zero
    rcases qo with ⟨rfl, rfl⟩ | ⟨rfl, rfl⟩
    all_goals ((repeat' (first | simp (maxSteps := 2000000) -implicitDefEqProofs only [A_clavigerlaw6_reads, e0, ss, Int.reduceBNe, Int.reduceBEq, len_lst, rk_ext, fk_ext, sm_c, sm_a, numI_len, lr_api, lr, lr2, oO, oN, oG, oNG, oM, oF, oL, rg, ci, Nat.reduceEqDiff, Nat.reduceAdd, Nat.reduceSub, Int.reduceTDiv, Int.reduceTMod, ge_iff_le, Int.reduceGE, Nat.reducePow, Int.reduceEq, Int.reduceNeg, Int.reduceLE, Int.reducePow, Int.reduceLT, Int.reduceSub, Int.reduceAdd, Int.reduceMul, Int.reduceToNat, Option.map_some, ↓reduceIte, ite_not, beq_iff_eq, bne_iff_ne, ne_eq, beq_self_eq_true, beq_eq_false_iff_ne, bne_eq_false_iff_eq, resAll, resL, resV, reduceCtorEq, Option.some.injEq, exists_eq_left', blkAt, Nat.reduceLeDiff, Nat.reduceMul, eq_self, Nat.reduceLT, undef, fillV, evParts, footOp, wrOp, chk, disj, Nat.reduceBEq] | split | ((first | apply ck_call | apply cfk_call); (first | (apply call_pure (v1) cll cl) | (apply call_upd (v2) rfl cll cll cll cl) | (apply call_pure (rsame_C Vlt.zero Vlt.zero) cll cl) | (apply call_pure (q1) cll cl) | (apply call_pure (q2) cll cl) | (apply call_pure (q3) cll cl))))))
    all_goals (rcases po with ⟨rfl, rfl⟩ | ⟨rfl, rfl⟩)
    all_goals ((repeat' (first | simp (maxSteps := 2000000) -implicitDefEqProofs only [Int.reduceBNe, Int.reduceBEq, len_lst, rk_ext, fk_ext, sm_c, sm_a, numI_len, lr_api, lr, lr2, oO, oN, oG, oNG, oM, oF, oL, rg, ci, Nat.reduceEqDiff, Nat.reduceAdd, Nat.reduceSub, Int.reduceTDiv, Int.reduceTMod, ge_iff_le, Int.reduceGE, Nat.reducePow, Int.reduceEq, Int.reduceNeg, Int.reduceLE, Int.reducePow, Int.reduceLT, Int.reduceSub, Int.reduceAdd, Int.reduceMul, Int.reduceToNat, Option.map_some, ↓reduceIte, ite_not, beq_iff_eq, bne_iff_ne, ne_eq, beq_self_eq_true, beq_eq_false_iff_ne, bne_eq_false_iff_eq, resAll, resL, resV, reduceCtorEq, Option.some.injEq, exists_eq_left', blkAt, Nat.reduceLeDiff, Nat.reduceMul, eq_self, Nat.reduceLT, undef, fillV, evParts, footOp, wrOp, chk, disj, Nat.reduceBEq] | split | ((first | apply ck_call | apply cfk_call); (first | (apply call_pure (p1) cll cl) | (apply call_pure (p2) cll cl) | (apply call_pure (p3) cll cl))))))
    all_goals (rcases so with ⟨rfl, rfl⟩ | ⟨rfl, rfl⟩)
    all_goals ((repeat' (first | simp (maxSteps := 2000000) -implicitDefEqProofs only [Int.reduceBNe, Int.reduceBEq, len_lst, rk_ext, fk_ext, sm_c, sm_a, numI_len, lr_api, lr, lr2, oO, oN, oG, oNG, oM, oF, oL, rg, ci, Nat.reduceEqDiff, Nat.reduceAdd, Nat.reduceSub, Int.reduceTDiv, Int.reduceTMod, ge_iff_le, Int.reduceGE, Nat.reducePow, Int.reduceEq, Int.reduceNeg, Int.reduceLE, Int.reducePow, Int.reduceLT, Int.reduceSub, Int.reduceAdd, Int.reduceMul, Int.reduceToNat, Option.map_some, ↓reduceIte, ite_not, beq_iff_eq, bne_iff_ne, ne_eq, beq_self_eq_true, beq_eq_false_iff_ne, bne_eq_false_iff_eq, resAll, resL, resV, reduceCtorEq, Option.some.injEq, exists_eq_left', blkAt, Nat.reduceLeDiff, Nat.reduceMul, eq_self, Nat.reduceLT, undef, fillV, evParts, footOp, wrOp, chk, disj, Nat.reduceBEq] | split | ((first | apply ck_call | apply cfk_call); (first | (apply call_pure (s1) cll cl) | (apply call_pure (s2) cll cl) | (apply call_pure (s3) cll cl))))))
    all_goals (refine out_eq ?_ (cl); first | rfl | (simp_all []; done) | (simp_all []; intros; omega) | (simp []; (repeat' split) <;> first | rfl | omega | (simp_all; done) | (simp_all; intros; omega)))
end Go.Proofs.Ytmmaenfjnkoknaa.VA
