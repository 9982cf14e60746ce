/- Handoff: whatever is opened is read alike by both sides. -/
import Derived.Test.YtfpoebmihjbknaaGreatFhand
import Derived.Test.YtfpoebmihjbknaaGreatVC
set_option linter.unusedVariables false
set_option linter.unusedSimpArgs false
set_option maxRecDepth 100000
namespace Go.Proofs.YtfpoebmihjbknaaGreat.VA
open Go
attribute [local irreducible] WK NK XK TK RK FK CK CFK CallRel C
attribute [local irreducible] putR sealF textF fits recS closeF
theorem dropS_ge (n : Nat) (r : Rd) (h : ¬ r.b.l.length < n) : (dropS n r).b.l = r.b.l.drop n ∧ (dropS n r).bad = r.bad := by
  unfold dropS
  rw [if_neg h]
  refine ⟨?_, rfl⟩
  show (r.b.cut n r.b.l.length).l = _
  rw [cut_l, List.take_of_length_le (by rw [List.length_drop]; omega)]
theorem dropS_lt (n : Nat) (r : Rd) (h : r.b.l.length < n) : dropS n r = ⟨.nil, true⟩ := if_pos h
theorem rightR_4 {r : Rec} (h : RightR r) : r.vaults.l.length ≤ 4 := by
  unfold RightR at h
  rcases h with h | ⟨_, h | h | h⟩
  · omega
  · omega
  · exact h.2.2.1
  · omega
theorem rd_tok (t : List UInt8) : ∃ (r1 r2 r3 : Rd) (a s : Int) (n : Nat),
    C Tryz.prog 24 [.ref 0 0] [cRd (rd0 (.of t))] (vi .i64 a) [some (cRd r1)] ∧
    C Tryz.prog 24 [.ref 0 0] [cRd r1] (vi .i64 s) [some (cRd r2)] ∧
    C Tryz.prog 25 [.ref 0 0] [cRd r2] (vi .u64 n) [some (cRd r3)] ∧
    (0 ≤ s) ∧ (t.length = 10 → r3.bad = false ∧ r3.b.l.length = 0 ∧ tokT t = ⟨a, s, n⟩) ∧ (t.length ≠ 10 → ¬ (r3.bad = false ∧ r3.b.l.length = 0)) := by
  have o0 := ok0 (.of t)
  refine ⟨_, _, _, _, _, _, rbyte_C (rd0 (.of t)) o0, rbyte_C _ (ok_drop 1 _ o0), rnumber_walk _ (ok_drop 1 _ (ok_drop 1 _ o0)), (oneV_range _).1, fun h => ?_, fun h => ?_⟩
  · have l0 : (rd0 (.of t)).b.l = t := rfl
    have l1 := dropS_ge 1 (rd0 (.of t)) (by rw [l0]; omega)
    rw [l0] at l1
    have l2 := dropS_ge 1 (dropS 1 (rd0 (.of t))) (by rw [l1.1, List.length_drop]; omega)
    rw [l1.1, List.drop_drop] at l2
    have l3 := dropS_ge 8 (dropS 1 (dropS 1 (rd0 (.of t)))) (by rw [l2.1, List.length_drop]; omega)
    refine ⟨by rw [l3.2, l2.2, l1.2]; rfl, by rw [l3.1, l2.1, List.drop_drop, List.length_drop]; omega, ?_⟩
    have t1 : ∀ l : List UInt8, 1 ≤ l.length → (takeL 1 l).getD 0 0 = l.getD 0 0 := fun l hl => by
      unfold takeL
      rw [if_neg (by omega)]
      cases l with
      | nil => simp at hl
      | cons x l => rfl
    have t8 : takeL 8 (t.drop 2) = t.drop 2 := by
      unfold takeL
      rw [if_neg (by rw [List.length_drop]; omega), List.take_of_length_le (by rw [List.length_drop]; omega)]
    unfold tokT oneV
    rw [l0, l1.1, l2.1, t1 t (by omega), t1 (t.drop 1) (by rw [List.length_drop]; omega), t8]
    rw [show (t.drop 1).getD 0 0 = t.getD 1 0 by simp [List.getD_eq_getElem?_getD]]
  · rintro ⟨hb, hl⟩
    have l0 : (rd0 (.of t)).b.l = t := rfl
    by_cases c1 : t.length < 1
    · rw [dropS_lt 1 (rd0 (.of t)) c1] at hb
      rw [dropS_lt 1 _ (by show (0 : Nat) < 1; decide), dropS_lt 8 _ (by show (0 : Nat) < 8; decide)] at hb
      cases hb
    · have l1 := dropS_ge 1 (rd0 (.of t)) c1
      rw [l0] at l1
      by_cases c2 : t.length < 2
      · rw [dropS_lt 1 (dropS 1 (rd0 (.of t))) (by rw [l1.1, List.length_drop]; omega), dropS_lt 8 _ (by show (0 : Nat) < 8; decide)] at hb
        cases hb
      · have l2 := dropS_ge 1 (dropS 1 (rd0 (.of t))) (by rw [l1.1, List.length_drop]; omega)
        rw [l1.1, List.drop_drop] at l2
        by_cases c3 : t.length < 10
        · rw [dropS_lt 8 _ (by rw [l2.1, List.length_drop]; omega)] at hb
          cases hb
        · have l3 := dropS_ge 8 (dropS 1 (dropS 1 (rd0 (.of t)))) (by rw [l2.1, List.length_drop]; omega)
          rw [l3.1, l2.1, List.drop_drop, List.length_drop] at hl
          omega
section
variable (k : Bn 16) (to : Int) (b : Row)
theorem first_cases :
    (∃ e : Int, e ≠ 0 ∧ C Tryz.prog 19 [.agg (dg k), vi .i64 to, rowV b] [] (.tup [.agg (cPcl Pcl.zero), vi .i64 e]) [] ∧ C Tryz.prog 20 [.agg (dg k), vi .u8 ((tb 64 to).toNat : Int), rowV b] [] (.tup [vnil, vi .i64 e]) []) ∨
    (C Tryz.prog 19 [.agg (dg k), vi .i64 to, rowV b] [] (.tup [.agg (cPcl Pcl.zero), vi .i64 12]) [] ∧ C Tryz.prog 20 [.agg (dg k), vi .u8 ((tb 64 to).toNat : Int), rowV b] [] (.tup [rowV (.of []), vi .i64 0]) []) ∨
    (∃ t : List UInt8, 0 < t.length ∧ ¬ ((t.getD 0 0).toNat : Int) < 8 ∧ C Tryz.prog 19 [.agg (dg k), vi .i64 to, rowV b] [] (.tup [.agg (cPcl Pcl.zero), vi .i64 12]) [] ∧ C Tryz.prog 20 [.agg (dg k), vi .u8 ((tb 64 to).toNat : Int), rowV b] [] (.tup [rowV (.of t), vi .i64 0]) []) ∨
    (∃ (t : List UInt8) (v : Rec) (w : Bool), 0 < t.length ∧ ((t.getD 0 0).toNat : Int) < 8 ∧ (w = false ∨ ¬ v.kind = 3) ∧ C Tryz.prog 19 [.agg (dg k), vi .i64 to, rowV b] [] (.tup [.agg (cPcl Pcl.zero), vi .i64 12]) [] ∧ C Tryz.prog 20 [.agg (dg k), vi .u8 ((tb 64 to).toNat : Int), rowV b] [] (.tup [rowV (.of t), vi .i64 0]) [] ∧ C Tryz.prog 21 [rowV (.of (t.drop 1))] [] (.tup [.agg (cRec v), vb w]) []) ∨
    (∃ (t : List UInt8) (v : Rec), 0 < t.length ∧ ((t.getD 0 0).toNat : Int) < 8 ∧ v.kind = 3 ∧ v.vaults.l.length ≤ 1000000 ∧ C Tryz.prog 19 [.agg (dg k), vi .i64 to, rowV b] [] (.tup [.agg (cPcl ⟨((t.getD 0 0).toNat : Int), v.shard, v.epoch, v.vaults⟩), vi .i64 0]) [] ∧ C Tryz.prog 20 [.agg (dg k), vi .u8 ((tb 64 to).toNat : Int), rowV b] [] (.tup [rowV (.of t), vi .i64 0]) [] ∧ C Tryz.prog 21 [rowV (.of (t.drop 1))] [] (.tup [.agg (cRec v), vb true]) []) := by
  rcases env_cases k (tb 64 to) b with ⟨e, he, o, u⟩ | ⟨o, u⟩ | ⟨t, h0, hl, o, u⟩
  · exact .inl ⟨e, he, hopenE_C k to b e he o, u⟩
  · exact .inr (.inl ⟨hopen0_C k to b o, u⟩)
  · have tp := List.length_pos_iff.2 h0
    by_cases hm : ((t.getD 0 0).toNat : Int) < 8
    · have tr := rtoRecord_C (.of (t.drop 1))
      have pr := toRecord_C (.of (t.drop 1))
      by_cases h3 : R3 (recS (rd0 (.of (t.drop 1))))
      · rw [rrecOut_yes h3] at tr
        rw [recOut_yes h3] at pr
        by_cases h4 : (recS (rd0 (.of (t.drop 1)))).x.kind = 3
        · exact .inr (.inr (.inr (.inr ⟨t, _, tp, hm, h4, by have := rightR_4 h3.2; omega, hopenT_C k to b t h0 ⟨by omega, hm⟩ _ h4 pr o, u, tr⟩)))
        · exact .inr (.inr (.inr (.inl ⟨t, _, _, tp, hm, .inr h4, hopenN_C k to b t h0 ⟨by omega, hm⟩ (fun h => h4 h.2) o, u, tr⟩)))
      · rw [rrecOut_no h3] at tr
        exact .inr (.inr (.inr (.inl ⟨t, _, _, tp, hm, .inl rfl, hopenN_C k to b t h0 ⟨by omega, hm⟩ (fun h => h3 h.1) o, u, tr⟩)))
    · exact .inr (.inr (.inl ⟨t, tp, hm, hopenM_C k to b t h0 (fun h => hm h.2) o, u⟩))
theorem second_cases :
    (∃ e : Int, e ≠ 0 ∧ C Tryz.prog 23 [.agg (dg k), vi .i64 to, rowV b] [] (.tup [.agg (cTok Tok.zero), vi .i64 e]) [] ∧ C Tryz.prog 20 [.agg (dg k), vi .u8 ((tb 96 to).toNat : Int), rowV b] [] (.tup [vnil, vi .i64 e]) []) ∨
    (∃ (t : List UInt8) (r1 r2 r3 : Rd) (a s : Int) (n : Nat), C Tryz.prog 20 [.agg (dg k), vi .u8 ((tb 96 to).toNat : Int), rowV b] [] (.tup [rowV (.of t), vi .i64 0]) [] ∧
      C Tryz.prog 24 [.ref 0 0] [cRd (rd0 (.of t))] (vi .i64 a) [some (cRd r1)] ∧
      C Tryz.prog 24 [.ref 0 0] [cRd r1] (vi .i64 s) [some (cRd r2)] ∧
      C Tryz.prog 25 [.ref 0 0] [cRd r2] (vi .u64 n) [some (cRd r3)] ∧
      ((C Tryz.prog 23 [.agg (dg k), vi .i64 to, rowV b] [] (.tup [.agg (cTok Tok.zero), vi .i64 12]) [] ∧ ¬ (r3.bad = false ∧ (r3.b.l.length : Int) = 0 ∧ memb a ∧ s < 16 ∧ (n : Int) ≥ 1 ∧ (n : Int) ≤ 1099511627776)) ∨
       (C Tryz.prog 23 [.agg (dg k), vi .i64 to, rowV b] [] (.tup [.agg (cTok ⟨a, s, n⟩), vi .i64 0]) [] ∧ r3.bad = false ∧ (r3.b.l.length : Int) = 0 ∧ memb a ∧ s < 16 ∧ (n : Int) ≥ 1 ∧ (n : Int) ≤ 1099511627776))) := by
  have mk : ∀ t : List UInt8, C Tryz.prog 20 [.agg (dg k), vi .u8 ((tb 96 to).toNat : Int), rowV b] [] (.tup [rowV (.of t), vi .i64 0]) [] → t.length ≠ 10 → C Tryz.prog 23 [.agg (dg k), vi .i64 to, rowV b] [] (.tup [.agg (cTok Tok.zero), vi .i64 12]) [] → ((∃ e : Int, e ≠ 0 ∧ C Tryz.prog 23 [.agg (dg k), vi .i64 to, rowV b] [] (.tup [.agg (cTok Tok.zero), vi .i64 e]) [] ∧ C Tryz.prog 20 [.agg (dg k), vi .u8 ((tb 96 to).toNat : Int), rowV b] [] (.tup [vnil, vi .i64 e]) []) ∨
    (∃ (t : List UInt8) (r1 r2 r3 : Rd) (a s : Int) (n : Nat), C Tryz.prog 20 [.agg (dg k), vi .u8 ((tb 96 to).toNat : Int), rowV b] [] (.tup [rowV (.of t), vi .i64 0]) [] ∧
      C Tryz.prog 24 [.ref 0 0] [cRd (rd0 (.of t))] (vi .i64 a) [some (cRd r1)] ∧
      C Tryz.prog 24 [.ref 0 0] [cRd r1] (vi .i64 s) [some (cRd r2)] ∧
      C Tryz.prog 25 [.ref 0 0] [cRd r2] (vi .u64 n) [some (cRd r3)] ∧
      ((C Tryz.prog 23 [.agg (dg k), vi .i64 to, rowV b] [] (.tup [.agg (cTok Tok.zero), vi .i64 12]) [] ∧ ¬ (r3.bad = false ∧ (r3.b.l.length : Int) = 0 ∧ memb a ∧ s < 16 ∧ (n : Int) ≥ 1 ∧ (n : Int) ≤ 1099511627776)) ∨
       (C Tryz.prog 23 [.agg (dg k), vi .i64 to, rowV b] [] (.tup [.agg (cTok ⟨a, s, n⟩), vi .i64 0]) [] ∧ r3.bad = false ∧ (r3.b.l.length : Int) = 0 ∧ memb a ∧ s < 16 ∧ (n : Int) ≥ 1 ∧ (n : Int) ≤ 1099511627776)))) := fun t u hl c => by
    obtain ⟨r1, r2, r3, a, s, n, q1, q2, q3, hs, _, hno⟩ := rd_tok t
    exact Or.inr ⟨t, r1, r2, r3, a, s, n, u, q1, q2, q3, .inl ⟨c, fun h => hno hl ⟨h.1, by omega⟩⟩⟩
  rcases env_cases k (tb 96 to) b with ⟨e, he, o, u⟩ | ⟨o, u⟩ | ⟨t, h0, hl, o, u⟩
  · exact .inl ⟨e, he, thxE_C k to b e he o, u⟩
  · exact mk [] u (by decide) (thx0_C k to b o)
  · by_cases h10 : t.length = 10
    · obtain ⟨r1, r2, r3, a, s, n, q1, q2, q3, hs, hy, _⟩ := rd_tok t
      obtain ⟨y1, y2, y3⟩ := hy h10
      refine .inr ⟨t, r1, r2, r3, a, s, n, u, q1, q2, q3, ?_⟩
      by_cases hr : RightT (tokT t)
      · have c := thx_C k to b t h10 o true (rightT_C _ hr) (.tup [.agg (cTok (tokT t)), vi .i64 0]) rfl
        rw [y3] at c hr
        exact .inr ⟨c, y1, by omega, hr.1, hr.2.1.2, hr.2.2.1, hr.2.2.2⟩
      · have c := thx_C k to b t h10 o false (rightTF_C _ hr) (.tup [.agg (cTok Tok.zero), vi .i64 12]) rfl
        rw [y3] at hr
        exact .inl ⟨c, fun h => hr ⟨h.2.2.1, ⟨hs, h.2.2.2.1⟩, h.2.2.2.2.1, h.2.2.2.2.2⟩⟩
    · exact mk t u h10 (thxL_C k to b t h10 o)
set_option maxHeartbeats 4000000 in
theorem tl3_e {x0 x4 x5 x6 x7 x8 x9 x10 x11 x12 x13 x14 x15 x16 x17 x18 x19 x20 x21 x22 x23 x24 x25 x26 x27 x28 x29 x30 x31 x32 x33 x34 x35 x36 x37 x38 x39 x40 x41 x42 x43 x44 x45 x46 x47 x48 x49 x50 x51 x52 x53 x54 x55 x56 x57 x58 x59 x60 x61 x62 x63 x64 x65 x66 x67 x68 x69 x70 x71 x72 x73 x74 x75 x76 x77 x78 x79 x80 x81 x82 x83 x84 x85 x86 x87 x88 x89 x90 x91 x92 x93 x94 x95 x96 x97 x98 x99 x100 x101 x102 x103 x104 x105 x106 x107 x108 x109 x110 x111 x112 x113 x114 x115 x116 x117 x118 x119 x120 x121 x122 x123 x124 x125 x126 x127 x128 x129 x130 x131 x132 x133 x134 x135 x136 x137 x138 x139 x140 x141 x142 x143 x144 x145 x146 x147 x148 x149 x150 x151 x152 x153 x154 x155 x156 x157 x158 x159 x160 x161 x162 x163 x164 x165 x166 x167 x168 x169 x170 x171 x172 x173 x174 x175 : V} {y1 y2 : Option (List V)} (e : Int) (he : e ≠ 0) (o2 : C Tryz.prog 23 [.agg (dg k), vi .i64 to, rowV b] [] (.tup [.agg (cTok Tok.zero), vi .i64 e]) []) (u2 : C Tryz.prog 20 [.agg (dg k), vi .u8 ((tb 96 to).toNat : Int), rowV b] [] (.tup [vnil, vi .i64 e]) []) :
    WK Tryz.prog 0 (Post [ARes.tmp 6] 0 (vb true) []) A_clavigerlaw19_opens_T .fin [x0, vi .i64 to, rowV b, .ref 0 0, x4, x5, x6, x7, x8, x9, x10, x11, x12, x13, x14, x15, x16, x17, x18, x19, x20, x21, x22, x23, x24, x25, x26, x27, x28, x29, x30, x31, x32, x33, x34, x35, x36, x37, x38, x39, x40, x41, x42, x43, x44, x45, x46, x47, x48, x49, x50, x51, x52, x53, x54, x55, x56, x57, x58, x59, x60, x61, x62, x63, x64, x65, x66, x67, x68, x69, x70, x71, x72, x73, x74, x75, x76, x77, x78, x79, x80, x81, x82, x83, x84, x85, x86, x87, x88, x89, x90, x91, x92, x93, x94, x95, x96, x97, x98, x99, x100, x101, x102, x103, x104, x105, x106, x107, x108, x109, x110, x111, x112, x113, x114, x115, x116, x117, x118, x119, x120, x121, x122, x123, x124, x125, x126, x127, x128, x129, x130, x131, x132, x133, x134, x135, x136, x137, x138, x139, x140, x141, x142, x143, x144, x145, x146, x147, x148, x149, x150, x151, x152, x153, x154, x155, x156, x157, x158, x159, x160, x161, x162, x163, x164, x165, x166, x167, x168, x169, x170, x171, x172, x173, x174, x175] [some (dg k), y1, y2] := by
  have w2 := tb_eq 96 to
  (repeat' (first | simp (maxSteps := 2000000) -implicitDefEqProofs only [A_clavigerlaw19_opens_T, w2, he, len_lst, cells_lst, rk_ext, fk_ext, sm_c, sm_a, lrp, lr_api, lr_keep, lr_hand, lr, lr2, oO, oN, oG, oNG, oM, oF, oL, rg, ci, seval, resAll, resL, resV, blkAt, undef, fillV, evParts, footOp, wrOp, chk, disj] | split | ((first | apply ck_call | apply cfk_call); (first | (apply call_pure (o2) cll cl) | (apply call_pure (u2) cll cl)))))
  exact out_eq rfl cl
set_option maxHeartbeats 4000000 in
theorem tl3_b {x0 x4 x5 x6 x7 x8 x9 x10 x11 x12 x13 x14 x15 x16 x17 x18 x19 x20 x21 x22 x23 x24 x25 x26 x27 x28 x29 x30 x31 x32 x33 x34 x35 x36 x37 x38 x39 x40 x41 x42 x43 x44 x45 x46 x47 x48 x49 x50 x51 x52 x53 x54 x55 x56 x57 x58 x59 x60 x61 x62 x63 x64 x65 x66 x67 x68 x69 x70 x71 x72 x73 x74 x75 x76 x77 x78 x79 x80 x81 x82 x83 x84 x85 x86 x87 x88 x89 x90 x91 x92 x93 x94 x95 x96 x97 x98 x99 x100 x101 x102 x103 x104 x105 x106 x107 x108 x109 x110 x111 x112 x113 x114 x115 x116 x117 x118 x119 x120 x121 x122 x123 x124 x125 x126 x127 x128 x129 x130 x131 x132 x133 x134 x135 x136 x137 x138 x139 x140 x141 x142 x143 x144 x145 x146 x147 x148 x149 x150 x151 x152 x153 x154 x155 x156 x157 x158 x159 x160 x161 x162 x163 x164 x165 x166 x167 x168 x169 x170 x171 x172 x173 x174 x175 : V} {y1 y2 : Option (List V)} (t : List UInt8) (r0 r1 r2 r3 : Rd) (e0 : (⟨.of t, Rd.zero.bad⟩ : Rd) = r0) (a s : Int) (n : Nat) (u2 : C Tryz.prog 20 [.agg (dg k), vi .u8 ((tb 96 to).toNat : Int), rowV b] [] (.tup [rowV (.of t), vi .i64 0]) [])
    (q1 : C Tryz.prog 24 [.ref 0 0] [cRd r0] (vi .i64 a) [some (cRd r1)]) (q2 : C Tryz.prog 24 [.ref 0 0] [cRd r1] (vi .i64 s) [some (cRd r2)]) (q3 : C Tryz.prog 25 [.ref 0 0] [cRd r2] (vi .u64 n) [some (cRd r3)]) (o2 : C Tryz.prog 23 [.agg (dg k), vi .i64 to, rowV b] [] (.tup [.agg (cTok Tok.zero), vi .i64 12]) []) (hb : ¬ (r3.bad = false ∧ (r3.b.l.length : Int) = 0 ∧ memb a ∧ s < 16 ∧ (n : Int) ≥ 1 ∧ (n : Int) ≤ 1099511627776)) :
    WK Tryz.prog 0 (Post [ARes.tmp 6] 0 (vb true) []) A_clavigerlaw19_opens_T .fin [x0, vi .i64 to, rowV b, .ref 0 0, x4, x5, x6, x7, x8, x9, x10, x11, x12, x13, x14, x15, x16, x17, x18, x19, x20, x21, x22, x23, x24, x25, x26, x27, x28, x29, x30, x31, x32, x33, x34, x35, x36, x37, x38, x39, x40, x41, x42, x43, x44, x45, x46, x47, x48, x49, x50, x51, x52, x53, x54, x55, x56, x57, x58, x59, x60, x61, x62, x63, x64, x65, x66, x67, x68, x69, x70, x71, x72, x73, x74, x75, x76, x77, x78, x79, x80, x81, x82, x83, x84, x85, x86, x87, x88, x89, x90, x91, x92, x93, x94, x95, x96, x97, x98, x99, x100, x101, x102, x103, x104, x105, x106, x107, x108, x109, x110, x111, x112, x113, x114, x115, x116, x117, x118, x119, x120, x121, x122, x123, x124, x125, x126, x127, x128, x129, x130, x131, x132, x133, x134, x135, x136, x137, x138, x139, x140, x141, x142, x143, x144, x145, x146, x147, x148, x149, x150, x151, x152, x153, x154, x155, x156, x157, x158, x159, x160, x161, x162, x163, x164, x165, x166, x167, x168, x169, x170, x171, x172, x173, x174, x175] [some (dg k), y1, y2] := by
  have w2 := tb_eq 96 to
  cases h1 : r3.bad with
  | true =>
    (repeat' (first | simp (maxSteps := 2000000) -implicitDefEqProofs only [A_clavigerlaw19_opens_T, w2, e0, h1, len_lst, cells_lst, rk_ext, fk_ext, sm_c, sm_a, lrp, lr_api, lr_keep, lr_hand, lr, lr2, oO, oN, oG, oNG, oM, oF, oL, rg, ci, seval, resAll, resL, resV, blkAt, undef, fillV, evParts, footOp, wrOp, chk, disj] | split | ((first | apply ck_call | apply cfk_call); (first | (apply call_pure (o2) cll cl) | (apply call_pure (u2) cll cl) | (apply call_upd (q1) rfl cll cll cll cl) | (apply call_upd (q2) rfl cll cll cll cl) | (apply call_upd (q3) rfl cll cll cll cl)))))
    exact out_eq rfl cl
  | false =>
    by_cases h2 : (r3.b.l.length : Int) = 0
    · by_cases h3 : memb a
      · have lm := lmemberT_C a h3
        by_cases h4 : s < 16
        · by_cases h5 : (n : Int) ≥ 1
          · have h6 : ¬ (n : Int) ≤ 1099511627776 := fun h6 => hb ⟨h1, h2, h3, h4, h5, h6⟩
            (repeat' (first | simp (maxSteps := 2000000) -implicitDefEqProofs only [A_clavigerlaw19_opens_T, w2, e0, h1, h2, h4, h5, h6, len_lst, cells_lst, rk_ext, fk_ext, sm_c, sm_a, lrp, lr_api, lr_keep, lr_hand, lr, lr2, oO, oN, oG, oNG, oM, oF, oL, rg, ci, seval, resAll, resL, resV, blkAt, undef, fillV, evParts, footOp, wrOp, chk, disj] | split | ((first | apply ck_call | apply cfk_call); (first | (apply call_pure (o2) cll cl) | (apply call_pure (u2) cll cl) | (apply call_upd (q1) rfl cll cll cll cl) | (apply call_upd (q2) rfl cll cll cll cl) | (apply call_upd (q3) rfl cll cll cll cl) | (apply call_pure (lm) cll cl)))))
            exact out_eq rfl cl
          · (repeat' (first | simp (maxSteps := 2000000) -implicitDefEqProofs only [A_clavigerlaw19_opens_T, w2, e0, h1, h2, h4, h5, len_lst, cells_lst, rk_ext, fk_ext, sm_c, sm_a, lrp, lr_api, lr_keep, lr_hand, lr, lr2, oO, oN, oG, oNG, oM, oF, oL, rg, ci, seval, resAll, resL, resV, blkAt, undef, fillV, evParts, footOp, wrOp, chk, disj] | split | ((first | apply ck_call | apply cfk_call); (first | (apply call_pure (o2) cll cl) | (apply call_pure (u2) cll cl) | (apply call_upd (q1) rfl cll cll cll cl) | (apply call_upd (q2) rfl cll cll cll cl) | (apply call_upd (q3) rfl cll cll cll cl) | (apply call_pure (lm) cll cl)))))
            exact out_eq rfl cl
        · (repeat' (first | simp (maxSteps := 2000000) -implicitDefEqProofs only [A_clavigerlaw19_opens_T, w2, e0, h1, h2, h4, len_lst, cells_lst, rk_ext, fk_ext, sm_c, sm_a, lrp, lr_api, lr_keep, lr_hand, lr, lr2, oO, oN, oG, oNG, oM, oF, oL, rg, ci, seval, resAll, resL, resV, blkAt, undef, fillV, evParts, footOp, wrOp, chk, disj] | split | ((first | apply ck_call | apply cfk_call); (first | (apply call_pure (o2) cll cl) | (apply call_pure (u2) cll cl) | (apply call_upd (q1) rfl cll cll cll cl) | (apply call_upd (q2) rfl cll cll cll cl) | (apply call_upd (q3) rfl cll cll cll cl) | (apply call_pure (lm) cll cl)))))
          exact out_eq rfl cl
      · have lm := lmemberF_C a h3
        (repeat' (first | simp (maxSteps := 2000000) -implicitDefEqProofs only [A_clavigerlaw19_opens_T, w2, e0, h1, h2, len_lst, cells_lst, rk_ext, fk_ext, sm_c, sm_a, lrp, lr_api, lr_keep, lr_hand, lr, lr2, oO, oN, oG, oNG, oM, oF, oL, rg, ci, seval, resAll, resL, resV, blkAt, undef, fillV, evParts, footOp, wrOp, chk, disj] | split | ((first | apply ck_call | apply cfk_call); (first | (apply call_pure (o2) cll cl) | (apply call_pure (u2) cll cl) | (apply call_upd (q1) rfl cll cll cll cl) | (apply call_upd (q2) rfl cll cll cll cl) | (apply call_upd (q3) rfl cll cll cll cl) | (apply call_pure (lm) cll cl)))))
        exact out_eq rfl cl
    · (repeat' (first | simp (maxSteps := 2000000) -implicitDefEqProofs only [A_clavigerlaw19_opens_T, w2, e0, h1, h2, len_lst, cells_lst, rk_ext, fk_ext, sm_c, sm_a, lrp, lr_api, lr_keep, lr_hand, lr, lr2, oO, oN, oG, oNG, oM, oF, oL, rg, ci, seval, resAll, resL, resV, blkAt, undef, fillV, evParts, footOp, wrOp, chk, disj] | split | ((first | apply ck_call | apply cfk_call); (first | (apply call_pure (o2) cll cl) | (apply call_pure (u2) cll cl) | (apply call_upd (q1) rfl cll cll cll cl) | (apply call_upd (q2) rfl cll cll cll cl) | (apply call_upd (q3) rfl cll cll cll cl)))))
      exact out_eq rfl cl
set_option maxHeartbeats 4000000 in
theorem tl3_g {x0 x4 x5 x6 x7 x8 x9 x10 x11 x12 x13 x14 x15 x16 x17 x18 x19 x20 x21 x22 x23 x24 x25 x26 x27 x28 x29 x30 x31 x32 x33 x34 x35 x36 x37 x38 x39 x40 x41 x42 x43 x44 x45 x46 x47 x48 x49 x50 x51 x52 x53 x54 x55 x56 x57 x58 x59 x60 x61 x62 x63 x64 x65 x66 x67 x68 x69 x70 x71 x72 x73 x74 x75 x76 x77 x78 x79 x80 x81 x82 x83 x84 x85 x86 x87 x88 x89 x90 x91 x92 x93 x94 x95 x96 x97 x98 x99 x100 x101 x102 x103 x104 x105 x106 x107 x108 x109 x110 x111 x112 x113 x114 x115 x116 x117 x118 x119 x120 x121 x122 x123 x124 x125 x126 x127 x128 x129 x130 x131 x132 x133 x134 x135 x136 x137 x138 x139 x140 x141 x142 x143 x144 x145 x146 x147 x148 x149 x150 x151 x152 x153 x154 x155 x156 x157 x158 x159 x160 x161 x162 x163 x164 x165 x166 x167 x168 x169 x170 x171 x172 x173 x174 x175 : V} {y1 y2 : Option (List V)} (t : List UInt8) (r0 r1 r2 r3 : Rd) (e0 : (⟨.of t, Rd.zero.bad⟩ : Rd) = r0) (a s : Int) (n : Nat) (u2 : C Tryz.prog 20 [.agg (dg k), vi .u8 ((tb 96 to).toNat : Int), rowV b] [] (.tup [rowV (.of t), vi .i64 0]) [])
    (q1 : C Tryz.prog 24 [.ref 0 0] [cRd r0] (vi .i64 a) [some (cRd r1)]) (q2 : C Tryz.prog 24 [.ref 0 0] [cRd r1] (vi .i64 s) [some (cRd r2)]) (q3 : C Tryz.prog 25 [.ref 0 0] [cRd r2] (vi .u64 n) [some (cRd r3)]) (o2 : C Tryz.prog 23 [.agg (dg k), vi .i64 to, rowV b] [] (.tup [.agg (cTok ⟨a, s, n⟩), vi .i64 0]) []) (h1 : r3.bad = false) (h2 : (r3.b.l.length : Int) = 0) (h3 : memb a) (h4 : s < 16) (h5 : (n : Int) ≥ 1) (h6 : (n : Int) ≤ 1099511627776) :
    WK Tryz.prog 0 (Post [ARes.tmp 6] 0 (vb true) []) A_clavigerlaw19_opens_T .fin [x0, vi .i64 to, rowV b, .ref 0 0, x4, x5, x6, x7, x8, x9, x10, x11, x12, x13, x14, x15, x16, x17, x18, x19, x20, x21, x22, x23, x24, x25, x26, x27, x28, x29, x30, x31, x32, x33, x34, x35, x36, x37, x38, x39, x40, x41, x42, x43, x44, x45, x46, x47, x48, x49, x50, x51, x52, x53, x54, x55, x56, x57, x58, x59, x60, x61, x62, x63, x64, x65, x66, x67, x68, x69, x70, x71, x72, x73, x74, x75, x76, x77, x78, x79, x80, x81, x82, x83, x84, x85, x86, x87, x88, x89, x90, x91, x92, x93, x94, x95, x96, x97, x98, x99, x100, x101, x102, x103, x104, x105, x106, x107, x108, x109, x110, x111, x112, x113, x114, x115, x116, x117, x118, x119, x120, x121, x122, x123, x124, x125, x126, x127, x128, x129, x130, x131, x132, x133, x134, x135, x136, x137, x138, x139, x140, x141, x142, x143, x144, x145, x146, x147, x148, x149, x150, x151, x152, x153, x154, x155, x156, x157, x158, x159, x160, x161, x162, x163, x164, x165, x166, x167, x168, x169, x170, x171, x172, x173, x174, x175] [some (dg k), y1, y2] := by
  have w2 := tb_eq 96 to
  have lm := lmemberT_C a h3
  (repeat' (first | simp (maxSteps := 2000000) -implicitDefEqProofs only [A_clavigerlaw19_opens_T, w2, e0, h1, h2, h4, h5, h6, len_lst, cells_lst, rk_ext, fk_ext, sm_c, sm_a, lrp, lr_api, lr_keep, lr_hand, lr, lr2, oO, oN, oG, oNG, oM, oF, oL, rg, ci, seval, resAll, resL, resV, blkAt, undef, fillV, evParts, footOp, wrOp, chk, disj] | split | ((first | apply ck_call | apply cfk_call); (first | (apply call_pure (o2) cll cl) | (apply call_pure (u2) cll cl) | (apply call_upd (q1) rfl cll cll cll cl) | (apply call_upd (q2) rfl cll cll cll cl) | (apply call_upd (q3) rfl cll cll cll cl) | (apply call_pure (lm) cll cl)))))
  exact out_eq rfl cl
theorem tl3 {x0 x4 x5 x6 x7 x8 x9 x10 x11 x12 x13 x14 x15 x16 x17 x18 x19 x20 x21 x22 x23 x24 x25 x26 x27 x28 x29 x30 x31 x32 x33 x34 x35 x36 x37 x38 x39 x40 x41 x42 x43 x44 x45 x46 x47 x48 x49 x50 x51 x52 x53 x54 x55 x56 x57 x58 x59 x60 x61 x62 x63 x64 x65 x66 x67 x68 x69 x70 x71 x72 x73 x74 x75 x76 x77 x78 x79 x80 x81 x82 x83 x84 x85 x86 x87 x88 x89 x90 x91 x92 x93 x94 x95 x96 x97 x98 x99 x100 x101 x102 x103 x104 x105 x106 x107 x108 x109 x110 x111 x112 x113 x114 x115 x116 x117 x118 x119 x120 x121 x122 x123 x124 x125 x126 x127 x128 x129 x130 x131 x132 x133 x134 x135 x136 x137 x138 x139 x140 x141 x142 x143 x144 x145 x146 x147 x148 x149 x150 x151 x152 x153 x154 x155 x156 x157 x158 x159 x160 x161 x162 x163 x164 x165 x166 x167 x168 x169 x170 x171 x172 x173 x174 x175 : V} {y1 y2 : Option (List V)} :
    WK Tryz.prog 0 (Post [ARes.tmp 6] 0 (vb true) []) A_clavigerlaw19_opens_T .fin [x0, vi .i64 to, rowV b, .ref 0 0, x4, x5, x6, x7, x8, x9, x10, x11, x12, x13, x14, x15, x16, x17, x18, x19, x20, x21, x22, x23, x24, x25, x26, x27, x28, x29, x30, x31, x32, x33, x34, x35, x36, x37, x38, x39, x40, x41, x42, x43, x44, x45, x46, x47, x48, x49, x50, x51, x52, x53, x54, x55, x56, x57, x58, x59, x60, x61, x62, x63, x64, x65, x66, x67, x68, x69, x70, x71, x72, x73, x74, x75, x76, x77, x78, x79, x80, x81, x82, x83, x84, x85, x86, x87, x88, x89, x90, x91, x92, x93, x94, x95, x96, x97, x98, x99, x100, x101, x102, x103, x104, x105, x106, x107, x108, x109, x110, x111, x112, x113, x114, x115, x116, x117, x118, x119, x120, x121, x122, x123, x124, x125, x126, x127, x128, x129, x130, x131, x132, x133, x134, x135, x136, x137, x138, x139, x140, x141, x142, x143, x144, x145, x146, x147, x148, x149, x150, x151, x152, x153, x154, x155, x156, x157, x158, x159, x160, x161, x162, x163, x164, x165, x166, x167, x168, x169, x170, x171, x172, x173, x174, x175] [some (dg k), y1, y2] := by
  rcases second_cases k to b with ⟨e2, he2, o2, u2⟩ | ⟨t2, r1, r2, r3, a, s, n, u2, q1, q2, q3, ⟨o2, hb⟩ | ⟨o2, hb, hl, hm, hs, hn1, hn2⟩⟩
  · exact tl3_e k to b e2 he2 o2 u2
  · exact tl3_b k to b t2 _ r1 r2 r3 rfl a s n u2 q1 q2 q3 o2 hb
  · exact tl3_g k to b t2 _ r1 r2 r3 rfl a s n u2 q1 q2 q3 o2 hb hl hm hs hn1 hn2
set_option maxHeartbeats 4000000 in
theorem tl4_e {x0 x4 x5 x6 x7 x8 x9 x10 x11 x12 x13 x14 x15 x16 x17 x18 x19 x20 x21 x22 x23 x24 x25 x26 x27 x28 x29 x30 x31 x32 x33 x34 x35 x36 x37 x38 x39 x40 x41 x42 x43 x44 x45 x46 x47 x48 x49 x50 x51 x52 x53 x54 x55 x56 x57 x58 x59 x60 x61 x62 x63 x64 x65 x66 x67 x68 x69 x70 x71 x72 x73 x74 x75 x76 x77 x78 x79 x80 x81 x82 x83 x84 x85 x86 x87 x88 x89 x90 x91 x92 x93 x94 x95 x96 x97 x98 x99 x100 x101 x102 x103 x104 x105 x106 x107 x108 x109 x110 x111 x112 x113 x114 x115 x116 x117 x118 x119 x120 x121 x122 x123 x124 x125 x126 x127 x128 x129 x130 x131 x132 x133 x134 x135 x136 x137 x138 x139 x140 x141 x142 x143 x144 x145 x146 x147 x148 x149 x150 x151 x152 x153 x154 x155 x156 x157 x158 x159 x160 x161 x162 x163 x164 x165 x166 x167 x168 x169 x170 x171 x172 x173 x174 x175 : V} {y1 y2 y3 : Option (List V)} (e : Int) (he : e ≠ 0) (o2 : C Tryz.prog 23 [.agg (dg k), vi .i64 to, rowV b] [] (.tup [.agg (cTok Tok.zero), vi .i64 e]) []) (u2 : C Tryz.prog 20 [.agg (dg k), vi .u8 ((tb 96 to).toNat : Int), rowV b] [] (.tup [vnil, vi .i64 e]) []) :
    WK Tryz.prog 0 (Post [ARes.tmp 6] 0 (vb true) []) A_clavigerlaw19_opens_T .fin [x0, vi .i64 to, rowV b, .ref 0 0, x4, x5, x6, x7, x8, x9, x10, x11, x12, x13, x14, x15, x16, x17, x18, x19, x20, x21, x22, x23, x24, x25, x26, x27, x28, x29, x30, x31, x32, x33, x34, x35, x36, x37, x38, x39, x40, x41, x42, x43, x44, x45, x46, x47, x48, x49, x50, x51, x52, x53, x54, x55, x56, x57, x58, x59, x60, x61, x62, x63, x64, x65, x66, x67, x68, x69, x70, x71, x72, x73, x74, x75, x76, x77, x78, x79, x80, x81, x82, x83, x84, x85, x86, x87, x88, x89, x90, x91, x92, x93, x94, x95, x96, x97, x98, x99, x100, x101, x102, x103, x104, x105, x106, x107, x108, x109, x110, x111, x112, x113, x114, x115, x116, x117, x118, x119, x120, x121, x122, x123, x124, x125, x126, x127, x128, x129, x130, x131, x132, x133, x134, x135, x136, x137, x138, x139, x140, x141, x142, x143, x144, x145, x146, x147, x148, x149, x150, x151, x152, x153, x154, x155, x156, x157, x158, x159, x160, x161, x162, x163, x164, x165, x166, x167, x168, x169, x170, x171, x172, x173, x174, x175] [some (dg k), y1, y2, y3] := by
  have w2 := tb_eq 96 to
  (repeat' (first | simp (maxSteps := 2000000) -implicitDefEqProofs only [A_clavigerlaw19_opens_T, w2, he, len_lst, cells_lst, rk_ext, fk_ext, sm_c, sm_a, lrp, lr_api, lr_keep, lr_hand, lr, lr2, oO, oN, oG, oNG, oM, oF, oL, rg, ci, seval, resAll, resL, resV, blkAt, undef, fillV, evParts, footOp, wrOp, chk, disj] | split | ((first | apply ck_call | apply cfk_call); (first | (apply call_pure (o2) cll cl) | (apply call_pure (u2) cll cl)))))
  exact out_eq rfl cl
set_option maxHeartbeats 4000000 in
theorem tl4_b {x0 x4 x5 x6 x7 x8 x9 x10 x11 x12 x13 x14 x15 x16 x17 x18 x19 x20 x21 x22 x23 x24 x25 x26 x27 x28 x29 x30 x31 x32 x33 x34 x35 x36 x37 x38 x39 x40 x41 x42 x43 x44 x45 x46 x47 x48 x49 x50 x51 x52 x53 x54 x55 x56 x57 x58 x59 x60 x61 x62 x63 x64 x65 x66 x67 x68 x69 x70 x71 x72 x73 x74 x75 x76 x77 x78 x79 x80 x81 x82 x83 x84 x85 x86 x87 x88 x89 x90 x91 x92 x93 x94 x95 x96 x97 x98 x99 x100 x101 x102 x103 x104 x105 x106 x107 x108 x109 x110 x111 x112 x113 x114 x115 x116 x117 x118 x119 x120 x121 x122 x123 x124 x125 x126 x127 x128 x129 x130 x131 x132 x133 x134 x135 x136 x137 x138 x139 x140 x141 x142 x143 x144 x145 x146 x147 x148 x149 x150 x151 x152 x153 x154 x155 x156 x157 x158 x159 x160 x161 x162 x163 x164 x165 x166 x167 x168 x169 x170 x171 x172 x173 x174 x175 : V} {y1 y2 y3 : Option (List V)} (t : List UInt8) (r0 r1 r2 r3 : Rd) (e0 : (⟨.of t, Rd.zero.bad⟩ : Rd) = r0) (a s : Int) (n : Nat) (u2 : C Tryz.prog 20 [.agg (dg k), vi .u8 ((tb 96 to).toNat : Int), rowV b] [] (.tup [rowV (.of t), vi .i64 0]) [])
    (q1 : C Tryz.prog 24 [.ref 0 0] [cRd r0] (vi .i64 a) [some (cRd r1)]) (q2 : C Tryz.prog 24 [.ref 0 0] [cRd r1] (vi .i64 s) [some (cRd r2)]) (q3 : C Tryz.prog 25 [.ref 0 0] [cRd r2] (vi .u64 n) [some (cRd r3)]) (o2 : C Tryz.prog 23 [.agg (dg k), vi .i64 to, rowV b] [] (.tup [.agg (cTok Tok.zero), vi .i64 12]) []) (hb : ¬ (r3.bad = false ∧ (r3.b.l.length : Int) = 0 ∧ memb a ∧ s < 16 ∧ (n : Int) ≥ 1 ∧ (n : Int) ≤ 1099511627776)) :
    WK Tryz.prog 0 (Post [ARes.tmp 6] 0 (vb true) []) A_clavigerlaw19_opens_T .fin [x0, vi .i64 to, rowV b, .ref 0 0, x4, x5, x6, x7, x8, x9, x10, x11, x12, x13, x14, x15, x16, x17, x18, x19, x20, x21, x22, x23, x24, x25, x26, x27, x28, x29, x30, x31, x32, x33, x34, x35, x36, x37, x38, x39, x40, x41, x42, x43, x44, x45, x46, x47, x48, x49, x50, x51, x52, x53, x54, x55, x56, x57, x58, x59, x60, x61, x62, x63, x64, x65, x66, x67, x68, x69, x70, x71, x72, x73, x74, x75, x76, x77, x78, x79, x80, x81, x82, x83, x84, x85, x86, x87, x88, x89, x90, x91, x92, x93, x94, x95, x96, x97, x98, x99, x100, x101, x102, x103, x104, x105, x106, x107, x108, x109, x110, x111, x112, x113, x114, x115, x116, x117, x118, x119, x120, x121, x122, x123, x124, x125, x126, x127, x128, x129, x130, x131, x132, x133, x134, x135, x136, x137, x138, x139, x140, x141, x142, x143, x144, x145, x146, x147, x148, x149, x150, x151, x152, x153, x154, x155, x156, x157, x158, x159, x160, x161, x162, x163, x164, x165, x166, x167, x168, x169, x170, x171, x172, x173, x174, x175] [some (dg k), y1, y2, y3] := by
  have w2 := tb_eq 96 to
  cases h1 : r3.bad with
  | true =>
    (repeat' (first | simp (maxSteps := 2000000) -implicitDefEqProofs only [A_clavigerlaw19_opens_T, w2, e0, h1, len_lst, cells_lst, rk_ext, fk_ext, sm_c, sm_a, lrp, lr_api, lr_keep, lr_hand, lr, lr2, oO, oN, oG, oNG, oM, oF, oL, rg, ci, seval, resAll, resL, resV, blkAt, undef, fillV, evParts, footOp, wrOp, chk, disj] | split | ((first | apply ck_call | apply cfk_call); (first | (apply call_pure (o2) cll cl) | (apply call_pure (u2) cll cl) | (apply call_upd (q1) rfl cll cll cll cl) | (apply call_upd (q2) rfl cll cll cll cl) | (apply call_upd (q3) rfl cll cll cll cl)))))
    exact out_eq rfl cl
  | false =>
    by_cases h2 : (r3.b.l.length : Int) = 0
    · by_cases h3 : memb a
      · have lm := lmemberT_C a h3
        by_cases h4 : s < 16
        · by_cases h5 : (n : Int) ≥ 1
          · have h6 : ¬ (n : Int) ≤ 1099511627776 := fun h6 => hb ⟨h1, h2, h3, h4, h5, h6⟩
            (repeat' (first | simp (maxSteps := 2000000) -implicitDefEqProofs only [A_clavigerlaw19_opens_T, w2, e0, h1, h2, h4, h5, h6, len_lst, cells_lst, rk_ext, fk_ext, sm_c, sm_a, lrp, lr_api, lr_keep, lr_hand, lr, lr2, oO, oN, oG, oNG, oM, oF, oL, rg, ci, seval, resAll, resL, resV, blkAt, undef, fillV, evParts, footOp, wrOp, chk, disj] | split | ((first | apply ck_call | apply cfk_call); (first | (apply call_pure (o2) cll cl) | (apply call_pure (u2) cll cl) | (apply call_upd (q1) rfl cll cll cll cl) | (apply call_upd (q2) rfl cll cll cll cl) | (apply call_upd (q3) rfl cll cll cll cl) | (apply call_pure (lm) cll cl)))))
            exact out_eq rfl cl
          · (repeat' (first | simp (maxSteps := 2000000) -implicitDefEqProofs only [A_clavigerlaw19_opens_T, w2, e0, h1, h2, h4, h5, len_lst, cells_lst, rk_ext, fk_ext, sm_c, sm_a, lrp, lr_api, lr_keep, lr_hand, lr, lr2, oO, oN, oG, oNG, oM, oF, oL, rg, ci, seval, resAll, resL, resV, blkAt, undef, fillV, evParts, footOp, wrOp, chk, disj] | split | ((first | apply ck_call | apply cfk_call); (first | (apply call_pure (o2) cll cl) | (apply call_pure (u2) cll cl) | (apply call_upd (q1) rfl cll cll cll cl) | (apply call_upd (q2) rfl cll cll cll cl) | (apply call_upd (q3) rfl cll cll cll cl) | (apply call_pure (lm) cll cl)))))
            exact out_eq rfl cl
        · (repeat' (first | simp (maxSteps := 2000000) -implicitDefEqProofs only [A_clavigerlaw19_opens_T, w2, e0, h1, h2, h4, len_lst, cells_lst, rk_ext, fk_ext, sm_c, sm_a, lrp, lr_api, lr_keep, lr_hand, lr, lr2, oO, oN, oG, oNG, oM, oF, oL, rg, ci, seval, resAll, resL, resV, blkAt, undef, fillV, evParts, footOp, wrOp, chk, disj] | split | ((first | apply ck_call | apply cfk_call); (first | (apply call_pure (o2) cll cl) | (apply call_pure (u2) cll cl) | (apply call_upd (q1) rfl cll cll cll cl) | (apply call_upd (q2) rfl cll cll cll cl) | (apply call_upd (q3) rfl cll cll cll cl) | (apply call_pure (lm) cll cl)))))
          exact out_eq rfl cl
      · have lm := lmemberF_C a h3
        (repeat' (first | simp (maxSteps := 2000000) -implicitDefEqProofs only [A_clavigerlaw19_opens_T, w2, e0, h1, h2, len_lst, cells_lst, rk_ext, fk_ext, sm_c, sm_a, lrp, lr_api, lr_keep, lr_hand, lr, lr2, oO, oN, oG, oNG, oM, oF, oL, rg, ci, seval, resAll, resL, resV, blkAt, undef, fillV, evParts, footOp, wrOp, chk, disj] | split | ((first | apply ck_call | apply cfk_call); (first | (apply call_pure (o2) cll cl) | (apply call_pure (u2) cll cl) | (apply call_upd (q1) rfl cll cll cll cl) | (apply call_upd (q2) rfl cll cll cll cl) | (apply call_upd (q3) rfl cll cll cll cl) | (apply call_pure (lm) cll cl)))))
        exact out_eq rfl cl
    · (repeat' (first | simp (maxSteps := 2000000) -implicitDefEqProofs only [A_clavigerlaw19_opens_T, w2, e0, h1, h2, len_lst, cells_lst, rk_ext, fk_ext, sm_c, sm_a, lrp, lr_api, lr_keep, lr_hand, lr, lr2, oO, oN, oG, oNG, oM, oF, oL, rg, ci, seval, resAll, resL, resV, blkAt, undef, fillV, evParts, footOp, wrOp, chk, disj] | split | ((first | apply ck_call | apply cfk_call); (first | (apply call_pure (o2) cll cl) | (apply call_pure (u2) cll cl) | (apply call_upd (q1) rfl cll cll cll cl) | (apply call_upd (q2) rfl cll cll cll cl) | (apply call_upd (q3) rfl cll cll cll cl)))))
      exact out_eq rfl cl
set_option maxHeartbeats 4000000 in
theorem tl4_g {x0 x4 x5 x6 x7 x8 x9 x10 x11 x12 x13 x14 x15 x16 x17 x18 x19 x20 x21 x22 x23 x24 x25 x26 x27 x28 x29 x30 x31 x32 x33 x34 x35 x36 x37 x38 x39 x40 x41 x42 x43 x44 x45 x46 x47 x48 x49 x50 x51 x52 x53 x54 x55 x56 x57 x58 x59 x60 x61 x62 x63 x64 x65 x66 x67 x68 x69 x70 x71 x72 x73 x74 x75 x76 x77 x78 x79 x80 x81 x82 x83 x84 x85 x86 x87 x88 x89 x90 x91 x92 x93 x94 x95 x96 x97 x98 x99 x100 x101 x102 x103 x104 x105 x106 x107 x108 x109 x110 x111 x112 x113 x114 x115 x116 x117 x118 x119 x120 x121 x122 x123 x124 x125 x126 x127 x128 x129 x130 x131 x132 x133 x134 x135 x136 x137 x138 x139 x140 x141 x142 x143 x144 x145 x146 x147 x148 x149 x150 x151 x152 x153 x154 x155 x156 x157 x158 x159 x160 x161 x162 x163 x164 x165 x166 x167 x168 x169 x170 x171 x172 x173 x174 x175 : V} {y1 y2 y3 : Option (List V)} (t : List UInt8) (r0 r1 r2 r3 : Rd) (e0 : (⟨.of t, Rd.zero.bad⟩ : Rd) = r0) (a s : Int) (n : Nat) (u2 : C Tryz.prog 20 [.agg (dg k), vi .u8 ((tb 96 to).toNat : Int), rowV b] [] (.tup [rowV (.of t), vi .i64 0]) [])
    (q1 : C Tryz.prog 24 [.ref 0 0] [cRd r0] (vi .i64 a) [some (cRd r1)]) (q2 : C Tryz.prog 24 [.ref 0 0] [cRd r1] (vi .i64 s) [some (cRd r2)]) (q3 : C Tryz.prog 25 [.ref 0 0] [cRd r2] (vi .u64 n) [some (cRd r3)]) (o2 : C Tryz.prog 23 [.agg (dg k), vi .i64 to, rowV b] [] (.tup [.agg (cTok ⟨a, s, n⟩), vi .i64 0]) []) (h1 : r3.bad = false) (h2 : (r3.b.l.length : Int) = 0) (h3 : memb a) (h4 : s < 16) (h5 : (n : Int) ≥ 1) (h6 : (n : Int) ≤ 1099511627776) :
    WK Tryz.prog 0 (Post [ARes.tmp 6] 0 (vb true) []) A_clavigerlaw19_opens_T .fin [x0, vi .i64 to, rowV b, .ref 0 0, x4, x5, x6, x7, x8, x9, x10, x11, x12, x13, x14, x15, x16, x17, x18, x19, x20, x21, x22, x23, x24, x25, x26, x27, x28, x29, x30, x31, x32, x33, x34, x35, x36, x37, x38, x39, x40, x41, x42, x43, x44, x45, x46, x47, x48, x49, x50, x51, x52, x53, x54, x55, x56, x57, x58, x59, x60, x61, x62, x63, x64, x65, x66, x67, x68, x69, x70, x71, x72, x73, x74, x75, x76, x77, x78, x79, x80, x81, x82, x83, x84, x85, x86, x87, x88, x89, x90, x91, x92, x93, x94, x95, x96, x97, x98, x99, x100, x101, x102, x103, x104, x105, x106, x107, x108, x109, x110, x111, x112, x113, x114, x115, x116, x117, x118, x119, x120, x121, x122, x123, x124, x125, x126, x127, x128, x129, x130, x131, x132, x133, x134, x135, x136, x137, x138, x139, x140, x141, x142, x143, x144, x145, x146, x147, x148, x149, x150, x151, x152, x153, x154, x155, x156, x157, x158, x159, x160, x161, x162, x163, x164, x165, x166, x167, x168, x169, x170, x171, x172, x173, x174, x175] [some (dg k), y1, y2, y3] := by
  have w2 := tb_eq 96 to
  have lm := lmemberT_C a h3
  (repeat' (first | simp (maxSteps := 2000000) -implicitDefEqProofs only [A_clavigerlaw19_opens_T, w2, e0, h1, h2, h4, h5, h6, len_lst, cells_lst, rk_ext, fk_ext, sm_c, sm_a, lrp, lr_api, lr_keep, lr_hand, lr, lr2, oO, oN, oG, oNG, oM, oF, oL, rg, ci, seval, resAll, resL, resV, blkAt, undef, fillV, evParts, footOp, wrOp, chk, disj] | split | ((first | apply ck_call | apply cfk_call); (first | (apply call_pure (o2) cll cl) | (apply call_pure (u2) cll cl) | (apply call_upd (q1) rfl cll cll cll cl) | (apply call_upd (q2) rfl cll cll cll cl) | (apply call_upd (q3) rfl cll cll cll cl) | (apply call_pure (lm) cll cl)))))
  exact out_eq rfl cl
theorem tl4 {x0 x4 x5 x6 x7 x8 x9 x10 x11 x12 x13 x14 x15 x16 x17 x18 x19 x20 x21 x22 x23 x24 x25 x26 x27 x28 x29 x30 x31 x32 x33 x34 x35 x36 x37 x38 x39 x40 x41 x42 x43 x44 x45 x46 x47 x48 x49 x50 x51 x52 x53 x54 x55 x56 x57 x58 x59 x60 x61 x62 x63 x64 x65 x66 x67 x68 x69 x70 x71 x72 x73 x74 x75 x76 x77 x78 x79 x80 x81 x82 x83 x84 x85 x86 x87 x88 x89 x90 x91 x92 x93 x94 x95 x96 x97 x98 x99 x100 x101 x102 x103 x104 x105 x106 x107 x108 x109 x110 x111 x112 x113 x114 x115 x116 x117 x118 x119 x120 x121 x122 x123 x124 x125 x126 x127 x128 x129 x130 x131 x132 x133 x134 x135 x136 x137 x138 x139 x140 x141 x142 x143 x144 x145 x146 x147 x148 x149 x150 x151 x152 x153 x154 x155 x156 x157 x158 x159 x160 x161 x162 x163 x164 x165 x166 x167 x168 x169 x170 x171 x172 x173 x174 x175 : V} {y1 y2 y3 : Option (List V)} :
    WK Tryz.prog 0 (Post [ARes.tmp 6] 0 (vb true) []) A_clavigerlaw19_opens_T .fin [x0, vi .i64 to, rowV b, .ref 0 0, x4, x5, x6, x7, x8, x9, x10, x11, x12, x13, x14, x15, x16, x17, x18, x19, x20, x21, x22, x23, x24, x25, x26, x27, x28, x29, x30, x31, x32, x33, x34, x35, x36, x37, x38, x39, x40, x41, x42, x43, x44, x45, x46, x47, x48, x49, x50, x51, x52, x53, x54, x55, x56, x57, x58, x59, x60, x61, x62, x63, x64, x65, x66, x67, x68, x69, x70, x71, x72, x73, x74, x75, x76, x77, x78, x79, x80, x81, x82, x83, x84, x85, x86, x87, x88, x89, x90, x91, x92, x93, x94, x95, x96, x97, x98, x99, x100, x101, x102, x103, x104, x105, x106, x107, x108, x109, x110, x111, x112, x113, x114, x115, x116, x117, x118, x119, x120, x121, x122, x123, x124, x125, x126, x127, x128, x129, x130, x131, x132, x133, x134, x135, x136, x137, x138, x139, x140, x141, x142, x143, x144, x145, x146, x147, x148, x149, x150, x151, x152, x153, x154, x155, x156, x157, x158, x159, x160, x161, x162, x163, x164, x165, x166, x167, x168, x169, x170, x171, x172, x173, x174, x175] [some (dg k), y1, y2, y3] := by
  rcases second_cases k to b with ⟨e2, he2, o2, u2⟩ | ⟨t2, r1, r2, r3, a, s, n, u2, q1, q2, q3, ⟨o2, hb⟩ | ⟨o2, hb, hl, hm, hs, hn1, hn2⟩⟩
  · exact tl4_e k to b e2 he2 o2 u2
  · exact tl4_b k to b t2 _ r1 r2 r3 rfl a s n u2 q1 q2 q3 o2 hb
  · exact tl4_g k to b t2 _ r1 r2 r3 rfl a s n u2 q1 q2 q3 o2 hb hl hm hs hn1 hn2
set_option maxHeartbeats 4000000 in
theorem opens_C : C Tryz.prog 7 [.agg (dg k), vi .i64 to, rowV b] [] (vb true) [] := by
  have w1 := tb_eq 64 to
  have vz := rvaultsT_C .nil .nil (samesV_self _) (by decide)
  rcases first_cases k to b with ⟨e, he, o1, u1⟩ | ⟨o1, u1⟩ | ⟨t, tp, tm, o1, u1⟩ | ⟨t, v, w, tp, tm, hw, o1, u1, tr⟩ | ⟨t, v, tp, tm, hk, hv, o1, u1, tr⟩
  · refine C_of mixed Tryz.func7 A_clavigerlaw19_opens_ok A_clavigerlaw19_opens_res _ A_clavigerlaw19_opens_nt ?_
    (repeat' (first | simp (maxSteps := 2000000) -implicitDefEqProofs only [A_clavigerlaw19_opens, w1, he, zp_v, len_lst, cells_lst, rk_ext, fk_ext, sm_c, sm_a, lrp, lr_api, lr_keep, lr_hand, lr, lr2, oO, oN, oG, oNG, oM, oF, oL, rg, ci, seval, resAll, resL, resV, blkAt, undef, fillV, evParts, footOp, wrOp, chk, disj] | split | ((first | apply ck_call | apply cfk_call); (first | (apply call_pure (o1) cll cl) | (apply call_pure (u1) cll cl) | (apply call_pure (vz) cll cl)))))
    exact tl3 k to b
  · refine C_of mixed Tryz.func7 A_clavigerlaw19_opens_ok A_clavigerlaw19_opens_res _ A_clavigerlaw19_opens_nt ?_
    (repeat' (first | simp (maxSteps := 2000000) -implicitDefEqProofs only [A_clavigerlaw19_opens, w1, zp_v, len_lst, cells_lst, rk_ext, fk_ext, sm_c, sm_a, lrp, lr_api, lr_keep, lr_hand, lr, lr2, oO, oN, oG, oNG, oM, oF, oL, rg, ci, seval, resAll, resL, resV, blkAt, undef, fillV, evParts, footOp, wrOp, chk, disj] | split | ((first | apply ck_call | apply cfk_call); (first | (apply call_pure (o1) cll cl) | (apply call_pure (u1) cll cl) | (apply call_pure (vz) cll cl)))))
    exact tl3 k to b
  · have g0 := rd_bs0 t tp
    have c1 : (t.length : Int) > 0 := by omega
    have c2 : (0 : Int) < t.length := by omega
    refine C_of mixed Tryz.func7 A_clavigerlaw19_opens_ok A_clavigerlaw19_opens_res _ A_clavigerlaw19_opens_nt ?_
    (repeat' (first | simp (maxSteps := 2000000) -implicitDefEqProofs only [A_clavigerlaw19_opens, w1, zp_v, tp, tm, g0, c1, c2, len_lst, cells_lst, rk_ext, fk_ext, sm_c, sm_a, lrp, lr_api, lr_keep, lr_hand, lr, lr2, oO, oN, oG, oNG, oM, oF, oL, rg, ci, seval, resAll, resL, resV, blkAt, undef, fillV, evParts, footOp, wrOp, chk, disj] | split | ((first | apply ck_call | apply cfk_call); (first | (apply call_pure (o1) cll cl) | (apply call_pure (u1) cll cl) | (apply call_pure (vz) cll cl)))))
    exact tl3 k to b
  · have g0 := rd_bs0 t tp
    have c1 : (t.length : Int) > 0 := by omega
    have c2 : (0 : Int) < t.length := by omega
    have c3 : (1 : Int) ≤ t.length := by omega
    have e1 := cut1 t
    cases w with
    | false =>
      refine C_of mixed Tryz.func7 A_clavigerlaw19_opens_ok A_clavigerlaw19_opens_res _ A_clavigerlaw19_opens_nt ?_
      (repeat' (first | simp (maxSteps := 2000000) -implicitDefEqProofs only [A_clavigerlaw19_opens, w1, zp_v, tp, tm, g0, c1, c2, c3, e1, len_lst, cells_lst, rk_ext, fk_ext, sm_c, sm_a, lrp, lr_api, lr_keep, lr_hand, lr, lr2, oO, oN, oG, oNG, oM, oF, oL, rg, ci, seval, resAll, resL, resV, blkAt, undef, fillV, evParts, footOp, wrOp, chk, disj] | split | ((first | apply ck_call | apply cfk_call); (first | (apply call_pure (o1) cll cl) | (apply call_pure (u1) cll cl) | (apply call_pure (tr) cll cl) | (apply call_pure (vz) cll cl)))))
      exact tl4 k to b
    | true =>
      have hw : ¬ v.kind = 3 := by
        rcases hw with hw | hw
        · cases hw
        · exact hw
      refine C_of mixed Tryz.func7 A_clavigerlaw19_opens_ok A_clavigerlaw19_opens_res _ A_clavigerlaw19_opens_nt ?_
      (repeat' (first | simp (maxSteps := 2000000) -implicitDefEqProofs only [A_clavigerlaw19_opens, w1, zp_v, tp, tm, g0, c1, c2, c3, e1, hw, len_lst, cells_lst, rk_ext, fk_ext, sm_c, sm_a, lrp, lr_api, lr_keep, lr_hand, lr, lr2, oO, oN, oG, oNG, oM, oF, oL, rg, ci, seval, resAll, resL, resV, blkAt, undef, fillV, evParts, footOp, wrOp, chk, disj] | split | ((first | apply ck_call | apply cfk_call); (first | (apply call_pure (o1) cll cl) | (apply call_pure (u1) cll cl) | (apply call_pure (tr) cll cl) | (apply call_pure (vz) cll cl)))))
      exact tl4 k to b
  · have g0 := rd_bs0 t tp
    have c1 : (t.length : Int) > 0 := by omega
    have c2 : (0 : Int) < t.length := by omega
    have c3 : (1 : Int) ≤ t.length := by omega
    have e1 := cut1 t
    have hb0 := (t.getD 0 0).toNat_lt
    have wb : IntKind.i64.wrap ((t.getD 0 0).toNat : Int) = ((t.getD 0 0).toNat : Int) := wrap_id _ (by omega) (by omega)
    have vv := rvaultsT_C v.vaults v.vaults (samesV_self _) hv
    generalize t.getD 0 0 = t0 at *
    refine C_of mixed Tryz.func7 A_clavigerlaw19_opens_ok A_clavigerlaw19_opens_res _ A_clavigerlaw19_opens_nt ?_
    (repeat' (first | simp (maxSteps := 2000000) -implicitDefEqProofs only [A_clavigerlaw19_opens, w1, zp_v, tp, tm, g0, c1, c2, c3, e1, hk, wb, len_lst, cells_lst, rk_ext, fk_ext, sm_c, sm_a, lrp, lr_api, lr_keep, lr_hand, lr, lr2, oO, oN, oG, oNG, oM, oF, oL, rg, ci, seval, resAll, resL, resV, blkAt, undef, fillV, evParts, footOp, wrOp, chk, disj] | split | ((first | apply ck_call | apply cfk_call); (first | (apply call_pure (o1) cll cl) | (apply call_pure (u1) cll cl) | (apply call_pure (tr) cll cl) | (apply call_pure (vv) cll cl)))))
    exact tl4 k to b
end
end Go.Proofs.YtfpoebmihjbknaaGreat.VA
