/- Registers of a few records: plain facts (as in Fregister). -/
import Derived.Test.YtmmaenfjnkoknaaGreatCregister
import Derived.Test.YtmmaenfjnkoknaaGreatVC
set_option linter.unusedVariables false
set_option linter.unusedSimpArgs false
set_option maxRecDepth 100000
namespace Go.Proofs.YtmmaenfjnkoknaaGreat.VA
open Go
attribute [local irreducible] WK NK XK TK RK FK CK CFK CallRel C
structure InvR (i : Int) (r : Rgr) : Prop where
  b0 : 0 ≤ r.boot
  b1 : r.boot ≤ i
  c0 : 0 ≤ r.base
  c1 : r.base ≤ r.count
  c2 : r.count ≤ i
  c3 : r.count - r.base ≤ 8
  p : r.point = 0 ∨ r.point = 1
  hd : r.count > 0 ∨ r.head = Bn.zero 16
theorem inv_right {i : Int} (hi : i ≤ 1000) {r : Rgr} (h : InvR i r) : rightR r = true := by
  have e : IntKind.u64.wrap (r.count - r.base) = r.count - r.base := IntWalk.u64_in _ ⟨by have := h.c1; omega, by have := h.c3; omega⟩
  have := h.b1; have := h.c2; have := h.c1; have := h.c3
  simp only [rightR, e, decide_eq_true_eq]
  exact ⟨by omega, by omega, by omega, by omega, h.p, h.hd⟩
theorem inv_held {i : Int} (hi : i ≤ 1000) {r : Rgr} (h : InvR i r) : heldR r = r.count - r.base := by
  have e : IntKind.u64.wrap (r.count - r.base) = r.count - r.base := IntWalk.u64_in _ ⟨by have := h.c1; omega, by have := h.c3; omega⟩
  have e2 : IntKind.i64.wrap (r.count - r.base) = r.count - r.base := wrap_id _ (by have := h.c1; omega) (by have := h.c3; omega)
  rw [heldR, if_pos (inv_right hi h), e, e2]
theorem inv_next {i : Int} (hi : i ≤ 999) {r : Rgr} (h : InvR i r) (d : Bn 16) (hl : r.count - r.base < 8) : nextR r d = ({ r with count := r.count + 1, head := d }, true) ∧ InvR (i + 1) { r with count := r.count + 1, head := d } := by
  have e : IntKind.u64.wrap (r.count + 1) = r.count + 1 := IntWalk.u64_in _ ⟨by have := h.c1; have := h.c0; omega, by have := h.c2; omega⟩
  have h' : InvR (i + 1) { r with count := r.count + 1, head := d } := ⟨h.b0, by have := h.b1; show r.boot ≤ _; omega, h.c0, by have := h.c1; show r.base ≤ r.count + 1; omega, by have := h.c2; show r.count + 1 ≤ _; omega, by show r.count + 1 - r.base ≤ _; omega, h.p, .inl (by have := h.c0; have := h.c1; show r.count + 1 > 0; omega)⟩
  refine ⟨?_, h'⟩
  rw [nextR, e, soR, if_pos ⟨inv_right (by omega) h, inv_right (by omega) h'⟩]
theorem inv_fold {i : Int} (hi : i ≤ 999) {r : Rgr} (h : InvR i r) (d : Bn 16) (hl : 0 < r.count - r.base) : foldR r d = ({ r with base := r.count, point := 1 - r.point, head := d }, true) ∧ InvR (i + 1) { r with base := r.count, point := 1 - r.point, head := d } := by
  have e : IntKind.i64.wrap (1 - r.point) = 1 - r.point := wrap_id _ (by have := h.p; omega) (by have := h.p; omega)
  have h' : InvR (i + 1) { r with base := r.count, point := 1 - r.point, head := d } := ⟨h.b0, by have := h.b1; show r.boot ≤ _; omega, by have := h.c0; have := h.c1; show 0 ≤ r.count; omega, by show r.count ≤ r.count; omega, by have := h.c2; show r.count ≤ _; omega, by show r.count - r.count ≤ _; omega, by have := h.p; show 1 - r.point = 0 ∨ 1 - r.point = 1; omega, .inl (by have := h.c0; show r.count > 0; omega)⟩
  refine ⟨?_, h'⟩
  rw [foldR, if_neg (by omega), e, soR, if_pos ⟨inv_right (by omega) h, inv_right (by omega) h'⟩]
end Go.Proofs.YtmmaenfjnkoknaaGreat.VA
