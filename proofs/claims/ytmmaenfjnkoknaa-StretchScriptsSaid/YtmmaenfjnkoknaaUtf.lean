/- The signs of a text, and which digits they are: plain Lean, no program in sight. -/
import Derived.Test.YtmmaenfjnkoknaaVC
set_option linter.unusedVariables false
set_option linter.unusedSimpArgs false
namespace Go.Proofs.Ytmmaenfjnkoknaa.VA
open Go
theorem width_pos (s : ByteArray) (pos : Nat) : 1 ≤ (Utf8.decode s pos).2 := by
  unfold Utf8.decode
  simp only []
  repeat' split
  all_goals first | exact (by decide : (1 : Nat) ≤ 1) | exact (by decide : (1 : Nat) ≤ 2) | exact (by decide : (1 : Nat) ≤ 3) | exact (by decide : (1 : Nat) ≤ 4)
def runesF (s : ByteArray) : Nat → Nat → List Int
  | 0, _ => []
  | n + 1, pos => if pos < s.size then ((Utf8.decode s pos).1 : Int) :: runesF s n (pos + (Utf8.decode s pos).2) else []
theorem runesF_fuel (s : ByteArray) : ∀ (n m pos : Nat), s.size - pos ≤ n → s.size - pos ≤ m → runesF s n pos = runesF s m pos
  | 0, 0, _, _, _ => rfl
  | 0, m + 1, pos, h, _ => by
    have : ¬ pos < s.size := by omega
    simp [runesF, this]
  | n + 1, 0, pos, _, h => by
    have : ¬ pos < s.size := by omega
    simp [runesF, this]
  | n + 1, m + 1, pos, h1, h2 => by
    by_cases h : pos < s.size
    · have hw := width_pos s pos
      simp only [runesF, h, if_true]
      rw [runesF_fuel s n m _ (by omega) (by omega)]
    · simp [runesF, h]
def runesA (s : ByteArray) (pos : Nat) : List Int := runesF s (s.size - pos) pos
theorem runesA_end (s : ByteArray) (pos : Nat) (h : ¬ pos < s.size) : runesA s pos = [] := by
  unfold runesA
  rw [show s.size - pos = 0 by omega]; rfl
theorem runesA_step (s : ByteArray) (pos : Nat) (h : pos < s.size) : runesA s pos = ((Utf8.decode s pos).1 : Int) :: runesA s (pos + (Utf8.decode s pos).2) := by
  have hw := width_pos s pos
  unfold runesA
  rw [runesF_fuel s (s.size - pos) ((s.size - pos - 1) + 1) pos (by omega) (by omega)]
  simp only [runesF, h, if_true]
  rw [runesF_fuel s (s.size - pos - 1) (s.size - (pos + (Utf8.decode s pos).2)) _ (by omega) (by omega)]
def pinDig (r : Int) : Int :=
  if 48 ≤ r ∧ r ≤ 57 then r - 48
  else if 65296 ≤ r ∧ r ≤ 65305 then r - 65296
  else if 1632 ≤ r ∧ r ≤ 1641 then r - 1632
  else if 1776 ≤ r ∧ r ≤ 1785 then r - 1776
  else if r = 32 ∨ r = 45 ∨ r = 160 then -2
  else -1
def normGo : List Int → List UInt8 → Option (List UInt8)
  | [], acc => some acc
  | r :: rs, acc => if pinDig r = -2 then normGo rs acc else if pinDig r = -1 then none else normGo rs (acc ++ [UInt8.ofNat (48 + (pinDig r).toNat)])
def normL (rs : List Int) : Option (List UInt8) :=
  match normGo rs [] with
  | some l => if 4 ≤ l.length ∧ l.length ≤ 12 then some l else none
  | none => none
def normF (l : List UInt8) : Option (List UInt8) := normL (runesA ⟨l.toArray⟩ 0)
theorem get_at (A e B : List UInt8) (k : Nat) (h : k < e.length) : (⟨(A ++ (e ++ B)).toArray⟩ : ByteArray).get! (A.length + k) = e[k] := by
  simp only [ByteArray.get!]
  rw [getElem!_pos _ _ (by simp; omega)]
  simp [List.getElem_append_right, List.getElem_append_left, h]
def encL (r : Int) : List UInt8 := (Utf8.encode r).data.toList
theorem encL_1 (r : Int) (h0 : 0 ≤ r) (h : r < 128) : encL r = [UInt8.ofNat r.toNat] := by
  have hv : Utf8.valid r = true := by simp [Utf8.valid]; omega
  have : r.toNat < 0x80 := by omega
  simp [encL, Utf8.encode, hv, this]
theorem encL_2 (r : Int) (h0 : 128 ≤ r) (h : r < 2048) : encL r = [UInt8.ofNat (0xC0 + r.toNat / 64), UInt8.ofNat (0x80 + r.toNat % 64)] := by
  have hv : Utf8.valid r = true := by simp [Utf8.valid]; omega
  have h1 : ¬ r.toNat < 0x80 := by omega
  have h2 : r.toNat < 0x800 := by omega
  simp [encL, Utf8.encode, hv, h1, h2]
theorem encL_3 (r : Int) (h0 : 2048 ≤ r) (h : r < 65536) (hv : Utf8.valid r = true) : encL r = [UInt8.ofNat (0xE0 + r.toNat / 4096), UInt8.ofNat (0x80 + r.toNat / 64 % 64), UInt8.ofNat (0x80 + r.toNat % 64)] := by
  have h1 : ¬ r.toNat < 0x80 := by omega
  have h2 : ¬ r.toNat < 0x800 := by omega
  have h3 : r.toNat < 0x10000 := by omega
  simp [encL, Utf8.encode, hv, h1, h2, h3]
theorem u8n (n : Nat) (h : n < 256) : (UInt8.ofNat n).toNat = n := by simp [UInt8.toNat_ofNat', Nat.mod_eq_of_lt h]
theorem dec_1 (A B : List UInt8) (r : Int) (h0 : 0 ≤ r) (h : r < 128) : Utf8.decode ⟨(A ++ (encL r ++ B)).toArray⟩ A.length = (r.toNat, 1) := by
  rw [encL_1 r h0 h]
  have g0 := get_at A [UInt8.ofNat r.toNat] B 0 (by simp)
  simp only [List.getElem_cons_zero] at g0
  unfold Utf8.decode
  simp only [g0, u8n r.toNat (by omega), show r.toNat < 0x80 by omega, if_true]
theorem dec_2 (A B : List UInt8) (r : Int) (h0 : 128 ≤ r) (h : r < 2048) : Utf8.decode ⟨(A ++ (encL r ++ B)).toArray⟩ A.length = (r.toNat, 2) := by
  rw [encL_2 r h0 h]
  have g0 := get_at A [UInt8.ofNat (0xC0 + r.toNat / 64), UInt8.ofNat (0x80 + r.toNat % 64)] B 0 (by simp)
  have g1 := get_at A [UInt8.ofNat (0xC0 + r.toNat / 64), UInt8.ofNat (0x80 + r.toNat % 64)] B 1 (by simp)
  simp only [List.getElem_cons_zero, List.getElem_cons_succ] at g0 g1
  have hsz : A.length + 1 < (⟨(A ++ ([UInt8.ofNat (0xC0 + r.toNat / 64), UInt8.ofNat (0x80 + r.toNat % 64)] ++ B)).toArray⟩ : ByteArray).size := by simp [ByteArray.size]
  generalize (⟨(A ++ ([UInt8.ofNat (0xC0 + r.toNat / 64), UInt8.ofNat (0x80 + r.toNat % 64)] ++ B)).toArray⟩ : ByteArray) = s at *
  unfold Utf8.decode
  simp only [g0, g1, u8n (0xC0 + r.toNat / 64) (by omega), u8n (0x80 + r.toNat % 64) (by omega)]
  have c0 : ¬ (0xC0 + r.toNat / 64 < 0x80) := by omega
  have c1 : (0xC0 + r.toNat / 64) / 32 = 6 := by omega
  have c2 : (0x80 + r.toNat % 64) / 64 = 2 := by omega
  have c3 : (0xC0 + r.toNat / 64) % 32 * 64 + (0x80 + r.toNat % 64) % 64 = r.toNat := by omega
  have c4 : r.toNat ≥ 0x80 := by omega
  simp only [c0, c1, c2, c3, c4, hsz, decide_true, Bool.and_self, Bool.and_true, beq_self_eq_true, if_true, if_false]
theorem dec_3 (A B : List UInt8) (r : Int) (h0 : 2048 ≤ r) (h : r < 65536) (hv : Utf8.valid r = true) : Utf8.decode ⟨(A ++ (encL r ++ B)).toArray⟩ A.length = (r.toNat, 3) := by
  rw [encL_3 r h0 h hv]
  have g0 := get_at A [UInt8.ofNat (0xE0 + r.toNat / 4096), UInt8.ofNat (0x80 + r.toNat / 64 % 64), UInt8.ofNat (0x80 + r.toNat % 64)] B 0 (by simp)
  have g1 := get_at A [UInt8.ofNat (0xE0 + r.toNat / 4096), UInt8.ofNat (0x80 + r.toNat / 64 % 64), UInt8.ofNat (0x80 + r.toNat % 64)] B 1 (by simp)
  have g2 := get_at A [UInt8.ofNat (0xE0 + r.toNat / 4096), UInt8.ofNat (0x80 + r.toNat / 64 % 64), UInt8.ofNat (0x80 + r.toNat % 64)] B 2 (by simp)
  simp only [List.getElem_cons_zero, List.getElem_cons_succ] at g0 g1 g2
  have hsz : A.length + 2 < (⟨(A ++ ([UInt8.ofNat (0xE0 + r.toNat / 4096), UInt8.ofNat (0x80 + r.toNat / 64 % 64), UInt8.ofNat (0x80 + r.toNat % 64)] ++ B)).toArray⟩ : ByteArray).size := by simp [ByteArray.size]
  generalize (⟨(A ++ ([UInt8.ofNat (0xE0 + r.toNat / 4096), UInt8.ofNat (0x80 + r.toNat / 64 % 64), UInt8.ofNat (0x80 + r.toNat % 64)] ++ B)).toArray⟩ : ByteArray) = s at *
  have hsz1 : A.length + 1 < s.size := by omega
  unfold Utf8.decode
  simp only [g0, g1, g2, u8n (0xE0 + r.toNat / 4096) (by omega), u8n (0x80 + r.toNat / 64 % 64) (by omega), u8n (0x80 + r.toNat % 64) (by omega)]
  have c0 : ¬ (0xE0 + r.toNat / 4096 < 0x80) := by omega
  have c1 : ¬ (0xE0 + r.toNat / 4096) / 32 = 6 := by omega
  have c1' : (0xE0 + r.toNat / 4096) / 16 = 14 := by omega
  have c2 : (0x80 + r.toNat / 64 % 64) / 64 = 2 := by omega
  have c2' : (0x80 + r.toNat % 64) / 64 = 2 := by omega
  have c3 : (0xE0 + r.toNat / 4096) % 16 * 4096 + (0x80 + r.toNat / 64 % 64) % 64 * 64 + (0x80 + r.toNat % 64) % 64 = r.toNat := by omega
  have c4 : r.toNat ≥ 0x800 := by omega
  have c5 : ((r.toNat : Nat) : Int) = r := by omega
  have c6 : ((0xE0 + r.toNat / 4096) / 32 == 6) = false := by simpa using c1
  simp only [c0, c6, c1', c2, c2', c3, c4, c5, hsz, hsz1, hv, decide_true, Bool.and_self, Bool.and_true, Bool.false_and, Bool.false_eq_true, beq_self_eq_true, if_true, if_false]
def okR (r : Int) : Prop := 0 ≤ r ∧ r < 65536 ∧ Utf8.valid r = true
theorem encL_len (r : Int) (h : okR r) : 0 < (encL r).length := by
  obtain ⟨h0, h1, hv⟩ := h
  by_cases a : r < 128
  · rw [encL_1 r h0 a]; simp
  by_cases b : r < 2048
  · rw [encL_2 r (by omega) b]; simp
  · rw [encL_3 r (by omega) h1 hv]; simp
theorem dec_any (A B : List UInt8) (r : Int) (h : okR r) : Utf8.decode ⟨(A ++ (encL r ++ B)).toArray⟩ A.length = (r.toNat, (encL r).length) := by
  obtain ⟨h0, h1, hv⟩ := h
  by_cases a : r < 128
  · rw [dec_1 A B r h0 a, encL_1 r h0 a]; rfl
  by_cases b : r < 2048
  · rw [dec_2 A B r (by omega) b, encL_2 r (by omega) b]; rfl
  · rw [dec_3 A B r (by omega) h1 hv, encL_3 r (by omega) h1 hv]; rfl
theorem runesA_text : ∀ (rs : List Int) (A : List UInt8), (∀ r ∈ rs, okR r) → runesA ⟨(A ++ rs.flatMap encL).toArray⟩ A.length = rs
  | [], A, _ => by rw [runesA_end]; simp [ByteArray.size]
  | r :: rs, A, h => by
    have hr := h r (by simp)
    have hl := encL_len r hr
    rw [List.flatMap_cons, runesA_step _ _ (by simp [ByteArray.size]; omega), dec_any A _ r hr]
    have ih := runesA_text rs (A ++ encL r) (fun x hx => h x (by simp [hx]))
    simp only [List.length_append, List.append_assoc] at ih
    rw [ih]
    congr 1
    have := hr.1
    show ((r.toNat : Nat) : Int) = r
    omega
theorem normF_text (rs : List Int) (h : ∀ r ∈ rs, okR r) : normF (rs.flatMap encL) = normL rs := by
  unfold normF
  have := runesA_text rs [] h
  simp only [List.nil_append, List.length_nil] at this
  rw [this]
def ds8 (ds : List Int) : List UInt8 := ds.map fun d => UInt8.ofNat (48 + d.toNat)
def okDs (ds : List Int) : Prop := ∀ d ∈ ds, 0 ≤ d ∧ d ≤ 9
def isBase (b : Int) : Prop := b = 48 ∨ b = 65296 ∨ b = 1632 ∨ b = 1776
theorem pinDig_base (b d : Int) (hb : isBase b) (h0 : 0 ≤ d) (h9 : d ≤ 9) : pinDig (b + d) = d := by
  unfold pinDig
  rcases hb with rfl | rfl | rfl | rfl <;> (repeat' split) <;> omega
theorem normGo_plain : ∀ (ds : List Int) (acc : List UInt8), okDs ds → normGo (ds.map fun d => 48 + d) acc = some (acc ++ ds8 ds)
  | [], acc, _ => by simp [normGo, ds8]
  | d :: ds, acc, h => by
    obtain ⟨h0, h9⟩ := h d (by simp)
    have hp := pinDig_base 48 d (.inl rfl) h0 h9
    rw [List.map_cons, normGo, hp, if_neg (by omega), if_neg (by omega), normGo_plain ds _ fun x hx => h x (by simp [hx])]
    simp [ds8]
theorem normGo_odd (b : Int) (hb : isBase b) : ∀ (ds : List Int) (acc : List UInt8), okDs ds → normGo (ds.flatMap fun d => [b + d, 45]) acc = some (acc ++ ds8 ds)
  | [], acc, _ => by simp [normGo, ds8]
  | d :: ds, acc, h => by
    obtain ⟨h0, h9⟩ := h d (by simp)
    have hp := pinDig_base b d hb h0 h9
    have h45 : pinDig 45 = -2 := rfl
    rw [List.flatMap_cons, List.cons_append, List.cons_append, List.nil_append, normGo, hp, if_neg (by omega), if_neg (by omega), normGo, h45, if_pos rfl, normGo_odd b hb ds _ fun x hx => h x (by simp [hx])]
    simp [ds8]
def plainR (ds : List Int) : List Int := ds.map fun d => 48 + d
def oddR (b : Int) (ds : List Int) : List Int := 32 :: ds.flatMap fun d => [b + d, 45]
theorem okR_base (b d : Int) (hb : isBase b) (h0 : 0 ≤ d) (h9 : d ≤ 9) : okR (b + d) := by
  rcases hb with rfl | rfl | rfl | rfl <;> refine ⟨by omega, by omega, ?_⟩ <;> simp [Utf8.valid] <;> omega
theorem norm_plain (ds : List Int) (h : okDs ds) (h4 : 4 ≤ ds.length) (h12 : ds.length ≤ 12) : normF ((plainR ds).flatMap encL) = some (ds8 ds) := by
  rw [normF_text _ fun r hr => by
    obtain ⟨d, hd, rfl⟩ := List.mem_map.1 hr
    exact okR_base 48 d (.inl rfl) (h d hd).1 (h d hd).2]
  unfold normL plainR
  rw [normGo_plain ds [] h]
  simp [ds8, h4, h12]
theorem norm_odd (b : Int) (hb : isBase b) (ds : List Int) (h : okDs ds) (h4 : 4 ≤ ds.length) (h12 : ds.length ≤ 12) : normF ((oddR b ds).flatMap encL) = some (ds8 ds) := by
  rw [normF_text _ fun r hr => by
    rcases List.mem_cons.1 hr with rfl | hr
    · exact ⟨by omega, by omega, rfl⟩
    · obtain ⟨d, hd, hr⟩ := List.mem_flatMap.1 hr
      simp only [List.mem_cons, List.not_mem_nil, or_false] at hr
      rcases hr with rfl | rfl
      · exact okR_base b d hb (h d hd).1 (h d hd).2
      · exact ⟨by omega, by omega, rfl⟩]
  unfold normL oddR
  have h32 : pinDig 32 = -2 := rfl
  rw [normGo, h32, if_pos rfl, normGo_odd b hb ds [] h]
  simp [ds8, h4, h12]
theorem plain_snoc (ds : List Int) (d : Int) : (plainR (ds ++ [d])).flatMap encL = (plainR ds).flatMap encL ++ encL (48 + d) := by simp [plainR]
theorem odd_snoc (b : Int) (ds : List Int) (d : Int) : (oddR b (ds ++ [d])).flatMap encL = ((oddR b ds).flatMap encL ++ encL (b + d)) ++ encL 45 := by simp [oddR]
end Go.Proofs.Ytmmaenfjnkoknaa.VA
