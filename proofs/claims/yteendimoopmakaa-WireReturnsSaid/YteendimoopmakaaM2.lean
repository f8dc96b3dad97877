/- Numbers and little numbers: what a reading gives is what a writing takes, and the other way round. Conditions stand in each theorem. -/
import Derived.Test.YteendimoopmakaaT6
import Derived.Test.YteendimoopmakaaM1
namespace Go.Proofs.Yteendimoopmakaa
open Go.RowKit

theorem u8_eq {b : UInt8} {x : Int} (h : x = (b.toNat : Int)) : UInt8.ofNat x.toNat = b := by
  subst h; simp
theorem ext_list (s : ByteArray) (a m : Nat) : (s.extract a (a + m)).data.toList = (s.data.toList.drop a).take m := by
  rw [ByteArray.data_extract, Array.toList_extract]
  simp [List.extract]
theorem sgn_or (b u : Nat) : sgn b u = (u % 2 ^ b : Nat) ∨ sgn b u = ((u % 2 ^ b : Nat) : Int) - (2 ^ b : Nat) := by
  unfold sgn; split <;> simp

/-! from bytes to the number and back to the bytes -/
theorem numB_dec1 (c : UInt8) (hc : c.toNat < 128) {n : Int} (hn : sgn 7 (beM [c]) = n) (hs : sizeN n = 1) : numB n = [c] := by
  rw [numB_1 n hs]
  have e : beM [c] = c.toNat := by have := c.toNat_lt; unfold beM beN; simp only [List.foldl]; omega
  rw [e] at hn
  rw [u8_eq (b := c)]
  rcases sgn_or 7 c.toNat with h | h <;> rw [h] at hn <;> omega
theorem numB_dec2 (c d : UInt8) (hc : 128 ≤ c.toNat ∧ c.toNat < 192) {n : Int} (hn : sgn 14 (beM [c, d]) = n) (hs : sizeN n = 2) : numB n = [c, d] := by
  rw [numB_2 n hs]
  have hd := d.toNat_lt
  have e : beM [c, d] = c.toNat * 256 + d.toNat := by simp [beM, beN]; omega
  rw [e] at hn
  have h1 : n % 16384 = ((c.toNat * 256 + d.toNat : Nat) : Int) % 16384 := by
    rcases sgn_or 14 (c.toNat * 256 + d.toNat) with h | h <;> rw [h] at hn <;> omega
  unfold revB revB
  rw [u8_eq (b := c) (by omega), u8_eq (b := d) (by simp; omega)]
theorem numB_dec4 (c d f g : UInt8) (hc : 192 ≤ c.toNat ∧ c.toNat < 224) {n : Int} (hn : sgn 29 (beM [c, d, f, g]) = n) (hs : sizeN n = 4) : numB n = [c, d, f, g] := by
  rw [numB_4 n hs]
  have hd := d.toNat_lt
  have hf := f.toNat_lt
  have hg := g.toNat_lt
  have e : beM [c, d, f, g] = ((c.toNat * 256 + d.toNat) * 256 + f.toNat) * 256 + g.toNat := by simp [beM, beN]; omega
  rw [e] at hn
  have h1 : n % 536870912 = ((((c.toNat * 256 + d.toNat) * 256 + f.toNat) * 256 + g.toNat : Nat) : Int) % 536870912 := by
    rcases sgn_or 29 (((c.toNat * 256 + d.toNat) * 256 + f.toNat) * 256 + g.toNat) with h | h <;> rw [h] at hn <;> omega
  unfold revB revB revB revB
  rw [u8_eq (b := c) (by omega), u8_eq (b := d) (by simp; omega), u8_eq (b := f) (by simp; omega), u8_eq (b := g) (by simp; omega)]
theorem beM_cons224 (l : List UInt8) (hl : l.length = 8) : beM ((224 : UInt8) :: l) = beM l := by
  match l, hl with
  | [a, b, c, d, e, f, g, h], _ => simp [beM, beN]; omega
theorem revB_8 (l : List UInt8) (hl : l.length = 8) (n : Int) (hn : n % 18446744073709551616 = beM l) : revB n 8 = l := by
  match l, hl with
  | [a, b, c, d, e, f, g, h], _ =>
    have ha := a.toNat_lt
    have hb := b.toNat_lt
    have hc := c.toNat_lt
    have hd := d.toNat_lt
    have he := e.toNat_lt
    have hf := f.toNat_lt
    have hg := g.toNat_lt
    have hh := h.toNat_lt
    have q : beM [a, b, c, d, e, f, g, h] = ((((((a.toNat * 256 + b.toNat) * 256 + c.toNat) * 256 + d.toNat) * 256 + e.toNat) * 256 + f.toNat) * 256 + g.toNat) * 256 + h.toNat := by simp [beM, beN]; omega
    rw [q] at hn
    simp only [revB]
    rw [u8_eq (b := a) (by simp; omega), u8_eq (b := b) (by simp; omega), u8_eq (b := c) (by simp; omega), u8_eq (b := d) (by simp; omega), u8_eq (b := e) (by simp; omega), u8_eq (b := f) (by simp; omega), u8_eq (b := g) (by simp; omega), u8_eq (b := h) (by simp; omega)]
theorem numB_dec9 (l : List UInt8) (hl : l.length = 8) {n : Int} (hn : sgn 64 (beM ((224 : UInt8) :: l)) = n) (hs : sizeN n = 9) : numB n = 224 :: l := by
  rw [numB_9 n hs]
  rw [beM_cons224 l hl] at hn
  rw [revB_8 l hl n]
  have := beM_lt l
  rcases sgn_or 64 (beM l) with h | h <;> rw [h] at hn <;> omega

/-! from the number to the bytes and back -/
theorem numB_enc1 (n : Int) (hs : sizeN n = 1) : sgn 7 (beM (numB n)) = n := by
  have hr := sizeN_1 hs
  rw [numB_1 n hs]
  have e := u8cell (n % 128) (by omega) (by omega)
  generalize UInt8.ofNat (n % 128).toNat = c at e ⊢
  have q : beM [c] = c.toNat := by have := c.toNat_lt; unfold beM beN; simp only [List.foldl]; omega
  rw [q]
  unfold sgn
  split <;> omega
theorem numB_enc2 (n : Int) (hs : sizeN n = 2) : sgn 14 (beM (numB n)) = n := by
  have hr := sizeN_2 hs
  rw [numB_2 n hs]
  unfold revB revB
  have e := u8cell (128 + n / 256 % 64) (by omega) (by omega)
  have e2 := u8cell (n / 256 ^ 0 % 256) (by omega) (by omega)
  generalize UInt8.ofNat (128 + n / 256 % 64).toNat = c at e ⊢
  generalize UInt8.ofNat (n / 256 ^ 0 % 256).toNat = d at e2 ⊢
  simp at e2
  have q : beM [c, d] = c.toNat * 256 + d.toNat := by have := c.toNat_lt; have := d.toNat_lt; simp [beM, beN]; omega
  rw [q]
  unfold sgn
  split <;> omega
theorem numB_enc4 (n : Int) (hs : sizeN n = 4) : sgn 29 (beM (numB n)) = n := by
  have hr := sizeN_4 hs
  rw [numB_4 n hs]
  unfold revB revB revB revB
  have e := u8cell (192 + n / 16777216 % 32) (by omega) (by omega)
  have e2 := u8cell (n / 256 ^ 2 % 256) (by omega) (by omega)
  have e3 := u8cell (n / 256 ^ 1 % 256) (by omega) (by omega)
  have e4 := u8cell (n / 256 ^ 0 % 256) (by omega) (by omega)
  generalize UInt8.ofNat (192 + n / 16777216 % 32).toNat = c at e ⊢
  generalize UInt8.ofNat (n / 256 ^ 2 % 256).toNat = d at e2 ⊢
  generalize UInt8.ofNat (n / 256 ^ 1 % 256).toNat = f at e3 ⊢
  generalize UInt8.ofNat (n / 256 ^ 0 % 256).toNat = g at e4 ⊢
  simp at e2 e3 e4
  have q : beM [c, d, f, g] = ((c.toNat * 256 + d.toNat) * 256 + f.toNat) * 256 + g.toNat := by have := c.toNat_lt; have := d.toNat_lt; have := f.toNat_lt; have := g.toNat_lt; simp [beM, beN]; omega
  rw [q]
  unfold sgn
  split <;> omega
theorem beN_from (l : List UInt8) : ∀ u : Nat, l.foldl (fun u b => u * 256 + b.toNat) u = u * 256 ^ l.length + beN l := by
  induction l with
  | nil => intro u; simp [beN]
  | cons b l ih =>
    intro u
    have h0 : beN (b :: l) = (0 * 256 + b.toNat) * 256 ^ l.length + beN l := ih (0 * 256 + b.toNat)
    have h1 := ih (u * 256 + b.toNat)
    rw [List.foldl_cons, h1, h0, List.length_cons, Nat.pow_succ, Nat.zero_mul, Nat.zero_add, Nat.add_mul, Nat.add_assoc, Nat.mul_assoc, Nat.mul_comm 256]
theorem beN_cons (b : UInt8) (l : List UInt8) : beN (b :: l) = b.toNat * 256 ^ l.length + beN l := by
  rw [beN, List.foldl_cons, beN_from, Nat.zero_mul, Nat.zero_add]
theorem emod_step (n A : Int) (hA : 0 < A) : (n / A % 256) * A + n % A = n % (A * 256) := by
  have h1 := Int.emod_add_mul_ediv n A
  have h2 := Int.emod_add_mul_ediv (n / A) 256
  have h3 : A * (n / A) = A * (n / A % 256) + (A * 256) * (n / A / 256) := by
    conv => lhs; rw [← h2]
    rw [Int.mul_add, Int.mul_assoc]
  have r0 := Int.emod_nonneg n (show A ≠ 0 by omega)
  have r1 := Int.emod_lt_of_pos n hA
  have q0 := Int.emod_nonneg (n / A) (show (256 : Int) ≠ 0 by omega)
  have q1 := Int.emod_lt_of_pos (n / A) (show (0 : Int) < 256 by omega)
  have m0 : 0 ≤ (n / A % 256) * A := Int.mul_nonneg q0 (by omega)
  have m1 : (n / A % 256) * A ≤ 255 * A := Int.mul_le_mul_of_nonneg_right (by omega) (by omega)
  have e : n = ((n / A % 256) * A + n % A) + (A * 256) * (n / A / 256) := by
    rw [Int.mul_comm (n / A % 256) A]
    omega
  have h := Int.add_mul_emod_self_left ((n / A % 256) * A + n % A) (A * 256) (n / A / 256)
  rw [← e] at h
  exact (h.trans (Int.emod_eq_of_lt (by omega) (by omega))).symm
theorem revB_beN (n : Int) (k : Nat) : (beN (revB n k) : Int) = n % 256 ^ k := by
  induction k with
  | zero => simp [revB, beN, Int.emod_one]
  | succ k ih =>
    rw [revB, beN_cons, revB_length, Int.natCast_add, Int.natCast_mul, ih, u8cell _ (Int.emod_nonneg _ (by omega)) (Int.emod_lt_of_pos _ (by omega))]
    rw [Int.natCast_pow, Int.pow_succ]
    exact emod_step n (256 ^ k) (Int.pow_pos (by omega))
theorem numB_enc9 (n : Int) (h0 : -9223372036854775808 ≤ n) (h1 : n ≤ 9223372036854775807) (hs : sizeN n = 9) : sgn 64 (beM (numB n)) = n := by
  rw [numB_9 n hs, beM_cons224 _ (revB_length n 8)]
  have h := revB_beN n 8
  have hb : beM (revB n 8) = beN (revB n 8) := by
    unfold beM
    have : (256 : Int) ^ 8 = 18446744073709551616 := by decide
    rw [this] at h
    omega
  rw [hb]
  have : (256 : Int) ^ 8 = 18446744073709551616 := by decide
  rw [this] at h
  unfold sgn
  split <;> omega

/-! a number's reading -/
theorem ba_get (s : ByteArray) (a : Nat) (h : a < s.size) : s.data.toList[a]'(by simpa using h) = s[a] := rfl
theorem drop_head {s : ByteArray} {a : Nat} {b : UInt8} {l : List UInt8} (h : s.data.toList.drop a = b :: l) : ∃ ha : a < s.size, s[a]'ha = b := by
  have hl : s.data.toList.length = s.size := Array.length_toList
  have ha : a < s.size := by
    rcases Nat.lt_or_ge a s.size with h1 | h1
    · exact h1
    · rw [List.drop_of_length_le (by omega)] at h; cases h
  refine ⟨ha, ?_⟩
  rw [← ba_get s a ha]
  rw [List.drop_eq_getElem_cons (by omega)] at h
  injection h
theorem rdNumber_enc (s : ByteArray) (a : Nat) (n : Int) (rest : List UInt8) (h0 : -9223372036854775808 ≤ n) (h1 : n ≤ 9223372036854775807) (h : s.data.toList.drop a = numB n ++ rest) : rdNumber s a = (n, 0, a + sizeN n) := by
  have hl : s.data.toList.length = s.size := Array.length_toList
  have hfit : a + sizeN n ≤ s.size := by
    have e := congrArg List.length h
    rw [List.length_drop, List.length_append, numB_length, hl] at e
    rcases sizeN_cases n with q | q | q | q <;> omega
  have hex : (s.extract a (a + sizeN n)).data.toList = numB n := by rw [ext_list, h, List.take_append_of_le_length (by rw [numB_length]; omega), List.take_of_length_le (by rw [numB_length]; omega)]
  obtain ⟨x, l, hx, x0, x1, x2, x3, x4, x5⟩ := numB_head n
  rw [hx, List.cons_append] at h
  obtain ⟨ha, hb⟩ := drop_head h
  have hc : ((s[a]'ha).toNat : Int) = x := by rw [hb, u8cell x x0 x1]
  unfold rdNumber
  rw [dif_pos ha]
  rcases sizeN_cases n with q | q | q | q
  · have := x2 q
    have hv : numV s a 1 7 = n := by rw [q] at hex; unfold numV; rw [hex]; exact numB_enc1 n q
    rw [if_pos (by omega), if_neg (by omega), hv, if_pos q, q]
  · have := x3 q
    have hv : numV s a 2 14 = n := by rw [q] at hex; unfold numV; rw [hex]; exact numB_enc2 n q
    rw [if_neg (by omega), if_pos (by omega), if_neg (by omega), hv, if_pos q, q]
  · have := x4 q
    have hv : numV s a 4 29 = n := by rw [q] at hex; unfold numV; rw [hex]; exact numB_enc4 n q
    rw [if_neg (by omega), if_neg (by omega), if_pos (by omega), if_neg (by omega), hv, if_pos q, q]
  · have := x5 q
    have hv : numV s a 9 64 = n := by rw [q] at hex; unfold numV; rw [hex]; exact numB_enc9 n h0 h1 q
    rw [if_neg (by omega), if_neg (by omega), if_neg (by omega), if_pos (by omega), if_neg (by omega), hv, if_pos q, q]
theorem take_drop_cons {s : ByteArray} {a m : Nat} (ha : a < s.size) (hm : a + (m + 1) ≤ s.size) : ∃ l, (s.extract a (a + (m + 1))).data.toList = s[a] :: l ∧ l.length = m := by
  have hl : s.data.toList.length = s.size := Array.length_toList
  rw [ext_list, List.drop_eq_getElem_cons (by omega), List.take_succ_cons, ba_get s a ha]
  exact ⟨_, rfl, by rw [List.length_take, List.length_drop, hl]; omega⟩
theorem rdNumber_dec (s : ByteArray) (a : Nat) (h : (rdNumber s a).2.1 = 0) : a + sizeN (rdNumber s a).1 = (rdNumber s a).2.2 ∧ (rdNumber s a).2.2 ≤ s.size ∧ (s.extract a (rdNumber s a).2.2).data.toList = numB (rdNumber s a).1 ∧ -9223372036854775808 ≤ (rdNumber s a).1 ∧ (rdNumber s a).1 ≤ 9223372036854775807 := by
  unfold rdNumber at h ⊢
  by_cases ha : a < s.size
  · rw [dif_pos ha] at h ⊢
    by_cases c1 : (s[a]'ha).toNat < 128
    · rw [if_pos c1] at h ⊢
      by_cases hf : s.size < a + 1
      · omega
      · rw [if_neg hf] at h ⊢
        by_cases hz : sizeN (numV s a 1 7) = 1
        · rw [if_pos hz] at h ⊢
          dsimp only
          obtain ⟨l, e, hl⟩ := take_drop_cons (m := 0) ha (by omega)
          have hb := sgn_lo 7 (beM (s.extract a (a + 1)).data.toList) (by omega)
          obtain rfl : l = [] := List.length_eq_zero_iff.1 hl
          refine ⟨by rw [hz], by omega, ?_, hb⟩
          rw [e]
          exact (numB_dec1 _ c1 (by unfold numV; rw [e]) hz).symm
        · rw [if_neg hz] at h; exact absurd h (by show (2 : Int) ≠ 0; decide)
    · rw [if_neg c1] at h ⊢
      by_cases c2 : (s[a]'ha).toNat < 192
      · rw [if_pos c2] at h ⊢
        by_cases hf : s.size < a + 2
        · rw [if_pos hf] at h; exact absurd h (by show (16 : Int) ≠ 0; decide)
        · rw [if_neg hf] at h ⊢
          by_cases hz : sizeN (numV s a 2 14) = 2
          · rw [if_pos hz] at h ⊢
            dsimp only
            obtain ⟨l, e, hl⟩ := take_drop_cons (m := 1) ha (by omega)
            have hb := sgn_lo 14 (beM (s.extract a (a + 2)).data.toList) (by omega)
            match l, hl with
            | [d], _ =>
              refine ⟨by rw [hz], by omega, ?_, hb⟩
              rw [e]
              exact (numB_dec2 _ d ⟨by omega, c2⟩ (by unfold numV; rw [e]) hz).symm
          · rw [if_neg hz] at h; exact absurd h (by show (2 : Int) ≠ 0; decide)
      · rw [if_neg c2] at h ⊢
        by_cases c3 : (s[a]'ha).toNat < 224
        · rw [if_pos c3] at h ⊢
          by_cases hf : s.size < a + 4
          · rw [if_pos hf] at h; exact absurd h (by show (16 : Int) ≠ 0; decide)
          · rw [if_neg hf] at h ⊢
            by_cases hz : sizeN (numV s a 4 29) = 4
            · rw [if_pos hz] at h ⊢
              dsimp only
              obtain ⟨l, e, hl⟩ := take_drop_cons (m := 3) ha (by omega)
              have hb := sgn_lo 29 (beM (s.extract a (a + 4)).data.toList) (by omega)
              match l, hl with
              | [d, f, g], _ =>
                refine ⟨by rw [hz], by omega, ?_, hb⟩
                rw [e]
                exact (numB_dec4 _ d f g ⟨by omega, c3⟩ (by unfold numV; rw [e]) hz).symm
            · rw [if_neg hz] at h; exact absurd h (by show (2 : Int) ≠ 0; decide)
        · rw [if_neg c3] at h ⊢
          by_cases c4 : (s[a]'ha).toNat = 224
          · rw [if_pos c4] at h ⊢
            by_cases hf : s.size < a + 9
            · rw [if_pos hf] at h; exact absurd h (by show (16 : Int) ≠ 0; decide)
            · rw [if_neg hf] at h ⊢
              by_cases hz : sizeN (numV s a 9 64) = 9
              · rw [if_pos hz] at h ⊢
                dsimp only
                obtain ⟨l, e, hl⟩ := take_drop_cons (m := 8) ha (by omega)
                have hb := sgn_lo 64 (beM (s.extract a (a + 9)).data.toList) (by omega)
                have e224 : s[a]'ha = 224 := UInt8.toNat_inj.1 (by rw [c4]; rfl)
                rw [e224] at e
                refine ⟨by rw [hz], by omega, ?_, hb⟩
                rw [e]
                exact (numB_dec9 l hl (by unfold numV; rw [e]) hz).symm
              · rw [if_neg hz] at h; exact absurd h (by show (2 : Int) ≠ 0; decide)
          · rw [if_neg c4] at h; exact absurd h (by show (2 : Int) ≠ 0; decide)
  · rw [dif_neg ha] at h; exact absurd h (by show (16 : Int) ≠ 0; decide)
end Go.Proofs.Yteendimoopmakaa
