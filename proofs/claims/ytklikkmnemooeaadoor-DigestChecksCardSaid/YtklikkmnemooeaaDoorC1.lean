/- The check as a division of a number: linear, and what it does with a short change. Plain numbers alone. -/
import Derived.Test.YtklikkmnemooeaaDoorD7
namespace Go.Proofs.YtklikkmnemooeaaDoor
/-- the bytes as one number, the first one least -/
def num : List UInt8 → Nat
  | [] => 0
  | b :: l => b.toNat ^^^ (num l <<< 8)
theorem num_snoc (l : List UInt8) (b : UInt8) : num (l ++ [b]) = num l ^^^ (b.toNat <<< (8 * l.length)) := by
  induction l with
  | nil => simp [num]
  | cons a l ih =>
    rw [List.cons_append, num, ih, num, Nat.shiftLeft_xor_distrib, ← Nat.shiftLeft_add, List.length_cons, show 8 * l.length + 8 = 8 * (l.length + 1) by omega, Nat.xor_assoc]
theorem num_set (l : List UInt8) (k : Nat) (hk : k < l.length) (m : UInt8) : num (l.set k (l.getD k 0 ^^^ m)) = num l ^^^ (m.toNat <<< (8 * k)) := by
  induction l generalizing k with
  | nil => cases hk
  | cons a l ih =>
    cases k with
    | zero =>
      rw [List.set_cons_zero, num, num]
      show (a ^^^ m).toNat ^^^ (num l <<< 8) = _
      rw [UInt8.toNat_xor, Nat.mul_zero, Nat.shiftLeft_zero, Nat.xor_assoc, Nat.xor_comm m.toNat, ← Nat.xor_assoc]
    | succ k =>
      rw [List.set_cons_succ, num, num]
      have := ih k (by simpa using hk)
      rw [show (a :: l).getD (k + 1) 0 = l.getD k 0 from rfl, this, Nat.shiftLeft_xor_distrib, ← Nat.shiftLeft_add, show 8 * k + 8 = 8 * (k + 1) by omega, Nat.xor_assoc]
theorem bit_cases (x : Nat) : x &&& 1 = 0 ∨ x &&& 1 = 1 := by
  rw [Nat.and_one_is_mod]; omega
theorem crc1_xor (a b : Nat) : crc1 (a ^^^ b) = crc1 a ^^^ crc1 b := by
  unfold crc1
  rw [Nat.shiftRight_xor_distrib, Nat.and_xor_distrib_right]
  have key : ∀ x y : Nat, (x = 0 ∨ x = 1) → (y = 0 ∨ y = 1) → 3988292384 * (x ^^^ y) = (3988292384 * x) ^^^ (3988292384 * y) := by
    rintro x y (rfl | rfl) (rfl | rfl) <;> decide
  rw [key _ _ (bit_cases a) (bit_cases b)]
  generalize a >>> 1 = p
  generalize b >>> 1 = q
  generalize 3988292384 * (a &&& 1) = r
  generalize 3988292384 * (b &&& 1) = t
  rw [Nat.xor_assoc, Nat.xor_assoc, ← Nat.xor_assoc q r t, Nat.xor_comm q r, Nat.xor_assoc r q t]
theorem crcN_xor (a b n : Nat) : crcN (a ^^^ b) n = crcN a n ^^^ crcN b n := by
  induction n with
  | zero => rfl
  | succ n ih => rw [crcN, crcN, crcN, ih, crc1_xor]
theorem crcN_add (w a b : Nat) : crcN w (a + b) = crcN (crcN w a) b := by
  induction b with
  | zero => rfl
  | succ b ih => rw [← Nat.add_assoc, crcN, crcN, ih]
theorem crc1_even (b m : Nat) : crc1 (b <<< (m + 1)) = b <<< m := by
  unfold crc1
  have h1 : b <<< (m + 1) = 2 * (b <<< m) := by rw [Nat.shiftLeft_eq, Nat.shiftLeft_eq, Nat.pow_succ, ← Nat.mul_assoc, Nat.mul_comm]
  rw [h1, Nat.and_one_is_mod, Nat.mul_mod_right, Nat.mul_zero, Nat.xor_zero, Nat.shiftRight_eq_div_pow, Nat.pow_one, Nat.mul_div_cancel_left _ (by decide)]
theorem crcN_shift (b m : Nat) : ∀ j, j ≤ m → crcN (b <<< m) j = b <<< (m - j) := by
  intro j
  induction j with
  | zero => intro _; rfl
  | succ j ih =>
    intro h
    rw [crcN, ih (by omega), show m - j = (m - (j + 1)) + 1 by omega, crc1_even]
theorem crcN_cancel (x b m : Nat) : crcN (x ^^^ (b <<< m)) m = crcN x m ^^^ b := by
  rw [crcN_xor, crcN_shift b m m (Nat.le_refl m), Nat.sub_self, Nat.shiftLeft_zero]
theorem crcs_num (w : Nat) (l : List UInt8) (k : Nat) (hk : k ≤ l.length) : crcs w l k = crcN (w ^^^ num (l.take k)) (8 * k) := by
  induction k with
  | zero => simp [crcs, crcN, num]
  | succ k ih =>
    have hl : (l.take k).length = k := by rw [List.length_take]; omega
    rw [crcs, ih (by omega), List.take_succ_eq_append_getElem (by omega), num_snoc, hl, List.getD_eq_getElem?_getD, List.getElem?_eq_getElem (by omega)]
    rw [← Nat.xor_assoc, Nat.mul_succ, crcN_add, crcN_cancel]
    rfl
theorem crcs_all (w : Nat) (l : List UInt8) : crcs w l l.length = crcN (w ^^^ num l) (8 * l.length) := by
  rw [crcs_num w l _ (Nat.le_refl _), List.take_length]
theorem crc1_zero (z : Nat) (hz : z < 4294967296) (h : crc1 z = 0) : z = 0 := by
  unfold crc1 at h
  rcases bit_cases z with hb | hb
  · rw [hb, Nat.mul_zero, Nat.xor_zero, Nat.shiftRight_eq_div_pow] at h
    rw [Nat.and_one_is_mod] at hb
    omega
  · rw [hb, Nat.mul_one] at h
    have h2 : z >>> 1 = 3988292384 := by
      have : (z >>> 1 ^^^ 3988292384) ^^^ 3988292384 = 0 ^^^ 3988292384 := by rw [h]
      rw [Nat.xor_assoc, Nat.xor_self, Nat.xor_zero, Nat.zero_xor] at this
      exact this
    rw [Nat.shiftRight_eq_div_pow] at h2
    omega
theorem crcN_zero (z n : Nat) (hz : z < 4294967296) (h : crcN z n = 0) : z = 0 := by
  induction n with
  | zero => exact h
  | succ n ih => exact ih (crc1_zero _ (crcN_lt z n hz) h)
/-- A change of up to 32 consecutive bits is seen. -/
theorem burst (w at' bits : Nat) (l l' : List UInt8) (hl : l'.length = l.length) (hb0 : bits ≠ 0) (hb : bits < 4294967296) (ha : at' ≤ 8 * l.length) (h : num l' = num l ^^^ (bits <<< at')) : crcs w l' l'.length ≠ crcs w l l.length := by
  rw [crcs_all, crcs_all, h, hl, ← Nat.xor_assoc, crcN_xor (w ^^^ num l)]
  intro e
  have h0 : crcN (bits <<< at') (8 * l.length) = 0 := by
    have e2 : crcN (w ^^^ num l) (8 * l.length) ^^^ (crcN (w ^^^ num l) (8 * l.length) ^^^ crcN (bits <<< at') (8 * l.length)) = crcN (w ^^^ num l) (8 * l.length) ^^^ crcN (w ^^^ num l) (8 * l.length) := by rw [e]
    rw [← Nat.xor_assoc, Nat.xor_self, Nat.zero_xor] at e2
    exact e2
  rw [show 8 * l.length = at' + (8 * l.length - at') by omega, crcN_add, crcN_shift bits at' at' (Nat.le_refl _), Nat.sub_self, Nat.shiftLeft_zero] at h0
  exact hb0 (crcN_zero _ _ hb h0)
theorem crcs_append (w : Nat) (a b : List UInt8) : crcs w (a ++ b) (a ++ b).length = crcs (crcs w a a.length) b b.length := by
  have h1 : ∀ k, k ≤ a.length → crcs w (a ++ b) k = crcs w a k := by
    intro k
    induction k with
    | zero => intro _; rfl
    | succ k ih =>
      intro hk
      rw [crcs, crcs, ih (by omega), List.getD_eq_getElem?_getD, List.getElem?_append_left (by omega), ← List.getD_eq_getElem?_getD]
  have h2 : ∀ k, crcs w (a ++ b) (a.length + k) = crcs (crcs w a a.length) b k := by
    intro k
    induction k with
    | zero => exact h1 a.length (Nat.le_refl _)
    | succ k ih =>
      rw [← Nat.add_assoc, crcs, ih, crcs, List.getD_eq_getElem?_getD, List.getElem?_append_right (by omega), Nat.add_sub_cancel_left, ← List.getD_eq_getElem?_getD]
  rw [List.length_append]
  exact h2 b.length
end Go.Proofs.YtklikkmnemooeaaDoor
