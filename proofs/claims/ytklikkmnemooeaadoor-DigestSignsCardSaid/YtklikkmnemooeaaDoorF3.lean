/- A digit of a long division (Knuth). Plain numbers alone. -/
namespace Go.Proofs.YtklikkmnemooeaaDoor.NT
section
variable {B Y y1 y0 u v : Nat}
/-- q is at least the digit, r what is left of u. -/
structure Dig (B Y y1 u v q r : Nat) : Prop where
  sum : q * y1 + r = u
  up : u * B + v < (q + 1) * Y
theorem dig_start (hY : Y = y1 * B + y0) (h1 : 0 < y1) (hv : v < B) : Dig B Y y1 u v (u / y1) (u % y1) := by
  refine ⟨by rw [Nat.mul_comm]; exact Nat.div_add_mod u y1, ?_⟩
  have h2 : u < (u / y1 + 1) * y1 := by
    have := Nat.div_add_mod u y1
    have := Nat.mod_lt u h1
    rw [Nat.add_mul, Nat.one_mul, Nat.mul_comm]; omega
  have h3 : (u + 1) * B ≤ (u / y1 + 1) * y1 * B := Nat.mul_le_mul_right _ h2
  rw [hY, Nat.mul_add, ← Nat.mul_assoc]
  rw [Nat.add_mul, Nat.one_mul] at h3
  omega
theorem dig_up {q r : Nat} (hY : Y = y1 * B + y0) (hu : u < Y) (hv : v < B) (h : Dig B Y y1 u v q r) (hc : B ≤ q ∨ B * r + v < q * y0) : 0 < q ∧ u * B + v < q * Y := by
  obtain ⟨hs, _⟩ := h
  rcases hc with hc | hc
  · refine ⟨by omega, ?_⟩
    have h1 : (u + 1) * B ≤ Y * B := Nat.mul_le_mul_right _ hu
    have h2 : B * Y ≤ q * Y := Nat.mul_le_mul_right _ hc
    rw [Nat.add_mul, Nat.one_mul] at h1
    rw [Nat.mul_comm B Y] at h2
    omega
  · have hq : 0 < q := by
      rcases Nat.eq_zero_or_pos q with e | e
      · rw [e, Nat.zero_mul] at hc; omega
      · exact e
    refine ⟨hq, ?_⟩
    have e : u * B = q * y1 * B + r * B := by rw [← hs, Nat.add_mul]
    rw [hY, Nat.mul_add, ← Nat.mul_assoc, e, Nat.mul_comm r B]
    omega
theorem dig_step {q r : Nat} (hY : Y = y1 * B + y0) (hu : u < Y) (hv : v < B) (h : Dig B Y y1 u v q r) (hc : B ≤ q ∨ B * r + v < q * y0) : Dig B Y y1 u v (q - 1) (r + y1) := by
  obtain ⟨hq, hl⟩ := dig_up hY hu hv h hc
  obtain ⟨p, rfl⟩ : ∃ p, q = p + 1 := ⟨q - 1, by omega⟩
  refine ⟨?_, by rw [Nat.add_sub_cancel]; exact hl⟩
  have := h.sum
  rw [Nat.add_mul, Nat.one_mul] at this
  rw [Nat.add_sub_cancel]
  omega
theorem dig_end {q r : Nat} (hY : Y = y1 * B + y0) (hY0 : 0 < Y) (h : Dig B Y y1 u v q r) (hc : q * y0 ≤ B * r + v) : q = (u * B + v) / Y := by
  have h1 : q * Y ≤ u * B + v := by
    have e : u * B = q * y1 * B + r * B := by rw [← h.sum, Nat.add_mul]
    rw [hY, Nat.mul_add, ← Nat.mul_assoc, e, Nat.mul_comm r B]
    omega
  have h2 := h.up
  apply Nat.le_antisymm
  · rw [Nat.le_div_iff_mul_le hY0]; exact h1
  · have := (Nat.div_lt_iff_lt_mul hY0).2 h2
    omega
theorem dig_bound {q r : Nat} (hY : Y = y1 * B + y0) (h0 : y0 < B) (hn : B ≤ 2 * y1) (hu : u < Y) (h : Dig B Y y1 u v q r) : q ≤ B + 1 := by
  have hs := h.sum
  rcases Nat.lt_or_ge (B + 1) q with hq | hq
  · have h1 : (B + 2) * y1 ≤ q * y1 := Nat.mul_le_mul_right _ hq
    rw [Nat.add_mul, Nat.mul_comm B y1] at h1
    omega
  · exact hq
theorem dig_break {q r : Nat} (hY : Y = y1 * B + y0) (h0 : y0 < B) (hn : B ≤ 2 * y1) (hu : u < Y) (hv : v < B) (h : Dig B Y y1 u v q r) (hc : B ≤ q ∨ B * r + v < q * y0) (hr : B ≤ r + y1) : q - 1 = (u * B + v) / Y := by
  have hY0 : 0 < Y := by omega
  have hs := dig_step hY hu hv h hc
  have hb := dig_bound hY h0 hn hu h
  refine dig_end hY hY0 hs ?_
  have h1 : (q - 1) * y0 ≤ B * B := Nat.mul_le_mul (by omega) (by omega)
  have h2 : B * B ≤ B * (r + y1) := Nat.mul_le_mul_left _ hr
  omega
end
/-- Two digits: the division of a number of three halves. -/
theorem two_digits (B Y u a b : Nat) : ((u * B + a) % Y * B + b) % Y = ((u * B + a) * B + b) % Y := by
  rw [Nat.add_mod, Nat.mul_mod, Nat.mod_mod, ← Nat.mul_mod, ← Nat.add_mod]
theorem shifted (U y s : Nat) : U * 2 ^ s % (y * 2 ^ s) / 2 ^ s = U % y := by
  rw [Nat.mul_mod_mul_right, Nat.mul_div_cancel _ (Nat.two_pow_pos s)]
end Go.Proofs.YtklikkmnemooeaaDoor.NT
