/- Different numbers have different encodings, none of which begins another one. For int64 numbers. -/
import Derived.Test.YteendimoopmakaaT2
namespace Go.Proofs.Yteendimoopmakaa
open Go.RowKit

theorem u8inj {x y : Int} (hx : 0 ≤ x ∧ x < 256) (hy : 0 ≤ y ∧ y < 256) (h : UInt8.ofNat x.toNat = UInt8.ofNat y.toNat) : x = y := by
  have e := congrArg (fun b : UInt8 => (b.toNat : Int)) h
  simp only [u8cell x hx.1 hx.2, u8cell y hy.1 hy.2] at e
  exact e
theorem u8inj' {x y : Int} (h : UInt8.ofNat x.toNat = UInt8.ofNat y.toNat) (hx : 0 ≤ x ∧ x < 256) (hy : 0 ≤ y ∧ y < 256) : x = y := u8inj hx hy h
theorem byte_rng (x : Int) : 0 ≤ x % 256 ∧ x % 256 < 256 := by omega
theorem revB_cons {n m : Int} {k : Nat} (h : revB n (k + 1) = revB m (k + 1)) : n / 256 ^ k % 256 = m / 256 ^ k % 256 ∧ revB n k = revB m k := by
  unfold revB at h
  injection h with h1 h2
  exact ⟨u8inj (byte_rng _) (byte_rng _) h1, h2⟩
theorem revB1 {n m : Int} (h : revB n 1 = revB m 1) : n % 256 = m % 256 := by
  obtain ⟨h0, _⟩ := revB_cons h
  simpa using h0
theorem revB3 {n m : Int} (h : revB n 3 = revB m 3) : n % 16777216 = m % 16777216 := by
  obtain ⟨h2, h⟩ := revB_cons h
  obtain ⟨h1, h⟩ := revB_cons h
  obtain ⟨h0, _⟩ := revB_cons h
  simp at h2 h1 h0
  omega
theorem revB8 {n m : Int} (h : revB n 8 = revB m 8) : n % 18446744073709551616 = m % 18446744073709551616 := by
  obtain ⟨h7, h⟩ := revB_cons h
  obtain ⟨h6, h⟩ := revB_cons h
  obtain ⟨h5, h⟩ := revB_cons h
  obtain ⟨h4, h⟩ := revB_cons h
  obtain ⟨h3, h⟩ := revB_cons h
  obtain ⟨h2, h⟩ := revB_cons h
  obtain ⟨h1, h⟩ := revB_cons h
  obtain ⟨h0, _⟩ := revB_cons h
  simp at h7 h6 h5 h4 h3 h2 h1 h0
  have a1 : n % 65536 = m % 65536 := by omega
  have a2 : n % 16777216 = m % 16777216 := by omega
  have a3 : n % 4294967296 = m % 4294967296 := by omega
  have a4 : n % 1099511627776 = m % 1099511627776 := by omega
  have a5 : n % 281474976710656 = m % 281474976710656 := by omega
  have a6 : n % 72057594037927936 = m % 72057594037927936 := by omega
  omega

theorem sizeN_1 {n : Int} (h : sizeN n = 1) : -64 ≤ n ∧ n ≤ 63 := by
  unfold sizeN at h; split at h
  · assumption
  · split at h
    · omega
    · split at h <;> omega
theorem sizeN_2 {n : Int} (h : sizeN n = 2) : (-8192 ≤ n ∧ n ≤ 8191) ∧ ¬ (-64 ≤ n ∧ n ≤ 63) := by
  unfold sizeN at h; split at h
  · omega
  · split at h
    · exact ⟨by assumption, by assumption⟩
    · split at h <;> omega
theorem sizeN_4 {n : Int} (h : sizeN n = 4) : (-268435456 ≤ n ∧ n ≤ 268435455) ∧ ¬ (-8192 ≤ n ∧ n ≤ 8191) := by
  unfold sizeN at h; split at h
  · omega
  · split at h
    · omega
    · split at h
      · exact ⟨by assumption, by assumption⟩
      · omega
theorem sizeN_9 {n : Int} (h : sizeN n = 9) : ¬ (-268435456 ≤ n ∧ n ≤ 268435455) := by
  unfold sizeN at h; split at h
  · omega
  · split at h
    · omega
    · split at h
      · omega
      · assumption

/-- the first byte of an encoding -/
theorem numB_head (n : Int) : ∃ (x : Int) (l : List UInt8), numB n = UInt8.ofNat x.toNat :: l ∧ 0 ≤ x ∧ x < 256 ∧ (sizeN n = 1 → x < 128) ∧ (sizeN n = 2 → 128 ≤ x ∧ x < 192) ∧ (sizeN n = 4 → 192 ≤ x ∧ x < 224) ∧ (sizeN n = 9 → x = 224) := by
  rcases sizeN_cases n with h | h | h | h
  · exact ⟨n % 128, _, numB_1 n h, by omega, by omega, by omega, by omega, by omega, by omega⟩
  · exact ⟨128 + n / 256 % 64, _, numB_2 n h, by omega, by omega, by omega, by omega, by omega, by omega⟩
  · exact ⟨192 + n / 16777216 % 32, _, numB_4 n h, by omega, by omega, by omega, by omega, by omega, by omega⟩
  · exact ⟨224, revB n 8, numB_9 n h, by omega, by omega, by omega, by omega, by omega, by omega⟩

theorem numB_same_size {n m : Int} {l l' : List UInt8} (h : numB n ++ l = numB m ++ l') : sizeN n = sizeN m := by
  obtain ⟨x, a, ha, hx0, hx1, hxa, hxb, hxc, hxd⟩ := numB_head n
  obtain ⟨y, b, hb, hy0, hy1, hya, hyb, hyc, hyd⟩ := numB_head m
  rw [ha, hb, List.cons_append, List.cons_append] at h
  injection h with h _
  have e := u8inj ⟨hx0, hx1⟩ ⟨hy0, hy1⟩ h
  rcases sizeN_cases n with h1 | h1 | h1 | h1 <;> rcases sizeN_cases m with h2 | h2 | h2 | h2 <;> omega

theorem numB_inj {n m : Int} (hn : -9223372036854775808 ≤ n ∧ n ≤ 9223372036854775807) (hm : -9223372036854775808 ≤ m ∧ m ≤ 9223372036854775807) (h : numB n = numB m) : n = m := by
  have hs := numB_same_size (n := n) (m := m) (l := []) (l' := []) (by rw [h])
  rcases sizeN_cases n with h1 | h1 | h1 | h1
  · have h2 : sizeN m = 1 := by omega
    rw [numB_1 n h1, numB_1 m h2] at h
    injection h with h _
    have := u8inj' h (by omega) (by omega)
    have := sizeN_1 h1; have := sizeN_1 h2
    omega
  · have h2 : sizeN m = 2 := by omega
    rw [numB_2 n h1, numB_2 m h2] at h
    injection h with h h'
    have := u8inj' h (by omega) (by omega)
    have := revB1 h'
    have := sizeN_2 h1; have := sizeN_2 h2
    omega
  · have h2 : sizeN m = 4 := by omega
    rw [numB_4 n h1, numB_4 m h2] at h
    injection h with h h'
    have := u8inj' h (by omega) (by omega)
    have := revB3 h'
    have := sizeN_4 h1; have := sizeN_4 h2
    omega
  · have h2 : sizeN m = 9 := by omega
    rw [numB_9 n h1, numB_9 m h2] at h
    injection h with _ h'
    have := revB8 h'
    omega
/-- no encoding begins another one -/
theorem numB_free {n m : Int} (hn : -9223372036854775808 ≤ n ∧ n ≤ 9223372036854775807) (hm : -9223372036854775808 ≤ m ∧ m ≤ 9223372036854775807) {l l' : List UInt8} (h : numB n ++ l = numB m ++ l') : n = m ∧ l = l' := by
  have hs := numB_same_size h
  have hl : (numB n).length = (numB m).length := by rw [numB_length, numB_length, hs]
  have := List.append_inj h hl
  exact ⟨numB_inj hn hm this.1, this.2⟩
/-- of two numbers of one sign the one with fewer bytes is nearer to 0 -/
theorem sizeN_lt {n m : Int} (h : sizeN n < sizeN m) (hs : (n < 0 ↔ m < 0)) : 0 ≤ n ∧ n < m ∨ n < 0 ∧ m < n := by
  rcases sizeN_cases n with h1 | h1 | h1 | h1 <;> rcases sizeN_cases m with h2 | h2 | h2 | h2 <;>
    first
      | omega
      | (have a1 := sizeN_1 h1; have a2 := sizeN_2 h2; omega)
      | (have a1 := sizeN_1 h1; have a2 := sizeN_4 h2; omega)
      | (have a1 := sizeN_1 h1; have a2 := sizeN_9 h2; omega)
      | (have a1 := sizeN_2 h1; have a2 := sizeN_4 h2; omega)
      | (have a1 := sizeN_2 h1; have a2 := sizeN_9 h2; omega)
      | (have a1 := sizeN_4 h1; have a2 := sizeN_9 h2; omega)
end Go.Proofs.Yteendimoopmakaa
