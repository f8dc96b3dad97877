/- Bits and little numbers: what a reading gives is what a writing takes, and the other way round. Conditions stand in each theorem. -/
import Derived.Test.YteendimoopmakaaM2
import Derived.Test.YteendimoopmakaaT33
import Derived.Test.YteendimoopmakaaT15
namespace Go.Proofs.Yteendimoopmakaa
open Go.RowKit

/-- bit i of a byte, the highest first -/
def bitC (c i : Nat) : Bool := c * 2 ^ i % 256 &&& 128 != 0
theorem bitC_u8 (c : UInt8) (i : Nat) : (bits .and .u8 ((c.toNat : Int) * 2 ^ i % 256) 128 != 0) = bitC c.toNat i := by
  have hb := c.toNat_lt
  unfold bitC
  generalize c.toNat = c at *
  have m1 : (c : Int) * 2 ^ i % 256 = ((c * 2 ^ i % 256 : Nat) : Int) := by simp
  have m2 : c * 2 ^ i % 256 < 256 := Nat.mod_lt _ (by omega)
  rw [m1, u8_and _ _ (by omega) (by omega) (by omega) (by omega), Int.toNat_natCast, show (128 : Int).toNat = 128 from rfl]
  generalize c * 2 ^ i % 256 &&& 128 = y at *
  rw [Bool.eq_iff_iff, bne_iff_ne, bne_iff_ne]; omega
theorem bitAt_C {q : ByteArray} {j : Nat} (h : j / 8 < q.size) : bitAt q j = bitC (q[j / 8]'h).toNat (j % 8) := by rw [← bitAt_at h, bitC_u8]
theorem pk_congr {f g : Nat → Bool} {k : Nat} (h : ∀ i, i < k → f i = g i) : pk f k = pk g k := by
  induction k with
  | zero => rfl
  | succ k ih => unfold pk; rw [ih fun i hi => h i (by omega), h k (by omega)]
theorem pk_pad {f : Nat → Bool} {m k : Nat} (h : ∀ i, m ≤ i → i < m + k → f i = false) : pk f (m + k) = pk f m := by
  induction k with
  | zero => rfl
  | succ k ih => rw [← Nat.add_assoc, pk_skip _ _ (h _ (by omega) (by omega)), ih fun i h1 h2 => h i h1 (by omega)]
theorem pk_byte : ∀ c : Fin 256, pk (bitC c.val) 8 = c.val := by decide +kernel
theorem pk_bits : ∀ b0 b1 b2 b3 b4 b5 b6 b7 : Bool, ∀ i : Fin 8, bitC (pk (fun i => [b0, b1, b2, b3, b4, b5, b6, b7].getD i false) 8) i.val = [b0, b1, b2, b3, b4, b5, b6, b7].getD i.val false := by decide +kernel
theorem pk_bit (f : Nat → Bool) (i : Nat) (hi : i < 8) : bitC (pk f 8) i = f i := by
  have e : pk f 8 = pk (fun i => [f 0, f 1, f 2, f 3, f 4, f 5, f 6, f 7].getD i false) 8 := pk_congr fun i hi => by
    rcases (show i = 0 ∨ i = 1 ∨ i = 2 ∨ i = 3 ∨ i = 4 ∨ i = 5 ∨ i = 6 ∨ i = 7 by omega) with rfl | rfl | rfl | rfl | rfl | rfl | rfl | rfl <;> rfl
  rw [e, pk_bits _ _ _ _ _ _ _ _ ⟨i, hi⟩]
  rcases (show i = 0 ∨ i = 1 ∨ i = 2 ∨ i = 3 ∨ i = 4 ∨ i = 5 ∨ i = 6 ∨ i = 7 by omega) with rfl | rfl | rfl | rfl | rfl | rfl | rfl | rfl <;> rfl
theorem chunkB_8 (L : List Bool) (x : Nat) (hx : 8 * x < L.length) : chunkB L x = UInt8.ofNat (pk (fun i => L.getD (8 * x + i) false) 8) := by
  unfold chunkB
  obtain ⟨k, hk⟩ : ∃ k, 8 = min 8 (L.length - 8 * x) + k := ⟨8 - min 8 (L.length - 8 * x), by omega⟩
  have := pk_pad (f := fun i => L.getD (8 * x + i) false) (m := min 8 (L.length - 8 * x)) (k := k) (fun i h1 h2 => by
    show L.getD (8 * x + i) false = false
    rw [List.getD_eq_getElem?_getD, List.getElem?_eq_none (by omega)]; rfl)
  rw [← hk] at this
  rw [this]
theorem bits_dec (q : ByteArray) (n : Nat) (hq : q.size = (n + 7) / 8) (hc : clean q n = true) : (upto ((n + 7) / 8)).map (chunkB (bitsOf q n)) = q.data.toList := by
  have hl : q.data.toList.length = q.size := Array.length_toList
  refine List.ext_getElem (by rw [List.length_map, upto_length]; omega) fun x h1 h2 => ?_
  have hx : x < q.size := by omega
  rw [List.getElem_map, ba_get q x hx]
  rw [show (upto ((n + 7) / 8))[x]'(by simpa using h1) = x by simp [upto]]
  rw [chunkB_8 _ _ (by rw [bitsOf_length]; omega)]
  have e : pk (fun i => (bitsOf q n).getD (8 * x + i) false) 8 = pk (bitC q[x].toNat) 8 := pk_congr fun i hi => by
    have hj : (8 * x + i) / 8 = x := by omega
    have hb : bitAt q (8 * x + i) = bitC q[x].toNat i := by
      rw [bitAt_C (by omega)]
      simp only [hj, show (8 * x + i) % 8 = i by omega]
    rw [← hb]
    by_cases hn : 8 * x + i < n
    · simp [bitsOf, List.getD_eq_getElem?_getD, hn]
    · rw [List.getD_eq_getElem?_getD, List.getElem?_eq_none (by rw [bitsOf_length]; omega)]
      exact (clean_iff.1 hc _ (by omega) (by omega)).symm
  rw [e, pk_byte ⟨q[x].toNat, q[x].toNat_lt⟩]
  simp
theorem bits_enc (q : ByteArray) (L : List Bool) (hq : q.data.toList = (upto ((L.length + 7) / 8)).map (chunkB L)) : q.size = (L.length + 7) / 8 ∧ clean q L.length = true ∧ bitsOf q L.length = L := by
  have hl : q.data.toList.length = q.size := Array.length_toList
  have hs : q.size = (L.length + 7) / 8 := by rw [← hl, hq, List.length_map, upto_length]
  have hb : ∀ j, j < 8 * q.size → bitAt q j = L.getD j false := by
    intro j hj
    have hx : j / 8 < q.size := by omega
    rw [bitAt_C hx]
    have e : q[j / 8] = chunkB L (j / 8) := by
      rw [← ba_get q (j / 8) hx]
      simp only [hq, List.getElem_map]
      simp [upto]
    rw [e, chunkB_8 _ _ (by omega)]
    rw [UInt8.toNat_ofNat', Nat.mod_eq_of_lt (pk_lt _ _), pk_bit _ _ (by omega)]
    show L.getD (8 * (j / 8) + j % 8) false = _
    rw [show 8 * (j / 8) + j % 8 = j by omega]
  refine ⟨hs, clean_iff.2 fun j h1 h2 => ?_, ?_⟩
  · rw [hb j h2, List.getD_eq_getElem?_getD, List.getElem?_eq_none h1]; rfl
  · refine List.ext_getElem (bitsOf_length _ _) fun j h1 h2 => ?_
    rw [bitsOf_length] at h1
    simp only [bitsOf, List.getElem_map, List.getElem_range]
    rw [hb j (by omega), List.getD_eq_getElem?_getD, List.getElem?_eq_getElem h2]; rfl

/-! little numbers -/
theorem litB_cons (n : Int) (m : Nat) : litB n (m + 1) = UInt8.ofNat (n % 256).toNat :: litB (n / 256) m := by
  unfold litB
  rw [List.range_succ_eq_map, List.map_cons, List.map_map]
  congr 1
  · simp
  · refine List.map_congr_left fun i _ => ?_
    show UInt8.ofNat (n / 256 ^ (i + 1) % 256).toNat = _
    rw [Int.pow_succ, Int.mul_comm, ← Int.ediv_ediv_of_nonneg (by omega)]
theorem litB_leN : ∀ l : List UInt8, litB (leN l) l.length = l
  | [] => rfl
  | b :: l => by
    have hb := b.toNat_lt
    rw [List.length_cons, litB_cons, u8_eq (b := b) (by simp only [leN]; omega)]
    rw [show ((leN (b :: l) : Nat) : Int) / 256 = (leN l : Nat) by simp only [leN]; omega, litB_leN l]
theorem leN_litB (n : Int) : ∀ m : Nat, (leN (litB n m) : Int) = n % 256 ^ m := by
  intro m
  induction m generalizing n with
  | zero => simp [litB, leN, Int.emod_one]
  | succ m ih =>
    rw [litB_cons]
    simp only [leN]
    rw [Int.natCast_add, Int.natCast_mul, ih, u8cell _ (Int.emod_nonneg _ (by omega)) (Int.emod_lt_of_pos _ (by omega))]
    have hA : (0 : Int) < 256 ^ m := Int.pow_pos (by omega)
    have h1 := Int.emod_add_mul_ediv n 256
    have h2 := Int.emod_add_mul_ediv (n / 256) (256 ^ m)
    have e : n = (n % 256 + 256 * (n / 256 % 256 ^ m)) + (256 ^ m * 256) * (n / 256 / 256 ^ m) := by
      have h3 : 256 * (n / 256) = 256 * (n / 256 % 256 ^ m) + (256 ^ m * 256) * (n / 256 / 256 ^ m) := by
        conv => lhs; rw [← h2]
        rw [Int.mul_add, Int.mul_comm (256 ^ m) 256, Int.mul_assoc]
      omega
    have r0 := Int.emod_nonneg (n / 256) (show (256 : Int) ^ m ≠ 0 by omega)
    have r1 := Int.emod_lt_of_pos (n / 256) hA
    have h := Int.add_mul_emod_self_left (n % 256 + 256 * (n / 256 % 256 ^ m)) (256 ^ m * 256) (n / 256 / 256 ^ m)
    rw [← e] at h
    rw [Int.pow_succ]
    show n % 256 + 256 * (n / 256 % 256 ^ m) = _
    exact (h.trans (Int.emod_eq_of_lt (by omega) (by omega))).symm
theorem litB_congr {n n' : Int} {m : Nat} (h : n % 256 ^ m = n' % 256 ^ m) : litB n m = litB n' m := by
  have e1 := litB_leN (litB n m)
  have e2 := litB_leN (litB n' m)
  rw [litB_length] at e1 e2
  rw [← e1, ← e2, leN_litB, leN_litB, h]
theorem litB_read {q : List UInt8} {v : Int} {m : Nat} (hl : q.length = m) (h : v % 256 ^ m = (leN q : Int) % 256 ^ m) : litB v m = q := by
  subst hl
  rw [litB_congr h, litB_leN]
theorem ext_split (l : List UInt8) {a k1 k : Nat} (h1 : a ≤ k1) (h2 : k1 ≤ k) : (l.drop a).take (k - a) = (l.drop a).take (k1 - a) ++ (l.drop k1).take (k - k1) := by
  rw [show k - a = (k1 - a) + (k - k1) by omega, List.take_add, List.drop_drop, show a + (k1 - a) = k1 by omega]
theorem ext_list' (s : ByteArray) {a k : Nat} (h : a ≤ k) : (s.extract a k).data.toList = (s.data.toList.drop a).take (k - a) := by
  obtain ⟨m, rfl⟩ : ∃ m, k = a + m := ⟨k - a, by omega⟩
  rw [ext_list, show a + m - a = m by omega]
end Go.Proofs.Yteendimoopmakaa
