/- The reference's Crc (func 21); Extend of no check; the flipped bytes. -/
import Derived.Test.YtklikkmnemooeaaDoorC1
namespace Go.Proofs.YtklikkmnemooeaaDoor
open Go.RowKit
theorem extend_no (c : Int) (s : ByteArray) (hc : c < 0 ∨ 4294967295 < c) (w : World) :
    Calls Tryd.prog 19 #[.int .i64 c, .string s] w fun e w' => e = .returned (.tuple #[.int .i64 0, .int .i64 11]) ∧ Below w.heap.size w w' := by
  by_cases h : c < 0
  · clear hc
    go_enter Tryd.func19, Tryd.ntmps19
    go_wp2_with fail
    go_ret2
    exact ⟨rfl, Below.refl _ _⟩
  · have h2 : 4294967295 < c := by omega
    clear hc
    go_enter Tryd.func19, Tryd.ntmps19
    go_wp2_with fail
    go_ret2
    exact ⟨rfl, Below.refl _ _⟩
theorem crc1_odd (x : Nat) (h : x % 2 = 1) : crc1 x = (x >>> 1) ^^^ 3988292384 := by
  unfold crc1
  rw [Nat.and_one_is_mod, h, Nat.mul_one]
theorem crc1_ev (x : Nat) (h : x % 2 = 0) : crc1 x = x >>> 1 := by
  unfold crc1
  rw [Nat.and_one_is_mod, h, Nat.mul_zero, Nat.xor_zero]
set_option maxRecDepth 100000 in
set_option maxHeartbeats 800000 in
theorem rcrc_any (s : ByteArray) (hs : s.size < 1152921504606846976) (w : World) :
    Calls Tryd.prog 21 #[.string s] w fun e w' => e = .returned (.int .i64 (4294967295 - crcs 4294967295 s.data.toList s.size : Nat)) ∧ Below w.heap.size w w' := by
  go_enter Tryd.func21, Tryd.ntmps21
  go_wp2_with fail
  go_loopw [3, 4] (fun a i wr => ∃ k : Nat, k ≤ s.size ∧ i = .int .i64 k ∧ a = .int .u32 (crcs 4294967295 s.data.toList k : Nat) ∧ w = wr) (fun _ i _ => s.size - (intOf i).toNat)
  case atStart => exact ⟨0, by omega, rfl, rfl, rfl⟩
  case round =>
    obtain ⟨k, hk, rfl, rfl, rfl⟩ := hrel
    by_cases hlt : k < s.size
    · have hv := crcs_lt 4294967295 s.data.toList k (by decide)
      have HB := Lib.hid (show crcs 4294967295 s.data.toList (k + 1) = crcN (crcs 4294967295 s.data.toList k ^^^ s[k].toNat) 8 by rw [crcs, getD_str])
      generalize crcs 4294967295 s.data.toList k = v at *
      have hx := u32_xor_nat v s[k].toNat hv (byte_lt32 _)
      have hb2 : ((s[k].toNat : Nat) : Int) % 4294967296 = s[k].toNat := by have := s[k].toNat_lt; omega
      have hv2 := xor_lt hv (byte_lt32 s[k])
      have q1 : (0 : Int) ≤ k := by omega
      have q2 : (k : Int) < s.size := by omega
      go_wp2_with fail
      generalize v ^^^ s[k].toNat = z at *
      go_loopw [3, 5] (fun a i wr => ∃ j : Nat, j ≤ 8 ∧ i = .int .i64 j ∧ a = .int .u32 (crcN z j : Nat) ∧ w = wr) (fun _ i _ => 8 - (intOf i).toNat)
      case atStart => exact ⟨0, by omega, rfl, rfl, rfl⟩
      case round =>
        obtain ⟨j, hj, rfl, rfl, rfl⟩ := hrel
        by_cases hlj : j < 8
        · have hy := crcN_lt z j hv2
          have HZ := Lib.hid (show crcN z (j + 1) = crc1 (crcN z j) from rfl)
          generalize crcN z j = y at *
          have q3 : (j : Int) < 8 := by omega
          obtain ⟨y2, hy2⟩ : ∃ q, q = y >>> 1 := ⟨_, rfl⟩
          have t2 : (y : Int) / 2 = (y2 : Int) := by rw [hy2, Nat.shiftRight_eq_div_pow]; omega
          have hy2l : y2 < 4294967296 := by rw [hy2]; exact shr_lt 1 hy
          by_cases ho : y % 2 = 1
          · have t1 : Int.tmod (y : Int) 2 = 1 := by rw [show (1 : Int) = ((y % 2 : Nat) : Int) by omega]; exact (Int.ofNat_tmod y 2).symm
            have hxx : bits .xor .u32 (y2 : Int) 3988292384 = ((crc1 y : Nat) : Int) := by
              rw [show (3988292384 : Int) = ((3988292384 : Nat) : Int) from rfl, u32_xor_nat _ _ hy2l (by decide), hy2, crc1_odd y ho]
            clear hy2 ho
            go_wp2_with fail
            exact ⟨⟨j + 1, by omega, rfl, by rw [HZ.out], trivial⟩, by simp [intOf]; omega⟩
          · have he : y % 2 = 0 := by omega
            have t1 : Int.tmod (y : Int) 2 = 0 := by rw [show (0 : Int) = ((y % 2 : Nat) : Int) by omega]; exact (Int.ofNat_tmod y 2).symm
            have hxx : (y2 : Int) = ((crc1 y : Nat) : Int) := by rw [hy2, crc1_ev y he]
            have HXX := Lib.hid hxx
            clear hy2 ho he hxx
            go_wp2_with fail
            exact ⟨⟨j + 1, by omega, rfl, by rw [HZ.out, HXX.out], trivial⟩, by simp [intOf]; omega⟩
        · obtain rfl : j = 8 := by omega
          go_wp2_with fail
          exact ⟨⟨k + 1, by omega, rfl, by rw [HB.out], trivial⟩, by simp [intOf]; omega⟩
    · obtain rfl : k = s.size := by omega
      have hv := crcs_lt 4294967295 s.data.toList s.size (by decide)
      have hfin : wrap64 (bits .xor .u32 IntKind.u32.max ((crcs 4294967295 s.data.toList s.size : Nat) : Int)) = ((4294967295 - crcs 4294967295 s.data.toList s.size : Nat) : Int) := by
        rw [not32 _ hv]; unfold wrap64; omega
      have HF := Lib.hid hfin
      clear hfin
      go_wp2_with fail
      go_ret
      exact ⟨by rw [← HF.out]; rfl, Below.refl _ _⟩
/-- the bytes behind i steps of the change -/
def fl (l : List UInt8) (A bits : Nat) : Nat → List UInt8
  | 0 => l
  | i + 1 => if bits.testBit i then (fl l A bits i).set ((A + i) / 8) ((fl l A bits i).getD ((A + i) / 8) 0 ^^^ UInt8.ofNat (2 ^ ((A + i) % 8))) else fl l A bits i
def bx (bits : Nat) : Nat → Nat
  | 0 => 0
  | i + 1 => if bits.testBit i then bx bits i ^^^ 2 ^ i else bx bits i
theorem fl_len (l : List UInt8) (A bits i : Nat) : (fl l A bits i).length = l.length := by
  induction i with
  | zero => rfl
  | succ i ih => rw [fl]; split <;> simp [ih]
theorem pow_byte (j : Nat) (hj : j < 8) : (UInt8.ofNat (2 ^ j)).toNat = 2 ^ j := by
  have : j = 0 ∨ j = 1 ∨ j = 2 ∨ j = 3 ∨ j = 4 ∨ j = 5 ∨ j = 6 ∨ j = 7 := by omega
  rcases this with rfl | rfl | rfl | rfl | rfl | rfl | rfl | rfl <;> rfl
theorem num_fl (l : List UInt8) (A bits i : Nat) (hA : A + 32 ≤ 8 * l.length) (hi : i ≤ 32) : num (fl l A bits i) = num l ^^^ (bx bits i <<< A) := by
  induction i with
  | zero => simp [fl, bx]
  | succ i ih =>
    rw [fl, bx]
    split
    · rw [num_set _ _ (by rw [fl_len]; omega), ih (by omega), pow_byte _ (Nat.mod_lt _ (by decide)), Nat.shiftLeft_xor_distrib, Nat.xor_assoc]
      congr 2
      rw [Nat.shiftLeft_eq, Nat.shiftLeft_eq, ← Nat.pow_add, ← Nat.pow_add]
      congr 1
      omega
    · exact ih (by omega)
theorem bx_bit (bits i j : Nat) : (bx bits i).testBit j = (decide (j < i) && bits.testBit j) := by
  induction i with
  | zero => simp [bx]
  | succ i ih =>
    rw [bx]
    by_cases hb : bits.testBit i = true
    · rw [if_pos hb, Nat.testBit_xor, ih, Nat.testBit_two_pow]
      by_cases hj : j = i
      · subst hj; simp [hb]
      · have h1 : ¬ i = j := fun h => hj h.symm
        simp only [h1, decide_false, Bool.xor_false]
        congr 1
        exact decide_eq_decide.2 (by omega)
    · rw [if_neg hb, ih]
      by_cases hj : j = i
      · subst hj; simp [hb]
      · congr 1
        exact decide_eq_decide.2 (by omega)
theorem bx_all (bits : Nat) (h : bits < 4294967296) : bx bits 32 = bits := by
  apply Nat.eq_of_testBit_eq
  intro j
  rw [bx_bit]
  by_cases hj : j < 32
  · simp [hj]
  · rw [Nat.testBit_lt_two_pow (Nat.lt_of_lt_of_le h (Nat.pow_le_pow_right (n := 2) (by decide) (by omega : 32 ≤ j)))]
    simp
/-- The check of the changed bytes is another one. -/
theorem fl_seen (w : Nat) (l : List UInt8) (A bits : Nat) (hA : A + 32 ≤ 8 * l.length) (hb0 : bits ≠ 0) (hb : bits < 4294967296) : crcs w (fl l A bits 32) (fl l A bits 32).length ≠ crcs w l l.length :=
  burst w A bits l (fl l A bits 32) (fl_len l A bits 32) hb0 hb (by omega) (by rw [num_fl l A bits 32 hA (Nat.le_refl _), bx_all bits hb])
end Go.Proofs.YtklikkmnemooeaaDoor
