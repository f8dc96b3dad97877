/- Extend (func 19) and Crc (func 20). -/
import Derived.Test.YtklikkmnemooeaaDoorD6
namespace Go.Proofs.YtklikkmnemooeaaDoor
open Go.RowKit
/-- one bit of the check -/
def crc1 (w : Nat) : Nat := (w >>> 1) ^^^ (3988292384 * (w &&& 1))
def crcN (w : Nat) : Nat → Nat
  | 0 => w
  | k + 1 => crc1 (crcN w k)
def crcs (w : Nat) (l : List UInt8) : Nat → Nat
  | 0 => w
  | k + 1 => crcN (crcs w l k ^^^ (l.getD k 0).toNat) 8
theorem crc1_lt (w : Nat) (h : w < 4294967296) : crc1 w < 4294967296 := by
  unfold crc1
  have h1 : w &&& 1 ≤ 1 := Nat.and_le_right
  exact Nat.xor_lt_two_pow (n := 32) (Nat.lt_of_le_of_lt (Nat.shiftRight_le w 1) h) (by omega)
theorem crcN_lt (w k : Nat) (h : w < 4294967296) : crcN w k < 4294967296 := by
  induction k with | zero => exact h | succ k ih => exact crc1_lt _ ih
theorem byte_lt32 (b : UInt8) : b.toNat < 4294967296 := by have := b.toNat_lt; omega
theorem crcs_lt (w : Nat) (l : List UInt8) (k : Nat) (h : w < 4294967296) : crcs w l k < 4294967296 := by
  induction k with | zero => exact h | succ k ih => exact crcN_lt _ _ (xor_lt ih (byte_lt32 _))
theorem crc1_eq (w : Nat) (h : w < 4294967296) : bits .xor .u32 ((w : Int) / 2) ((3988292384 * bits .and .u32 (w : Int) 1) % 4294967296) = (crc1 w : Nat) := by
  have h1 : w &&& 1 ≤ 1 := Nat.and_le_right
  rw [show bits .and .u32 (w : Int) 1 = ((w &&& 1 : Nat) : Int) from u32_and_nat w 1 h (by decide)]
  rw [show (w : Int) / (2 : Int) = ((w >>> 1 : Nat) : Int) by rw [Nat.shiftRight_eq_div_pow]; omega]
  rw [show (3988292384 * ((w &&& 1 : Nat) : Int)) % 4294967296 = ((3988292384 * (w &&& 1) : Nat) : Int) by omega]
  rw [u32_xor_nat _ _ (Nat.lt_of_le_of_lt (Nat.shiftRight_le w 1) h) (by omega)]
  rfl
set_option maxRecDepth 100000 in
theorem extend_any (c : Nat) (s : ByteArray) (hc : c < 4294967296) (hs : s.size < 1152921504606846976) (w : World) :
    Calls Tryd.prog 19 #[.int .i64 c, .string s] w fun e w' => e = .returned (.tuple #[.int .i64 (4294967295 - crcs (4294967295 - c) s.data.toList s.size : Nat), .int .i64 0]) ∧ Below w.heap.size w w' := by
  have p1 : ¬ (c : Int) < 0 := by omega
  have p2 : ¬ (4294967295 : Int) < c := by omega
  have p3 : (c : Int) % 4294967296 = c := by omega
  have hn := not32 c hc
  go_enter Tryd.func19, Tryd.ntmps19
  go_wp2_with fail
  have h0 : 4294967295 - c < 4294967296 := by omega
  generalize hc0 : 4294967295 - c = c0 at *
  have HC0 := Lib.hid hc0
  clear hc0
  go_loopw [6, 20] (fun a i wr => ∃ k : Nat, k ≤ s.size ∧ i = .int .i64 k ∧ a = .int .u32 (crcs c0 s.data.toList k : Nat) ∧ wr = w) (fun _ i _ => s.size - (intOf i).toNat)
  case atStart => exact ⟨0, by omega, rfl, rfl, rfl⟩
  case round =>
    obtain ⟨k, hk, rfl, rfl, rfl⟩ := hrel
    by_cases hlt : k < s.size
    · have hv := crcs_lt c0 s.data.toList k h0
      have HB := Lib.hid (show crcs c0 s.data.toList (k + 1) = crcN (crcs c0 s.data.toList k ^^^ s[k].toNat) 8 by rw [crcs, getD_str])
      generalize crcs c0 s.data.toList k = v at *
      have hx := u32_xor_nat v s[k].toNat hv (byte_lt32 _)
      have hb2 : ((s[k].toNat : Nat) : Int) % 4294967296 = s[k].toNat := by have := s[k].toNat_lt; omega
      have hv2 := xor_lt hv (byte_lt32 s[k])
      have q1 : (0 : Int) ≤ k := by omega
      have q2 : (k : Int) < s.size := by omega
      go_wp2_with fail
      generalize v ^^^ s[k].toNat = z at *
      go_loopw [6, 29] (fun a i wr' => ∃ j : Nat, j ≤ 8 ∧ i = .int .i64 j ∧ a = .int .u32 (crcN z j : Nat) ∧ wr' = wr) (fun _ i _ => 8 - (intOf i).toNat)
      case atStart => exact ⟨0, by omega, rfl, rfl, rfl⟩
      case round =>
        obtain ⟨j, hj, rfl, rfl, rfl⟩ := hrel
        by_cases hlj : j < 8
        · have HY := Lib.hid (crc1_eq (crcN z j) (crcN_lt z j hv2))
          have HZ := Lib.hid (show crcN z (j + 1) = crc1 (crcN z j) from rfl)
          generalize crcN z j = y at *
          have q3 : (j : Int) < 8 := by omega
          go_wp2_with fail
          exact ⟨⟨j + 1, by omega, rfl, by rw [HY.out, HZ.out], trivial⟩, by simp [intOf]; omega⟩
        · obtain rfl : j = 8 := by omega
          go_wp2_with fail
          exact ⟨⟨k + 1, by omega, rfl, by rw [HB.out], trivial⟩, by simp [intOf]; omega⟩
    · obtain rfl : k = s.size := by omega
      have hv := crcs_lt c0 s.data.toList s.size h0
      have hfin : wrap64 (bits .xor .u32 IntKind.u32.max ((crcs c0 s.data.toList s.size : Nat) : Int)) = ((4294967295 - crcs c0 s.data.toList s.size : Nat) : Int) := by
        rw [not32 _ hv]; unfold wrap64; omega
      have HF := Lib.hid hfin
      clear hfin
      go_wp2_with fail
      go_ret2
      exact ⟨by rw [HC0.out, ← HF.out]; rfl, Below.refl _ _⟩
theorem crc_any (s : ByteArray) (hs : s.size < 1152921504606846976) (w : World) :
    Calls Tryd.prog 20 #[.string s] w fun e w' => e = .returned (.int .i64 (4294967295 - crcs 4294967295 s.data.toList s.size : Nat)) ∧ Below w.heap.size w w' := by
  have he := Lib.hid (extend_any 0 s (by decide) hs w)
  go_enter Tryd.func20, Tryd.ntmps20
  go_wp2_with (go_at_call 19; refine (extend_any 0 s (by decide) hs _).mono ?_; rintro e w5 ⟨rfl, hb5⟩)
  go_ret
  exact ⟨rfl, hb5⟩
end Go.Proofs.YtklikkmnemooeaaDoor
