/- product at Prime (func 58), power (func 56), member, secret, Valid (func 22). -/
import Derived.Test.YtklikkmnemooeaaDoorD8
import Derived.Test.YtklikkmnemooeaaDoorDA
import Derived.Test.YtklikkmnemooeaaDoorF2
namespace Go.Proofs.YtklikkmnemooeaaDoor
open Go.RowKit
abbrev PP : Nat := 2305843009213691579
theorem hi_lt (a b : Nat) (ha : a < 2305843009213691579) (hb : b < 2305843009213691579) : a * b / 18446744073709551616 < 2305843009213691579 := by
  rw [Nat.div_lt_iff_lt_mul (by decide)]
  rcases Nat.eq_zero_or_pos b with e | e
  · subst e; exact Nat.lt_of_le_of_lt (Nat.le_of_eq (Nat.mul_zero a)) (by decide)
  · exact Nat.lt_of_lt_of_le ((Nat.mul_lt_mul_right e).2 ha) (Nat.mul_le_mul_left _ (by omega))
theorem product_told (a b RR : Nat) (ha : a < 2305843009213691579) (hb : b < 2305843009213691579) (hR : RR = a * b % 2305843009213691579) (w : World) :
    Calls Tryd.prog 58 #[.int .i64 a, .int .i64 b, .int .i64 2305843009213691579] w fun e w' => e = .returned (.int .i64 RR) ∧ Below w.heap.size w w' := by
  obtain ⟨hi, hhi⟩ : ∃ x, x = a * b / 18446744073709551616 := ⟨_, rfl⟩
  obtain ⟨lo, hlo⟩ : ∃ x, x = a * b % 18446744073709551616 := ⟨_, rfl⟩
  have C72 : ∀ W, Calls Tryd.prog 72 #[.int .u64 a, .int .u64 b] W fun e w' => e = .returned (.tuple #[.int .u64 hi, .int .u64 lo]) ∧ w' = W := fun W => by
    rw [hhi, hlo]; exact Tryd.bits_Mul64 a b (by omega) (by omega) W
  have hhl : hi * 18446744073709551616 + lo = a * b := by rw [hhi, hlo, Nat.mul_comm]; exact Nat.div_add_mod _ _
  obtain ⟨QQ, hQ⟩ : ∃ q, q = (hi * 18446744073709551616 + lo) / 2305843009213691579 := ⟨_, rfl⟩
  have C73 : ∀ W, Calls Tryd.prog 73 #[.int .u64 hi, .int .u64 lo, .int .u64 2305843009213691579] W fun e w' => e = .returned (.tuple #[.int .u64 QQ, .int .u64 RR]) ∧ Below W.heap.size W w' := fun W =>
    div_told hi lo QQ RR (by rw [hhi]; exact hi_lt a b ha hb) (by rw [hlo]; exact Nat.mod_lt _ (by decide)) hQ (by rw [hhl]; exact hR) W
  have hRl : RR < 2305843009213691579 := by rw [hR]; exact Nat.mod_lt _ (by decide)
  have f1 : IntKind.u64.wrap (a : Int) = a := wrapu a (by omega)
  have f2 : IntKind.u64.wrap (b : Int) = b := wrapu b (by omega)
  have f3 : IntKind.i64.wrap (RR : Int) = RR := IntWalk.i64_in _ (by omega)
  have H72 := Lib.hid C72
  have H73 := Lib.hid C73
  clear C72 C73 hhi hlo hhl hQ hR
  go_enter Tryd.func58, Tryd.ntmps58
  go_wp2_with (first
    | (go_at_call 72; refine (H72.out _).mono ?_; rintro e v1 ⟨rfl, rfl⟩)
    | (go_at_call 73; refine (H73.out _).mono ?_; rintro e v2 ⟨rfl, hb2⟩; have B2 := Lib.hid hb2; clear hb2))
  go_ret
  exact ⟨rfl, B2.out⟩
theorem i64_and1 (n : Int) : bits .and .i64 n 1 = n % 2 := by
  have h1 : (BitVec.ofInt 64 1).toNat = 2 ^ 1 - 1 := by decide
  have key : (BitVec.ofInt 64 n &&& BitVec.ofInt 64 1).toNat = (n % ((2 ^ 64 : Nat) : Int)).toNat % 2 ^ 1 := by
    rw [BitVec.toNat_and, BitVec.toNat_ofInt, h1, Nat.and_two_pow_sub_one_eq_mod]
  show IntKind.i64.wrap ((BitVec.ofInt 64 n &&& BitVec.ofInt 64 1).toNat : Nat) = n % 2
  rw [key, IntKind.wrap_i64]
  omega
theorem pow_even (P x y z : Nat) (h : z % 2 = 0) : y * (x * x % P) ^ (z / 2) % P = y * x ^ z % P := by
  rw [Nat.mul_mod, NT.pow_mod_mod, ← Nat.mul_mod, ← Nat.pow_two, ← Nat.pow_mul, show 2 * (z / 2) = z by omega]
theorem pow_odd (P x y z : Nat) (h : z % 2 = 1) : (y * x % P) * (x * x % P) ^ (z / 2) % P = y * x ^ z % P := by
  rw [Nat.mul_mod, Nat.mod_mod, NT.pow_mod_mod, ← Nat.mul_mod, ← Nat.pow_two, ← Nat.pow_mul, Nat.mul_assoc, ← Nat.pow_succ', show (2 * (z / 2)).succ = z by omega]
set_option maxRecDepth 100000 in
set_option maxHeartbeats 800000 in
theorem power_told (a n RR : Nat) (ha : a < 2305843009213691579) (hn : n < 9223372036854775808) (hR : RR = a ^ n % 2305843009213691579) (w : World) :
    Calls Tryd.prog 56 #[.int .i64 a, .int .i64 n] w fun e w' => e = .returned (.int .i64 RR) ∧ Below w.heap.size w w' := by
  have HR := Lib.hid hR
  clear hR
  go_enter Tryd.func56, Tryd.ntmps56
  go_wp2_with fail
  go_loopw [0, 1, 5] (fun s0 s1 s5 wr => ∃ x z y : Nat, s0 = .int .i64 x ∧ s1 = .int .i64 z ∧ s5 = .int .i64 y ∧ x < 2305843009213691579 ∧ z < 9223372036854775808 ∧ y < 2305843009213691579 ∧ y * x ^ z % 2305843009213691579 = RR ∧ Below w.heap.size w wr) (fun _ s1 _ _ => (intOf s1).toNat)
  case atStart => exact ⟨a, n, 1, rfl, rfl, rfl, ha, hn, by decide, by rw [Nat.one_mul]; exact HR.out.symm, Below.refl _ _⟩
  case round =>
    obtain ⟨x, z, y, rfl, rfl, rfl, hx, hz, hy, he, hB⟩ := hrel
    have HE := Lib.hid he
    have HB := Lib.hid hB
    clear he hB
    by_cases hz0 : 0 < z
    · have p1 : (0 : Int) < z := by omega
      obtain ⟨xx, hxx⟩ : ∃ q, q = x * x % 2305843009213691579 := ⟨_, rfl⟩
      have H2 := Lib.hid (fun W => product_told x x xx hx hx hxx W)
      obtain ⟨z2, hz2⟩ : ∃ q, q = z / 2 := ⟨_, rfl⟩
      have p2 : (z : Int) / 2 = (z2 : Int) := by omega
      have HXX := Lib.hid hxx
      have HZ2 := Lib.hid hz2
      clear hxx hz2
      by_cases hodd : z % 2 = 1
      · have p3 : bits .and .i64 (z : Int) 1 = 1 := by rw [i64_and1]; omega
        obtain ⟨yx, hyx⟩ : ∃ q, q = y * x % 2305843009213691579 := ⟨_, rfl⟩
        have H1 := Lib.hid (fun W => product_told y x yx hy hx hyx W)
        have HYX := Lib.hid hyx
        have HO := Lib.hid hodd
        clear hyx hodd
        go_wp2_with (first
          | (go_at_call 58; have tok := B1; clear tok; refine (H2.out _).mono ?_; rintro e v2 ⟨rfl, hb2⟩; have B2 := Lib.hid (keepBelow B1.out hb2); clear hb2)
          | (go_at_call 58; refine (H1.out _).mono ?_; rintro e v1 ⟨rfl, hb1⟩; have B1 := Lib.hid (keepBelow HB.out hb1); clear hb1))
        exact ⟨⟨xx, z2, yx, rfl, rfl, rfl, by rw [HXX.out]; exact Nat.mod_lt _ (by decide), by rw [HZ2.out]; omega, by rw [HYX.out]; exact Nat.mod_lt _ (by decide), by rw [← HE.out, HXX.out, HZ2.out, HYX.out]; exact pow_odd _ _ _ _ HO.out, B2.out⟩, by have := HZ2.out; simp [intOf]; omega⟩
      · have hev : z % 2 = 0 := by omega
        have p3 : bits .and .i64 (z : Int) 1 = 0 := by rw [i64_and1]; omega
        have HO := Lib.hid hev
        clear hev hodd
        go_wp2_with (go_at_call 58; refine (H2.out _).mono ?_; rintro e v2 ⟨rfl, hb2⟩; have B2 := Lib.hid (keepBelow HB.out hb2); clear hb2)
        exact ⟨⟨xx, z2, y, rfl, rfl, rfl, by rw [HXX.out]; exact Nat.mod_lt _ (by decide), by rw [HZ2.out]; omega, hy, by rw [← HE.out, HXX.out, HZ2.out]; exact pow_even _ _ _ _ HO.out, B2.out⟩, by have := HZ2.out; simp [intOf]; omega⟩
    · obtain rfl : z = 0 := by omega
      have HY := Lib.hid (show y = RR by have := HE.out; rw [Nat.pow_zero, Nat.mul_one, Nat.mod_eq_of_lt hy] at this; exact this)
      go_wp2_with fail
      go_ret
      exact ⟨by rw [← HY.out]; rfl, HB.out⟩
end Go.Proofs.YtklikkmnemooeaaDoor
