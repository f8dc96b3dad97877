/- The reference's times (func 59), Times, Power, Valid; Times, Power, Inverse, Key, Shared of the program. -/
import Derived.Test.YtklikkmnemooeaaDoorDE
namespace Go.Proofs.YtklikkmnemooeaaDoor
open Go.RowKit
theorem tm_even (m x y z : Nat) (h : z % 2 = 0) : (y + (x + x) % m * (z / 2)) % m = (y + x * z) % m := by
  have e : x * z = (x + x) * (z / 2) := by
    obtain ⟨k, rfl⟩ : ∃ k, z = 2 * k := ⟨z / 2, by omega⟩
    rw [Nat.mul_div_cancel_left k (by decide), Nat.add_mul, Nat.mul_left_comm]; omega
  rw [e, Nat.add_mod, Nat.mul_mod, Nat.mod_mod, ← Nat.mul_mod, ← Nat.add_mod]
theorem tm_odd (m x y z : Nat) (h : z % 2 = 1) : ((y + x) % m + (x + x) % m * (z / 2)) % m = (y + x * z) % m := by
  have e : y + x * z = (y + x) + (x + x) * (z / 2) := by
    obtain ⟨k, rfl⟩ : ∃ k, z = 2 * k + 1 := ⟨z / 2, by omega⟩
    rw [show (2 * k + 1) / 2 = k by omega, Nat.add_mul, Nat.mul_add, Nat.mul_one, Nat.mul_left_comm]; omega
  rw [e, Nat.add_mod, Nat.mod_mod, Nat.mul_mod, Nat.mod_mod, ← Nat.mul_mod, ← Nat.add_mod]
theorem tmod_nat (a b c : Nat) (h : c = a % b) : Int.tmod (a : Int) (b : Int) = (c : Int) := by rw [h]; exact (Int.ofNat_tmod a b).symm
theorem wrap63 (x : Nat) (h : x < 9223372036854775808) : IntKind.i64.wrap (x : Int) = (x : Int) := IntWalk.i64_in _ (by omega)
set_option maxRecDepth 100000 in
set_option maxHeartbeats 800000 in
theorem times_told (a b m RR : Nat) (ha : a < m) (hm : m < 4611686018427387904) (hb : b < 9223372036854775808) (hR : RR = a * b % m) (w : World) :
    Calls Tryd.prog 59 #[.int .i64 a, .int .i64 b, .int .i64 m] w fun e w' => e = .returned (.int .i64 RR) ∧ Below w.heap.size w w' := by
  have HR := Lib.hid hR
  clear hR
  have hm0 : ¬ (m : Int) = 0 := by omega
  have hm1 : ((m : Int) == 0) = false := by simpa using hm0
  go_enter Tryd.func59, Tryd.ntmps59
  go_wp2_with fail
  go_loopw [0, 1, 7] (fun s0 s1 s7 wr => ∃ x z y : Nat, s0 = .int .i64 x ∧ s1 = .int .i64 z ∧ s7 = .int .i64 y ∧ x < m ∧ z < 9223372036854775808 ∧ y < m ∧ (y + x * z) % m = RR ∧ wr = w) (fun _ s1 _ _ => (intOf s1).toNat)
  case atStart => exact ⟨a, b, 0, rfl, rfl, rfl, ha, hb, by omega, by rw [Nat.zero_add]; exact HR.out.symm, rfl⟩
  case round =>
    obtain ⟨x, z, y, rfl, rfl, rfl, hx, hz, hy, he, rfl⟩ := hrel
    have HE := Lib.hid he
    clear he
    by_cases hz0 : 0 < z
    · have p1 : (0 : Int) < z := by omega
      obtain ⟨xx, hxx⟩ : ∃ q, q = (x + x) % m := ⟨_, rfl⟩
      obtain ⟨z2, hz2⟩ : ∃ q, q = z / 2 := ⟨_, rfl⟩
      have p2 : Int.tdiv (z : Int) 2 = (z2 : Int) := by rw [hz2]; exact (Int.ofNat_tdiv z 2).symm
      have p3 : IntKind.i64.wrap (z2 : Int) = z2 := wrap63 _ (by omega)
      have p4 : IntKind.i64.wrap ((x : Int) + x) = (x : Int) + x := IntWalk.i64_in _ (by omega)
      have p5 : Int.tmod ((x : Int) + x) m = xx := by rw [show (x : Int) + x = ((x + x : Nat) : Int) by omega]; exact tmod_nat _ _ _ hxx
      have hxl : xx < m := by rw [hxx]; exact Nat.mod_lt _ (by omega)
      have p6 : IntKind.i64.wrap (xx : Int) = xx := wrap63 _ (by omega)
      have HXX := Lib.hid hxx
      have HZ2 := Lib.hid hz2
      clear hxx hz2
      by_cases hodd : z % 2 = 1
      · have p7 : Int.tmod (z : Int) 2 = 1 := tmod_nat z 2 1 hodd.symm
        obtain ⟨yx, hyx⟩ : ∃ q, q = (y + x) % m := ⟨_, rfl⟩
        have p8 : IntKind.i64.wrap ((y : Int) + x) = (y : Int) + x := IntWalk.i64_in _ (by omega)
        have p9 : Int.tmod ((y : Int) + x) m = yx := by rw [show (y : Int) + x = ((y + x : Nat) : Int) by omega]; exact tmod_nat _ _ _ hyx
        have hyl : yx < m := by rw [hyx]; exact Nat.mod_lt _ (by omega)
        have p10 : IntKind.i64.wrap (yx : Int) = yx := wrap63 _ (by omega)
        have HYX := Lib.hid hyx
        have HO := Lib.hid hodd
        clear hyx hodd
        go_wp2_with fail
        exact ⟨⟨xx, z2, yx, rfl, rfl, rfl, hxl, by have := HZ2.out; omega, hyl, by rw [← HE.out, HXX.out, HZ2.out, HYX.out]; exact tm_odd _ _ _ _ HO.out, trivial⟩, by have := HZ2.out; simp [intOf]; omega⟩
      · have hev : z % 2 = 0 := by omega
        have p7 : Int.tmod (z : Int) 2 = 0 := tmod_nat z 2 0 hev.symm
        have HO := Lib.hid hev
        clear hev hodd
        go_wp2_with fail
        exact ⟨⟨xx, z2, y, rfl, rfl, rfl, hxl, by have := HZ2.out; omega, hy, by rw [← HE.out, HXX.out, HZ2.out]; exact tm_even _ _ _ _ HO.out, trivial⟩, by have := HZ2.out; simp [intOf]; omega⟩
    · obtain rfl : z = 0 := by omega
      have HY := Lib.hid (show y = RR by have := HE.out; rw [Nat.mul_zero, Nat.add_zero, Nat.mod_eq_of_lt hy] at this; exact this)
      go_wp2_with fail
      go_ret
      exact ⟨by rw [← HY.out]; rfl, Below.refl _ _⟩
theorem rtimes_told (a b RR : Nat) (ha : a < 2305843009213691579) (hb : b < 2305843009213691579) (hR : RR = a * b % 2305843009213691579) (w : World) :
    Calls Tryd.prog 32 #[.int .i64 a, .int .i64 b] w fun e w' => e = .returned (.int .i64 RR) ∧ Below w.heap.size w w' := by
  have H := Lib.hid (fun W => times_told a b 2305843009213691579 RR ha (by decide) (by omega) hR W)
  clear hR ha hb
  go_enter Tryd.func32, Tryd.ntmps32
  go_wp2_with (go_at_call 59; refine (H.out _).mono ?_; rintro e w5 ⟨rfl, hb5⟩)
  go_ret
  exact ⟨rfl, hb5⟩
set_option maxRecDepth 100000 in
set_option maxHeartbeats 800000 in
theorem rpower_told (a n RR : Nat) (ha : a < 2305843009213691579) (hn : n < 9223372036854775808) (hR : RR = a ^ n % 2305843009213691579) (w : World) :
    Calls Tryd.prog 27 #[.int .i64 a, .int .i64 n] w fun e w' => e = .returned (.int .i64 RR) ∧ Below w.heap.size w w' := by
  have HR := Lib.hid hR
  clear hR
  go_enter Tryd.func27, Tryd.ntmps27
  go_wp2_with fail
  go_loopw [0, 1, 5] (fun s0 s1 s5 wr => ∃ x z y : Nat, s0 = .int .i64 x ∧ s1 = .int .i64 z ∧ s5 = .int .i64 y ∧ x < 2305843009213691579 ∧ z < 9223372036854775808 ∧ y < 2305843009213691579 ∧ y * x ^ z % 2305843009213691579 = RR ∧ Below w.heap.size w wr) (fun _ s1 _ _ => (intOf s1).toNat)
  case atStart => exact ⟨a, n, 1, rfl, rfl, rfl, ha, hn, by decide, by rw [Nat.one_mul]; exact HR.out.symm, Below.refl _ _⟩
  case round =>
    obtain ⟨x, z, y, rfl, rfl, rfl, hx, hz, hy, he, hB⟩ := hrel
    have HE := Lib.hid he
    have HB := Lib.hid hB
    clear he hB
    by_cases hz0 : 0 < z
    · have p1 : (0 : Int) < z := by omega
      obtain ⟨xx, hxx⟩ : ∃ q, q = x * x % 2305843009213691579 := ⟨_, rfl⟩
      have H2 := Lib.hid (fun W => rtimes_told x x xx hx hx hxx W)
      obtain ⟨z2, hz2⟩ : ∃ q, q = z / 2 := ⟨_, rfl⟩
      have p2 : Int.tdiv (z : Int) 2 = (z2 : Int) := by rw [hz2]; exact (Int.ofNat_tdiv z 2).symm
      have p3 : IntKind.i64.wrap (z2 : Int) = z2 := wrap63 _ (by omega)
      have HXX := Lib.hid hxx
      have HZ2 := Lib.hid hz2
      clear hxx hz2
      by_cases hodd : z % 2 = 1
      · have p7 : Int.tmod (z : Int) 2 = 1 := tmod_nat z 2 1 hodd.symm
        obtain ⟨yx, hyx⟩ : ∃ q, q = y * x % 2305843009213691579 := ⟨_, rfl⟩
        have H1 := Lib.hid (fun W => rtimes_told y x yx hy hx hyx W)
        have HYX := Lib.hid hyx
        have HO := Lib.hid hodd
        clear hyx hodd
        go_wp2_with (first
          | (go_at_call 32; have tok := B1; clear tok; refine (H2.out _).mono ?_; rintro e v2 ⟨rfl, hb2⟩; have B2 := Lib.hid (keepBelow B1.out hb2); clear hb2)
          | (go_at_call 32; refine (H1.out _).mono ?_; rintro e v1 ⟨rfl, hb1⟩; have B1 := Lib.hid (keepBelow HB.out hb1); clear hb1))
        exact ⟨⟨xx, z2, yx, rfl, rfl, rfl, by rw [HXX.out]; exact Nat.mod_lt _ (by decide), by rw [HZ2.out]; omega, by rw [HYX.out]; exact Nat.mod_lt _ (by decide), by rw [← HE.out, HXX.out, HZ2.out, HYX.out]; exact pow_odd _ _ _ _ HO.out, B2.out⟩, by have := HZ2.out; simp [intOf]; omega⟩
      · have hev : z % 2 = 0 := by omega
        have p7 : Int.tmod (z : Int) 2 = 0 := tmod_nat z 2 0 hev.symm
        have HO := Lib.hid hev
        clear hev hodd
        go_wp2_with (go_at_call 32; refine (H2.out _).mono ?_; rintro e v2 ⟨rfl, hb2⟩; have B2 := Lib.hid (keepBelow HB.out hb2); clear hb2)
        exact ⟨⟨xx, z2, y, rfl, rfl, rfl, by rw [HXX.out]; exact Nat.mod_lt _ (by decide), by rw [HZ2.out]; omega, hy, by rw [← HE.out, HXX.out, HZ2.out]; exact pow_even _ _ _ _ HO.out, B2.out⟩, by have := HZ2.out; simp [intOf]; omega⟩
    · obtain rfl : z = 0 := by omega
      have HY := Lib.hid (show y = RR by have := HE.out; rw [Nat.pow_zero, Nat.mul_one, Nat.mod_eq_of_lt hy] at this; exact this)
      go_wp2_with fail
      go_ret
      exact ⟨by rw [← HY.out]; rfl, HB.out⟩
theorem rpower_any (a n : Int) (ha : mem a) (h0 : 0 ≤ n) (hn : n < 9223372036854775808) (R : Nat) (hR : R = pw a n) (w : World) :
    Calls Tryd.prog 27 #[.int .i64 a, .int .i64 n] w fun e w' => e = .returned (.int .i64 R) ∧ Below w.heap.size w w' := by
  obtain ⟨x, rfl⟩ := Int.eq_ofNat_of_zero_le (show 0 ≤ a from Int.le_trans (by decide) ha.1)
  obtain ⟨y, rfl⟩ := Int.eq_ofNat_of_zero_le h0
  have h2 := ha.2
  exact rpower_told x y R (by omega) (by omega) hR w
theorem rtimes_any (a b : Int) (ha : mem a) (hb : mem b) (R : Nat) (hR : R = a.toNat * b.toNat % 2305843009213691579) (w : World) :
    Calls Tryd.prog 32 #[.int .i64 a, .int .i64 b] w fun e w' => e = .returned (.int .i64 R) ∧ Below w.heap.size w w' := by
  obtain ⟨x, rfl⟩ := Int.eq_ofNat_of_zero_le (show 0 ≤ a from Int.le_trans (by decide) ha.1)
  obtain ⟨y, rfl⟩ := Int.eq_ofNat_of_zero_le (show 0 ≤ b from Int.le_trans (by decide) hb.1)
  have h1 := ha.2
  have h2 := hb.2
  exact rtimes_told x y R (by omega) (by omega) hR w
theorem rmember_any (a : Int) (w : World) : Calls Tryd.prog 31 #[.int .i64 a] w fun e w' => e = .returned (.bool (decide (mem a))) ∧ w' = w := by
  by_cases h1 : 1 ≤ a
  · by_cases h2 : a < 2305843009213691579
    · have HD := Lib.hid (show decide (mem a) = true from decide_eq_true ⟨h1, h2⟩)
      rw [HD.out]
      go_enter Tryd.func31, Tryd.ntmps31
      go_wp2_with fail
      go_ret
      exact ⟨rfl, rfl⟩
    · have HD := Lib.hid (show decide (mem a) = false from decide_eq_false fun h => h2 h.2)
      rw [HD.out]
      go_enter Tryd.func31, Tryd.ntmps31
      go_wp2_with fail
      go_ret
      exact ⟨rfl, rfl⟩
  · have HD := Lib.hid (show decide (mem a) = false from decide_eq_false fun h => h1 h.1)
    rw [HD.out]
    go_enter Tryd.func31, Tryd.ntmps31
    go_wp2_with fail
    go_ret
    exact ⟨rfl, rfl⟩
theorem rsecret_any (a : Int) (w : World) : Calls Tryd.prog 26 #[.int .i64 a] w fun e w' => e = .returned (.bool (decide (sec a))) ∧ w' = w := by
  by_cases h1 : 1 ≤ a
  · by_cases h2 : a < 1152921504606845789
    · have HD := Lib.hid (show decide (sec a) = true from decide_eq_true ⟨h1, h2⟩)
      rw [HD.out]
      go_enter Tryd.func26, Tryd.ntmps26
      go_wp2_with fail
      go_ret
      exact ⟨rfl, rfl⟩
    · have HD := Lib.hid (show decide (sec a) = false from decide_eq_false fun h => h2 h.2)
      rw [HD.out]
      go_enter Tryd.func26, Tryd.ntmps26
      go_wp2_with fail
      go_ret
      exact ⟨rfl, rfl⟩
  · have HD := Lib.hid (show decide (sec a) = false from decide_eq_false fun h => h1 h.1)
    rw [HD.out]
    go_enter Tryd.func26, Tryd.ntmps26
    go_wp2_with fail
    go_ret
    exact ⟨rfl, rfl⟩
set_option maxRecDepth 100000 in
theorem rvalid_any (k : Int) (w : World) : Calls Tryd.prog 23 #[.int .i64 k] w fun e w' => e = .returned (.bool (decide (val k))) ∧ Below w.heap.size w w' := by
  have HM := Lib.hid (fun W => rmember_any k W)
  by_cases h1 : 1 < k
  · by_cases h2 : k < 2305843009213691579
    · have hm : mem k := ⟨by omega, h2⟩
      have hn1 : (k != 1) = true := by rw [bne_iff_ne]; omega
      rw [decide_eq_true hm] at HM
      obtain ⟨R, hR⟩ : ∃ R, R = pw k 1152921504606845789 := ⟨_, rfl⟩
      have HP := Lib.hid (fun W => rpower_any k 1152921504606845789 hm (by decide) (by decide) R hR W)
      by_cases h3 : R = 1
      · have HD := Lib.hid (show decide (val k) = true from decide_eq_true ⟨hm, h1, by rw [← hR]; exact h3⟩)
        rw [HD.out]
        have h4 : (R : Int) = 1 := by omega
        clear h3 hR hm
        go_enter Tryd.func23, Tryd.ntmps23
        go_wp2_with (first
          | (go_at_call 31; refine (HM.out _).mono ?_; rintro e v1 ⟨rfl, rfl⟩)
          | (go_at_call 27; refine (HP.out _).mono ?_; rintro e v2 ⟨rfl, hb2⟩; have B2 := Lib.hid hb2; clear hb2))
        go_ret
        exact ⟨rfl, B2.out⟩
      · have HD := Lib.hid (show decide (val k) = false from decide_eq_false fun h => h3 (by rw [hR]; exact h.2.2))
        rw [HD.out]
        have h4 : ¬ (R : Int) = 1 := by omega
        have h5 : ((R : Int) == 1) = false := by simpa using h4
        clear h3 hR hm
        go_enter Tryd.func23, Tryd.ntmps23
        go_wp2_with (first
          | (go_at_call 31; refine (HM.out _).mono ?_; rintro e v1 ⟨rfl, rfl⟩)
          | (go_at_call 27; refine (HP.out _).mono ?_; rintro e v2 ⟨rfl, hb2⟩; have B2 := Lib.hid hb2; clear hb2))
        go_ret
        exact ⟨rfl, B2.out⟩
    · have hm : ¬ mem k := fun h => h2 h.2
      rw [decide_eq_false hm] at HM
      have HD := Lib.hid (show decide (val k) = false from decide_eq_false fun h => hm h.1)
      rw [HD.out]
      clear hm
      go_enter Tryd.func23, Tryd.ntmps23
      go_wp2_with (go_at_call 31; refine (HM.out _).mono ?_; rintro e v1 ⟨rfl, rfl⟩)
      go_ret
      exact ⟨rfl, Below.refl _ _⟩
  · have HD := Lib.hid (show decide (val k) = false from decide_eq_false fun h => h1 h.2.1)
    rw [HD.out]
    by_cases hk : k = 1
    · subst hk
      rw [show decide (mem 1) = true from rfl] at HM
      go_enter Tryd.func23, Tryd.ntmps23
      go_wp2_with (go_at_call 31; refine (HM.out _).mono ?_; rintro e v1 ⟨rfl, rfl⟩)
      go_ret
      exact ⟨rfl, Below.refl _ _⟩
    · rw [decide_eq_false (fun h : mem k => by have := h.1; omega)] at HM
      go_enter Tryd.func23, Tryd.ntmps23
      go_wp2_with (go_at_call 31; refine (HM.out _).mono ?_; rintro e v1 ⟨rfl, rfl⟩)
      go_ret
      exact ⟨rfl, Below.refl _ _⟩
/-- Times (func 28) -/
theorem Times_any (a b : Int) (w : World) : Calls Tryd.prog 28 #[.int .i64 a, .int .i64 b] w fun e w' => e = .returned (if mem a ∧ mem b then .tuple #[.int .i64 ((a.toNat * b.toNat % 2305843009213691579 : Nat) : Int), .int .i64 0] else .tuple #[.int .i64 0, .int .i64 11]) ∧ Below w.heap.size w w' := by
  have HA := Lib.hid (fun W => member_any a W)
  have HB := Lib.hid (fun W => member_any b W)
  by_cases ha : mem a
  · rw [decide_eq_true ha] at HA
    by_cases hb : mem b
    · rw [decide_eq_true hb] at HB
      rw [if_pos ⟨ha, hb⟩]
      obtain ⟨R, hR⟩ : ∃ R, R = a.toNat * b.toNat % 2305843009213691579 := ⟨_, rfl⟩
      rw [← hR]
      have HP := Lib.hid (fun W => product_any a b ha hb R hR W)
      clear hR ha hb
      go_enter Tryd.func28, Tryd.ntmps28
      go_wp2_with (first
        | (go_at_call 55; have tok := T1; clear tok; refine (HB.out _).mono ?_; rintro e v2 ⟨rfl, rfl⟩)
        | (go_at_call 55; refine (HA.out _).mono ?_; rintro e v1 ⟨rfl, rfl⟩; have T1 := Lib.hid trivial)
        | (go_at_call 58; refine (HP.out _).mono ?_; rintro e v3 ⟨rfl, hb3⟩))
      go_ret2
      exact ⟨rfl, hb3⟩
    · rw [decide_eq_false hb] at HB
      rw [if_neg (fun h => hb h.2)]
      clear ha hb
      go_enter Tryd.func28, Tryd.ntmps28
      go_wp2_with (first
        | (go_at_call 55; have tok := T1; clear tok; refine (HB.out _).mono ?_; rintro e v2 ⟨rfl, rfl⟩)
        | (go_at_call 55; refine (HA.out _).mono ?_; rintro e v1 ⟨rfl, rfl⟩; have T1 := Lib.hid trivial))
      go_ret2
      exact ⟨rfl, Below.refl _ _⟩
  · rw [decide_eq_false ha] at HA
    rw [if_neg (fun h => ha h.1)]
    clear ha
    go_enter Tryd.func28, Tryd.ntmps28
    go_wp2_with (go_at_call 55; refine (HA.out _).mono ?_; rintro e v1 ⟨rfl, rfl⟩)
    go_ret2
    exact ⟨rfl, Below.refl _ _⟩
/-- Power (func 29) -/
theorem Power_any (a n : Int) (hn : n < 9223372036854775808) (w : World) : Calls Tryd.prog 29 #[.int .i64 a, .int .i64 n] w fun e w' => e = .returned (if mem a ∧ 0 ≤ n then .tuple #[.int .i64 ((pw a n : Nat) : Int), .int .i64 0] else .tuple #[.int .i64 0, .int .i64 11]) ∧ Below w.heap.size w w' := by
  have HA := Lib.hid (fun W => member_any a W)
  by_cases ha : mem a
  · rw [decide_eq_true ha] at HA
    by_cases hb : 0 ≤ n
    · rw [if_pos ⟨ha, hb⟩]
      obtain ⟨R, hR⟩ : ∃ R, R = pw a n := ⟨_, rfl⟩
      rw [← hR]
      have HP := Lib.hid (fun W => power_any a n ha hb hn R hR W)
      have hb2 : ¬ n < 0 := by omega
      clear hR ha
      go_enter Tryd.func29, Tryd.ntmps29
      go_wp2_with (first
        | (go_at_call 55; refine (HA.out _).mono ?_; rintro e v1 ⟨rfl, rfl⟩)
        | (go_at_call 56; refine (HP.out _).mono ?_; rintro e v3 ⟨rfl, hb3⟩))
      go_ret2
      exact ⟨rfl, hb3⟩
    · rw [if_neg (fun h => hb h.2)]
      have hb2 : n < 0 := by omega
      clear ha
      go_enter Tryd.func29, Tryd.ntmps29
      go_wp2_with (go_at_call 55; refine (HA.out _).mono ?_; rintro e v1 ⟨rfl, rfl⟩)
      go_ret2
      exact ⟨rfl, Below.refl _ _⟩
  · rw [decide_eq_false ha] at HA
    rw [if_neg (fun h => ha h.1)]
    clear ha
    go_enter Tryd.func29, Tryd.ntmps29
    go_wp2_with (go_at_call 55; refine (HA.out _).mono ?_; rintro e v1 ⟨rfl, rfl⟩)
    go_ret2
    exact ⟨rfl, Below.refl _ _⟩
/-- Inverse (func 30) -/
theorem Inverse_any (a : Int) (w : World) : Calls Tryd.prog 30 #[.int .i64 a] w fun e w' => e = .returned (if mem a then .tuple #[.int .i64 ((pw a 2305843009213691577 : Nat) : Int), .int .i64 0] else .tuple #[.int .i64 0, .int .i64 11]) ∧ Below w.heap.size w w' := by
  have HA := Lib.hid (fun W => member_any a W)
  by_cases ha : mem a
  · rw [decide_eq_true ha] at HA
    rw [if_pos ha]
    obtain ⟨R, hR⟩ : ∃ R, R = pw a 2305843009213691577 := ⟨_, rfl⟩
    rw [← hR]
    have HP := Lib.hid (fun W => power_any a 2305843009213691577 ha (by decide) (by decide) R hR W)
    clear hR ha
    go_enter Tryd.func30, Tryd.ntmps30
    go_wp2_with (first
      | (go_at_call 55; refine (HA.out _).mono ?_; rintro e v1 ⟨rfl, rfl⟩)
      | (go_at_call 56; refine (HP.out _).mono ?_; rintro e v3 ⟨rfl, hb3⟩))
    go_ret2
    exact ⟨rfl, hb3⟩
  · rw [decide_eq_false ha] at HA
    rw [if_neg ha]
    clear ha
    go_enter Tryd.func30, Tryd.ntmps30
    go_wp2_with (go_at_call 55; refine (HA.out _).mono ?_; rintro e v1 ⟨rfl, rfl⟩)
    go_ret2
    exact ⟨rfl, Below.refl _ _⟩
theorem mem4 : mem 4 := ⟨by decide, by decide⟩
/-- Key (func 24) -/
theorem Key_any (x : Int) (w : World) : Calls Tryd.prog 24 #[.int .i64 x] w fun e w' => e = .returned (if sec x then .tuple #[.int .i64 ((pw 4 x : Nat) : Int), .int .i64 0] else .tuple #[.int .i64 0, .int .i64 11]) ∧ Below w.heap.size w w' := by
  have HA := Lib.hid (fun W => secret_any x W)
  by_cases ha : sec x
  · rw [decide_eq_true ha] at HA
    rw [if_pos ha]
    obtain ⟨R, hR⟩ : ∃ R, R = pw 4 x := ⟨_, rfl⟩
    rw [← hR]
    have HP := Lib.hid (fun W => power_any 4 x mem4 (by have := ha.1; omega) (by have := ha.2; omega) R hR W)
    clear hR ha
    go_enter Tryd.func24, Tryd.ntmps24
    go_wp2_with (first
      | (go_at_call 57; refine (HA.out _).mono ?_; rintro e v1 ⟨rfl, rfl⟩)
      | (go_at_call 56; refine (HP.out _).mono ?_; rintro e v3 ⟨rfl, hb3⟩))
    go_ret2
    exact ⟨rfl, hb3⟩
  · rw [decide_eq_false ha] at HA
    rw [if_neg ha]
    clear ha
    go_enter Tryd.func24, Tryd.ntmps24
    go_wp2_with (go_at_call 57; refine (HA.out _).mono ?_; rintro e v1 ⟨rfl, rfl⟩)
    go_ret2
    exact ⟨rfl, Below.refl _ _⟩
/-- Shared (func 25) -/
theorem Shared_any (x k : Int) (w : World) : Calls Tryd.prog 25 #[.int .i64 x, .int .i64 k] w fun e w' => e = .returned (if sec x then (if val k then .tuple #[.int .i64 ((pw k x : Nat) : Int), .int .i64 0] else .tuple #[.int .i64 0, .int .i64 26]) else .tuple #[.int .i64 0, .int .i64 11]) ∧ Below w.heap.size w w' := by
  have HA := Lib.hid (fun W => secret_any x W)
  have HV := Lib.hid (fun W => valid_any k W)
  by_cases ha : sec x
  · rw [decide_eq_true ha] at HA
    rw [if_pos ha]
    by_cases hv : val k
    · rw [decide_eq_true hv] at HV
      rw [if_pos hv]
      obtain ⟨R, hR⟩ : ∃ R, R = pw k x := ⟨_, rfl⟩
      rw [← hR]
      have HP := Lib.hid (fun W => power_any k x hv.1 (by have := ha.1; omega) (by have := ha.2; omega) R hR W)
      clear hR ha hv
      go_enter Tryd.func25, Tryd.ntmps25
      go_wp2_with (first
        | (go_at_call 57; refine (HA.out _).mono ?_; rintro e v1 ⟨rfl, rfl⟩)
        | (go_at_call 22; refine (HV.out _).mono ?_; rintro e v2 ⟨rfl, hb2⟩)
        | (go_at_call 56; refine (HP.out _).mono ?_; rintro e v3 ⟨rfl, hb3⟩))
      go_ret2
      exact ⟨rfl, keepBelow hb2 hb3⟩
    · rw [decide_eq_false hv] at HV
      rw [if_neg hv]
      clear ha hv
      go_enter Tryd.func25, Tryd.ntmps25
      go_wp2_with (first
        | (go_at_call 57; refine (HA.out _).mono ?_; rintro e v1 ⟨rfl, rfl⟩)
        | (go_at_call 22; refine (HV.out _).mono ?_; rintro e v2 ⟨rfl, hb2⟩))
      go_ret2
      exact ⟨rfl, hb2⟩
  · rw [decide_eq_false ha] at HA
    rw [if_neg ha]
    clear ha
    go_enter Tryd.func25, Tryd.ntmps25
    go_wp2_with (go_at_call 57; refine (HA.out _).mono ?_; rintro e v1 ⟨rfl, rfl⟩)
    go_ret2
    exact ⟨rfl, Below.refl _ _⟩
end Go.Proofs.YtklikkmnemooeaaDoor
