/- DigestGroup: the law's walk. -/
import Derived.Test.YtklikkmnemooeaaDoorDF
import Derived.Test.YtklikkmnemooeaaDoorDG
namespace Go.Proofs.YtklikkmnemooeaaDoor
open Go.RowKit
/-- what Times says -/
def tv (a b : Int) : Int := if mem a ∧ mem b then (a.toNat * b.toNat % 2305843009213691579 : Nat) else 0
def te (a b : Int) : Int := if mem a ∧ mem b then 0 else 11
theorem Times_two (a b : Int) (w : World) : Calls Tryd.prog 28 #[.int .i64 a, .int .i64 b] w fun e w' => e = .returned (.tuple #[.int .i64 (tv a b), .int .i64 (te a b)]) ∧ Below w.heap.size w w' := by
  refine (Times_any a b w).mono ?_
  rintro e w' ⟨rfl, hb⟩
  refine ⟨?_, hb⟩
  unfold tv te
  split <;> rfl
theorem Power_yes (a : Int) (n : Nat) (ha : mem a) (hn : n < 9223372036854775808) (R : Nat) (hR : R = pw a n) (w : World) : Calls Tryd.prog 29 #[.int .i64 a, .int .i64 n] w fun e w' => e = .returned (.tuple #[.int .i64 R, .int .i64 0]) ∧ Below w.heap.size w w' := by
  refine (Power_any a n (by omega) w).mono ?_
  rintro e w' ⟨rfl, hb⟩
  refine ⟨?_, hb⟩
  rw [if_pos ⟨ha, by omega⟩, hR]
theorem Power_no (a n : Int) (h : ¬ (mem a ∧ 0 ≤ n)) (hn : n < 9223372036854775808) (w : World) : Calls Tryd.prog 29 #[.int .i64 a, .int .i64 n] w fun e w' => e = .returned (.tuple #[.int .i64 0, .int .i64 11]) ∧ Below w.heap.size w w' := by
  refine (Power_any a n hn w).mono ?_
  rintro e w' ⟨rfl, hb⟩
  refine ⟨?_, hb⟩
  rw [if_neg h]
theorem Inverse_yes (a : Int) (ha : mem a) (R : Nat) (hR : R = pw a 2305843009213691577) (w : World) : Calls Tryd.prog 30 #[.int .i64 a] w fun e w' => e = .returned (.tuple #[.int .i64 R, .int .i64 0]) ∧ Below w.heap.size w w' := by
  refine (Inverse_any a w).mono ?_
  rintro e w' ⟨rfl, hb⟩
  refine ⟨?_, hb⟩
  rw [if_pos ha, hR]
theorem Inverse_no (a : Int) (ha : ¬ mem a) (w : World) : Calls Tryd.prog 30 #[.int .i64 a] w fun e w' => e = .returned (.tuple #[.int .i64 0, .int .i64 11]) ∧ Below w.heap.size w w' := by
  refine (Inverse_any a w).mono ?_
  rintro e w' ⟨rfl, hb⟩
  refine ⟨?_, hb⟩
  rw [if_neg ha]
theorem Times_yes (a b : Int) (ha : mem a) (hb : mem b) (R : Nat) (hR : R = a.toNat * b.toNat % 2305843009213691579) (w : World) : Calls Tryd.prog 28 #[.int .i64 a, .int .i64 b] w fun e w' => e = .returned (.tuple #[.int .i64 R, .int .i64 0]) ∧ Below w.heap.size w w' := by
  refine (Times_any a b w).mono ?_
  rintro e w' ⟨rfl, hb2⟩
  refine ⟨?_, hb2⟩
  rw [if_pos ⟨ha, hb⟩, hR]
theorem Times_no (a b : Int) (h : ¬ (mem a ∧ mem b)) (w : World) : Calls Tryd.prog 28 #[.int .i64 a, .int .i64 b] w fun e w' => e = .returned (.tuple #[.int .i64 0, .int .i64 11]) ∧ Below w.heap.size w w' := by
  refine (Times_any a b w).mono ?_
  rintro e w' ⟨rfl, hb2⟩
  refine ⟨?_, hb2⟩
  rw [if_neg h]
theorem rmember_two (x : Int) (w : World) : Calls Tryd.prog 31 #[.int .i64 x] w fun e w' => e = .returned (.bool (decide (mem x))) ∧ Below w.heap.size w w' := by
  refine (rmember_any x w).mono ?_
  rintro e w' ⟨rfl, rfl⟩
  exact ⟨rfl, Below.refl _ _⟩
theorem gP : NT.IsPrime 2305843009213691579 := NT.prime_prime
theorem mem_nd (a : Int) (h : mem a) : ¬ 2305843009213691579 ∣ a.toNat := by
  have h1 := h.1
  have h2 := h.2
  exact NT.not_dvd (by omega) (by omega)
theorem mem_pw (a n : Int) (h : mem a) : mem (pw a n) := by
  have hk := NT.pow_pos_mod gP (by decide) (mem_nd a h) n.toNat
  have e : pw a n = a.toNat ^ n.toNat % 2305843009213691579 := rfl
  rw [← e] at hk
  exact ⟨by omega, by omega⟩
theorem mem_prod (a b : Int) (ha : mem a) (hb : mem b) : mem ((a.toNat * b.toNat % 2305843009213691579 : Nat) : Int) := by
  have h1 : ¬ 2305843009213691579 ∣ a.toNat * b.toNat := fun h => by
    rcases NT.prime_dvd_mul gP h with h | h
    · exact mem_nd a ha h
    · exact mem_nd b hb h
  have h2 : a.toNat * b.toNat % 2305843009213691579 < 2305843009213691579 := Nat.mod_lt _ (by decide)
  have h3 : a.toNat * b.toNat % 2305843009213691579 ≠ 0 := fun h => h1 (Nat.dvd_of_mod_eq_zero h)
  exact ⟨by omega, by omega⟩
theorem inverse' (P a n : Nat) (hP : NT.IsPrime P) (h5 : 5 < P) (h : ¬ P ∣ a) (hn : n = P - 2) : a * (a ^ n % P) % P = 1 := by
  subst hn
  exact NT.inverse hP h5 h
theorem inv_one (a E : Int) (ha : mem a) (hE : E = 2305843009213691577) (IA : Nat) (hIA : IA = pw a E) : 1 = a.toNat * (IA : Int).toNat % 2305843009213691579 := by
  obtain ⟨n, hn⟩ : ∃ n : Nat, n = E.toNat := ⟨_, rfl⟩
  have h := inverse' 2305843009213691579 a.toNat n gP (by decide) (mem_nd a ha) (by omega)
  have e : pw a E = a.toNat ^ n % 2305843009213691579 := by rw [hn]; rfl
  rw [← e, ← hIA] at h
  rw [Int.toNat_natCast]
  exact h.symm
theorem Inverse_at (a E : Int) (hE : E = 2305843009213691577) (ha : mem a) (R : Nat) (hR : R = pw a E) (w : World) : Calls Tryd.prog 30 #[.int .i64 a] w fun e w' => e = .returned (.tuple #[.int .i64 R, .int .i64 0]) ∧ Below w.heap.size w w' := by
  subst hE
  exact Inverse_yes a ha R hR w
theorem pw_add (a : Int) (n m : Nat) : pw a n * pw a m % 2305843009213691579 = pw a (n + m : Nat) := by
  show a.toNat ^ n % 2305843009213691579 * (a.toNat ^ m % 2305843009213691579) % 2305843009213691579 = a.toNat ^ (n + m) % 2305843009213691579
  rw [← Nat.mul_mod, ← Nat.pow_add]
theorem prod_assoc (a b c : Nat) : (a * b % 2305843009213691579) * c % 2305843009213691579 = a * (b * c % 2305843009213691579) % 2305843009213691579 := by
  rw [Nat.mul_mod, Nat.mod_mod, ← Nat.mul_mod, Nat.mul_assoc, Nat.mul_mod a (b * c), Nat.mul_mod a (b * c % 2305843009213691579), Nat.mod_mod]
set_option maxRecDepth 100000 in
set_option maxHeartbeats 800000 in
theorem group_no (a b c : Int) (n m : Nat) (hn : n < 4294967296) (hm : m < 4294967296) (ha : ¬ mem a) (w : World) (hT : Tabs w) : Calls Tryd.prog 7 #[.int .i64 a, .int .i64 b, .int .i64 c, .int .u32 n, .int .u32 m] w fun e w' => e = .returned (.bool true) ∧ Below w.heap.size w w' := by
  have B0 := Lib.hid (Below.refl w.heap.size w)
  have CA := Lib.hid (fun W (hb : Below w.heap.size w W) => awake_any W (hT.keep hb))
  have g1 : IntKind.i64.wrap (n : Int) = n := IntWalk.i64_in _ (by omega)
  have g2 : IntKind.i64.wrap (m : Int) = m := IntWalk.i64_in _ (by omega)
  have CT := Lib.hid (fun W (_ : Below w.heap.size w W) => Times_no a b (fun h => ha h.1) W)
  have CP := Lib.hid (fun W (_ : Below w.heap.size w W) => Power_no a n (fun h => ha h.1) (by omega) W)
  have CI := Lib.hid (fun W (_ : Below w.heap.size w W) => Inverse_no a ha W)
  have CM := Lib.hid (fun W (_ : Below w.heap.size w W) => rmember_two a W)
  rw [decide_eq_false ha] at CM
  clear ha hn hm hT
  go_enter Tryd.func7, Tryd.ntmps7
  go_wp2_with (first
      | (go_at_call 11; have tok := B0; clear tok; refine (CA.out _ ?_).mono ?_; exact B0.out; rintro e v1 ⟨rfl, hb1⟩; have B1 := Lib.hid (keepBelow B0.out hb1); clear hb1 B0)
      | (go_at_call 28; have tok := B1; clear tok; refine (CT.out _ ?_).mono ?_; exact B1.out; rintro e v2 ⟨rfl, hb2⟩; have B2 := Lib.hid (keepBelow B1.out hb2); clear hb2 B1)
      | (go_at_call 29; have tok := B2; clear tok; refine (CP.out _ ?_).mono ?_; exact B2.out; rintro e v3 ⟨rfl, hb3⟩; have B3 := Lib.hid (keepBelow B2.out hb3); clear hb3 B2)
      | (go_at_call 30; have tok := B3; clear tok; refine (CI.out _ ?_).mono ?_; exact B3.out; rintro e v4 ⟨rfl, hb4⟩; have B4 := Lib.hid (keepBelow B3.out hb4); clear hb4 B3)
      | (go_at_call 31; have tok := B4; clear tok; refine (CM.out _ ?_).mono ?_; exact B4.out; rintro e v5 ⟨rfl, hb5⟩; have B5 := Lib.hid (keepBelow B4.out hb5); clear hb5 B4))
  go_ret
  exact ⟨rfl, B5.out⟩
set_option maxRecDepth 100000 in
set_option maxHeartbeats 800000 in
theorem group_b (a b c : Int) (n m : Nat) (hn : n < 4294967296) (hm : m < 4294967296) (ha : mem a) (hb : ¬ mem b) (w : World) (hT : Tabs w) : Calls Tryd.prog 7 #[.int .i64 a, .int .i64 b, .int .i64 c, .int .u32 n, .int .u32 m] w fun e w' => e = .returned (.bool true) ∧ Below w.heap.size w w' := by
  have B0 := Lib.hid (Below.refl w.heap.size w)
  have CA := Lib.hid (fun W (hb : Below w.heap.size w W) => awake_any W (hT.keep hb))
  have g1 : IntKind.i64.wrap (n : Int) = n := IntWalk.i64_in _ (by omega)
  have g2 : IntKind.i64.wrap (m : Int) = m := IntWalk.i64_in _ (by omega)
  have g3 : IntKind.i64.wrap ((n : Int) + m) = ((n + m : Nat) : Int) := by rw [IntWalk.i64_in _ (by omega)]; omega
  have g4 : IntKind.i64.wrap (-1 - (n : Int)) = -1 - (n : Int) := IntWalk.i64_in _ (by omega)
  obtain ⟨AN, hAN⟩ : ∃ x, x = pw a n := ⟨_, rfl⟩
  obtain ⟨AM, hAM⟩ : ∃ x, x = pw a m := ⟨_, rfl⟩
  obtain ⟨E, hE⟩ : ∃ E : Int, E = 2305843009213691577 := ⟨_, rfl⟩
  obtain ⟨IA, hIA⟩ : ∃ x, x = pw a E := ⟨_, rfl⟩
  obtain ⟨BO, hBO⟩ : ∃ x, x = pw a (n + m : Nat) := ⟨_, rfl⟩
  have CP := Lib.hid (fun W (_ : Below w.heap.size w W) => Power_yes a n ha (by omega) AN hAN W)
  have CI := Lib.hid (fun W (_ : Below w.heap.size w W) => Inverse_at a E hE ha IA hIA W)
  have CM := Lib.hid (fun W (_ : Below w.heap.size w W) => rmember_two a W)
  rw [decide_eq_true ha] at CM
  have CO := Lib.hid (fun W (_ : Below w.heap.size w W) => Times_yes a IA ha (by rw [hIA]; exact mem_pw a _ ha) 1 (inv_one a E ha hE IA hIA) W)
  have CQ := Lib.hid (fun W (_ : Below w.heap.size w W) => Power_yes a m ha (by omega) AM hAM W)
  have CB := Lib.hid (fun W (_ : Below w.heap.size w W) => Power_yes a (n + m) ha (by omega) BO hBO W)
  have CZ := Lib.hid (fun W (_ : Below w.heap.size w W) => Times_yes AN AM (by rw [hAN]; exact mem_pw a _ ha) (by rw [hAM]; exact mem_pw a _ ha) BO (by rw [hBO, hAN, hAM, ← pw_add]; rfl) W)
  have CN := Lib.hid (fun W (_ : Below w.heap.size w W) => Power_no a (-1 - (n : Int)) (fun h => by have := h.2; omega) (by omega) W)
  have CR := Lib.hid (fun W (_ : Below w.heap.size w W) => rpower_any a n ha (by omega) (by omega) AN hAN W)
  have CMB := Lib.hid (fun W (_ : Below w.heap.size w W) => rmember_two b W)
  have CT := Lib.hid (fun W (_ : Below w.heap.size w W) => Times_no a b (fun h => hb h.2) W)
  rw [decide_eq_false hb] at CMB
  clear ha hb hn hm hT hAN hAM hIA hE hBO
  go_enter Tryd.func7, Tryd.ntmps7
  go_wp2_with (first
      | (go_at_call 11; have tok := B0; clear tok; refine (CA.out _ ?_).mono ?_; exact B0.out; rintro e v1 ⟨rfl, hb1⟩; have B1 := Lib.hid (keepBelow B0.out hb1); clear hb1 B0)
      | (go_at_call 28; have tok := B1; clear tok; refine (CT.out _ ?_).mono ?_; exact B1.out; rintro e v2 ⟨rfl, hb2⟩; have B2 := Lib.hid (keepBelow B1.out hb2); clear hb2 B1)
      | (go_at_call 29; have tok := B2; clear tok; refine (CP.out _ ?_).mono ?_; exact B2.out; rintro e v3 ⟨rfl, hb3⟩; have B3 := Lib.hid (keepBelow B2.out hb3); clear hb3 B2)
      | (go_at_call 30; have tok := B3; clear tok; refine (CI.out _ ?_).mono ?_; exact B3.out; rintro e v4 ⟨rfl, hb4⟩; have B4 := Lib.hid (keepBelow B3.out hb4); clear hb4 B3)
      | (go_at_call 31; have tok := B4; clear tok; refine (CM.out _ ?_).mono ?_; exact B4.out; rintro e v5 ⟨rfl, hb5⟩; have B5 := Lib.hid (keepBelow B4.out hb5); clear hb5 B4)
      | (go_at_call 28; have tok := B5; clear tok; refine (CO.out _ ?_).mono ?_; exact B5.out; rintro e v6 ⟨rfl, hb6⟩; have B6 := Lib.hid (keepBelow B5.out hb6); clear hb6 B5)
      | (go_at_call 29; have tok := B6; clear tok; refine (CQ.out _ ?_).mono ?_; exact B6.out; rintro e v7 ⟨rfl, hb7⟩; have B7 := Lib.hid (keepBelow B6.out hb7); clear hb7 B6)
      | (go_at_call 29; have tok := B7; clear tok; refine (CB.out _ ?_).mono ?_; exact B7.out; rintro e v8 ⟨rfl, hb8⟩; have B8 := Lib.hid (keepBelow B7.out hb8); clear hb8 B7)
      | (go_at_call 28; have tok := B8; clear tok; refine (CZ.out _ ?_).mono ?_; exact B8.out; rintro e v9 ⟨rfl, hb9⟩; have B9 := Lib.hid (keepBelow B8.out hb9); clear hb9 B8)
      | (go_at_call 29; have tok := B9; clear tok; refine (CN.out _ ?_).mono ?_; exact B9.out; rintro e v10 ⟨rfl, hb10⟩; have B10 := Lib.hid (keepBelow B9.out hb10); clear hb10 B9)
      | (go_at_call 27; have tok := B10; clear tok; refine (CR.out _ ?_).mono ?_; exact B10.out; rintro e v11 ⟨rfl, hb11⟩; have B11 := Lib.hid (keepBelow B10.out hb11); clear hb11 B10)
      | (go_at_call 31; have tok := B11; clear tok; refine (CMB.out _ ?_).mono ?_; exact B11.out; rintro e v12 ⟨rfl, hb12⟩; have B12 := Lib.hid (keepBelow B11.out hb12); clear hb12 B11))
  go_ret
  exact ⟨rfl, B12.out⟩
set_option maxRecDepth 100000 in
set_option maxHeartbeats 800000 in
theorem group_c (a b c : Int) (n m : Nat) (hn : n < 4294967296) (hm : m < 4294967296) (ha : mem a) (hb : mem b) (hc : ¬ mem c) (w : World) (hT : Tabs w) : Calls Tryd.prog 7 #[.int .i64 a, .int .i64 b, .int .i64 c, .int .u32 n, .int .u32 m] w fun e w' => e = .returned (.bool true) ∧ Below w.heap.size w w' := by
  have B0 := Lib.hid (Below.refl w.heap.size w)
  have CA := Lib.hid (fun W (hb : Below w.heap.size w W) => awake_any W (hT.keep hb))
  have g1 : IntKind.i64.wrap (n : Int) = n := IntWalk.i64_in _ (by omega)
  have g2 : IntKind.i64.wrap (m : Int) = m := IntWalk.i64_in _ (by omega)
  have g3 : IntKind.i64.wrap ((n : Int) + m) = ((n + m : Nat) : Int) := by rw [IntWalk.i64_in _ (by omega)]; omega
  have g4 : IntKind.i64.wrap (-1 - (n : Int)) = -1 - (n : Int) := IntWalk.i64_in _ (by omega)
  obtain ⟨AN, hAN⟩ : ∃ x, x = pw a n := ⟨_, rfl⟩
  obtain ⟨AM, hAM⟩ : ∃ x, x = pw a m := ⟨_, rfl⟩
  obtain ⟨E, hE⟩ : ∃ E : Int, E = 2305843009213691577 := ⟨_, rfl⟩
  obtain ⟨IA, hIA⟩ : ∃ x, x = pw a E := ⟨_, rfl⟩
  obtain ⟨BO, hBO⟩ : ∃ x, x = pw a (n + m : Nat) := ⟨_, rfl⟩
  have CP := Lib.hid (fun W (_ : Below w.heap.size w W) => Power_yes a n ha (by omega) AN hAN W)
  have CI := Lib.hid (fun W (_ : Below w.heap.size w W) => Inverse_at a E hE ha IA hIA W)
  have CM := Lib.hid (fun W (_ : Below w.heap.size w W) => rmember_two a W)
  rw [decide_eq_true ha] at CM
  have CO := Lib.hid (fun W (_ : Below w.heap.size w W) => Times_yes a IA ha (by rw [hIA]; exact mem_pw a _ ha) 1 (inv_one a E ha hE IA hIA) W)
  have CQ := Lib.hid (fun W (_ : Below w.heap.size w W) => Power_yes a m ha (by omega) AM hAM W)
  have CB := Lib.hid (fun W (_ : Below w.heap.size w W) => Power_yes a (n + m) ha (by omega) BO hBO W)
  have CZ := Lib.hid (fun W (_ : Below w.heap.size w W) => Times_yes AN AM (by rw [hAN]; exact mem_pw a _ ha) (by rw [hAM]; exact mem_pw a _ ha) BO (by rw [hBO, hAN, hAM, ← pw_add]; rfl) W)
  have CN := Lib.hid (fun W (_ : Below w.heap.size w W) => Power_no a (-1 - (n : Int)) (fun h => by have := h.2; omega) (by omega) W)
  have CR := Lib.hid (fun W (_ : Below w.heap.size w W) => rpower_any a n ha (by omega) (by omega) AN hAN W)
  have CMB := Lib.hid (fun W (_ : Below w.heap.size w W) => rmember_two b W)
  obtain ⟨AB, hAB⟩ : ∃ x, x = a.toNat * b.toNat % 2305843009213691579 := ⟨_, rfl⟩
  have CT := Lib.hid (fun W (_ : Below w.heap.size w W) => Times_yes a b ha hb AB hAB W)
  rw [decide_eq_true hb] at CMB
  have CBA := Lib.hid (fun W (_ : Below w.heap.size w W) => Times_yes b a hb ha AB (by rw [hAB, Nat.mul_comm]) W)
  have CRT := Lib.hid (fun W (_ : Below w.heap.size w W) => rtimes_any a b ha hb AB hAB W)
  have CMC := Lib.hid (fun W (_ : Below w.heap.size w W) => rmember_two c W)
  rw [decide_eq_false hc] at CMC
  clear ha hb hc hn hm hT hAN hAM hIA hE hBO hAB
  go_enter Tryd.func7, Tryd.ntmps7
  go_wp2_with (first
      | (go_at_call 11; have tok := B0; clear tok; refine (CA.out _ ?_).mono ?_; exact B0.out; rintro e v1 ⟨rfl, hb1⟩; have B1 := Lib.hid (keepBelow B0.out hb1); clear hb1 B0)
      | (go_at_call 28; have tok := B1; clear tok; refine (CT.out _ ?_).mono ?_; exact B1.out; rintro e v2 ⟨rfl, hb2⟩; have B2 := Lib.hid (keepBelow B1.out hb2); clear hb2 B1)
      | (go_at_call 29; have tok := B2; clear tok; refine (CP.out _ ?_).mono ?_; exact B2.out; rintro e v3 ⟨rfl, hb3⟩; have B3 := Lib.hid (keepBelow B2.out hb3); clear hb3 B2)
      | (go_at_call 30; have tok := B3; clear tok; refine (CI.out _ ?_).mono ?_; exact B3.out; rintro e v4 ⟨rfl, hb4⟩; have B4 := Lib.hid (keepBelow B3.out hb4); clear hb4 B3)
      | (go_at_call 31; have tok := B4; clear tok; refine (CM.out _ ?_).mono ?_; exact B4.out; rintro e v5 ⟨rfl, hb5⟩; have B5 := Lib.hid (keepBelow B4.out hb5); clear hb5 B4)
      | (go_at_call 28; have tok := B5; clear tok; refine (CO.out _ ?_).mono ?_; exact B5.out; rintro e v6 ⟨rfl, hb6⟩; have B6 := Lib.hid (keepBelow B5.out hb6); clear hb6 B5)
      | (go_at_call 29; have tok := B6; clear tok; refine (CQ.out _ ?_).mono ?_; exact B6.out; rintro e v7 ⟨rfl, hb7⟩; have B7 := Lib.hid (keepBelow B6.out hb7); clear hb7 B6)
      | (go_at_call 29; have tok := B7; clear tok; refine (CB.out _ ?_).mono ?_; exact B7.out; rintro e v8 ⟨rfl, hb8⟩; have B8 := Lib.hid (keepBelow B7.out hb8); clear hb8 B7)
      | (go_at_call 28; have tok := B8; clear tok; refine (CZ.out _ ?_).mono ?_; exact B8.out; rintro e v9 ⟨rfl, hb9⟩; have B9 := Lib.hid (keepBelow B8.out hb9); clear hb9 B8)
      | (go_at_call 29; have tok := B9; clear tok; refine (CN.out _ ?_).mono ?_; exact B9.out; rintro e v10 ⟨rfl, hb10⟩; have B10 := Lib.hid (keepBelow B9.out hb10); clear hb10 B9)
      | (go_at_call 27; have tok := B10; clear tok; refine (CR.out _ ?_).mono ?_; exact B10.out; rintro e v11 ⟨rfl, hb11⟩; have B11 := Lib.hid (keepBelow B10.out hb11); clear hb11 B10)
      | (go_at_call 31; have tok := B11; clear tok; refine (CMB.out _ ?_).mono ?_; exact B11.out; rintro e v12 ⟨rfl, hb12⟩; have B12 := Lib.hid (keepBelow B11.out hb12); clear hb12 B11)
      | (go_at_call 28; have tok := B12; clear tok; refine (CBA.out _ ?_).mono ?_; exact B12.out; rintro e v13 ⟨rfl, hb13⟩; have B13 := Lib.hid (keepBelow B12.out hb13); clear hb13 B12)
      | (go_at_call 32; have tok := B13; clear tok; refine (CRT.out _ ?_).mono ?_; exact B13.out; rintro e v14 ⟨rfl, hb14⟩; have B14 := Lib.hid (keepBelow B13.out hb14); clear hb14 B13)
      | (go_at_call 31; have tok := B14; clear tok; refine (CMC.out _ ?_).mono ?_; exact B14.out; rintro e v15 ⟨rfl, hb15⟩; have B15 := Lib.hid (keepBelow B14.out hb15); clear hb15 B14))
  go_ret
  exact ⟨rfl, B15.out⟩
set_option maxRecDepth 100000 in
set_option maxHeartbeats 800000 in
theorem group_d (a b c : Int) (n m : Nat) (hn : n < 4294967296) (hm : m < 4294967296) (ha : mem a) (hb : mem b) (hc : mem c) (w : World) (hT : Tabs w) : Calls Tryd.prog 7 #[.int .i64 a, .int .i64 b, .int .i64 c, .int .u32 n, .int .u32 m] w fun e w' => e = .returned (.bool true) ∧ Below w.heap.size w w' := by
  have B0 := Lib.hid (Below.refl w.heap.size w)
  have CA := Lib.hid (fun W (hb : Below w.heap.size w W) => awake_any W (hT.keep hb))
  have g1 : IntKind.i64.wrap (n : Int) = n := IntWalk.i64_in _ (by omega)
  have g2 : IntKind.i64.wrap (m : Int) = m := IntWalk.i64_in _ (by omega)
  have g3 : IntKind.i64.wrap ((n : Int) + m) = ((n + m : Nat) : Int) := by rw [IntWalk.i64_in _ (by omega)]; omega
  have g4 : IntKind.i64.wrap (-1 - (n : Int)) = -1 - (n : Int) := IntWalk.i64_in _ (by omega)
  obtain ⟨AN, hAN⟩ : ∃ x, x = pw a n := ⟨_, rfl⟩
  obtain ⟨AM, hAM⟩ : ∃ x, x = pw a m := ⟨_, rfl⟩
  obtain ⟨E, hE⟩ : ∃ E : Int, E = 2305843009213691577 := ⟨_, rfl⟩
  obtain ⟨IA, hIA⟩ : ∃ x, x = pw a E := ⟨_, rfl⟩
  obtain ⟨BO, hBO⟩ : ∃ x, x = pw a (n + m : Nat) := ⟨_, rfl⟩
  have CP := Lib.hid (fun W (_ : Below w.heap.size w W) => Power_yes a n ha (by omega) AN hAN W)
  have CI := Lib.hid (fun W (_ : Below w.heap.size w W) => Inverse_at a E hE ha IA hIA W)
  have CM := Lib.hid (fun W (_ : Below w.heap.size w W) => rmember_two a W)
  rw [decide_eq_true ha] at CM
  have CO := Lib.hid (fun W (_ : Below w.heap.size w W) => Times_yes a IA ha (by rw [hIA]; exact mem_pw a _ ha) 1 (inv_one a E ha hE IA hIA) W)
  have CQ := Lib.hid (fun W (_ : Below w.heap.size w W) => Power_yes a m ha (by omega) AM hAM W)
  have CB := Lib.hid (fun W (_ : Below w.heap.size w W) => Power_yes a (n + m) ha (by omega) BO hBO W)
  have CZ := Lib.hid (fun W (_ : Below w.heap.size w W) => Times_yes AN AM (by rw [hAN]; exact mem_pw a _ ha) (by rw [hAM]; exact mem_pw a _ ha) BO (by rw [hBO, hAN, hAM, ← pw_add]; rfl) W)
  have CN := Lib.hid (fun W (_ : Below w.heap.size w W) => Power_no a (-1 - (n : Int)) (fun h => by have := h.2; omega) (by omega) W)
  have CR := Lib.hid (fun W (_ : Below w.heap.size w W) => rpower_any a n ha (by omega) (by omega) AN hAN W)
  have CMB := Lib.hid (fun W (_ : Below w.heap.size w W) => rmember_two b W)
  obtain ⟨AB, hAB⟩ : ∃ x, x = a.toNat * b.toNat % 2305843009213691579 := ⟨_, rfl⟩
  have CT := Lib.hid (fun W (_ : Below w.heap.size w W) => Times_yes a b ha hb AB hAB W)
  rw [decide_eq_true hb] at CMB
  have CBA := Lib.hid (fun W (_ : Below w.heap.size w W) => Times_yes b a hb ha AB (by rw [hAB, Nat.mul_comm]) W)
  have CRT := Lib.hid (fun W (_ : Below w.heap.size w W) => rtimes_any a b ha hb AB hAB W)
  have CMC := Lib.hid (fun W (_ : Below w.heap.size w W) => rmember_two c W)
  rw [decide_eq_true hc] at CMC
  obtain ⟨BC, hBC⟩ : ∃ x, x = b.toNat * c.toNat % 2305843009213691579 := ⟨_, rfl⟩
  obtain ⟨X, hX⟩ : ∃ x, x = AB * c.toNat % 2305843009213691579 := ⟨_, rfl⟩
  have CBC := Lib.hid (fun W (_ : Below w.heap.size w W) => Times_yes b c hb hc BC hBC W)
  have CX := Lib.hid (fun W (_ : Below w.heap.size w W) => Times_yes AB c (by rw [hAB]; exact mem_prod a b ha hb) hc X hX W)
  have CY := Lib.hid (fun W (_ : Below w.heap.size w W) => Times_yes a BC ha (by rw [hBC]; exact mem_prod b c hb hc) X (by rw [hX, hAB, hBC]; exact prod_assoc _ _ _) W)
  clear ha hb hc hn hm hT hAN hAM hIA hE hBO hAB hBC hX
  go_enter Tryd.func7, Tryd.ntmps7
  go_wp2_with (first
      | (go_at_call 11; have tok := B0; clear tok; refine (CA.out _ ?_).mono ?_; exact B0.out; rintro e v1 ⟨rfl, hb1⟩; have B1 := Lib.hid (keepBelow B0.out hb1); clear hb1 B0)
      | (go_at_call 28; have tok := B1; clear tok; refine (CT.out _ ?_).mono ?_; exact B1.out; rintro e v2 ⟨rfl, hb2⟩; have B2 := Lib.hid (keepBelow B1.out hb2); clear hb2 B1)
      | (go_at_call 29; have tok := B2; clear tok; refine (CP.out _ ?_).mono ?_; exact B2.out; rintro e v3 ⟨rfl, hb3⟩; have B3 := Lib.hid (keepBelow B2.out hb3); clear hb3 B2)
      | (go_at_call 30; have tok := B3; clear tok; refine (CI.out _ ?_).mono ?_; exact B3.out; rintro e v4 ⟨rfl, hb4⟩; have B4 := Lib.hid (keepBelow B3.out hb4); clear hb4 B3)
      | (go_at_call 31; have tok := B4; clear tok; refine (CM.out _ ?_).mono ?_; exact B4.out; rintro e v5 ⟨rfl, hb5⟩; have B5 := Lib.hid (keepBelow B4.out hb5); clear hb5 B4)
      | (go_at_call 28; have tok := B5; clear tok; refine (CO.out _ ?_).mono ?_; exact B5.out; rintro e v6 ⟨rfl, hb6⟩; have B6 := Lib.hid (keepBelow B5.out hb6); clear hb6 B5)
      | (go_at_call 29; have tok := B6; clear tok; refine (CQ.out _ ?_).mono ?_; exact B6.out; rintro e v7 ⟨rfl, hb7⟩; have B7 := Lib.hid (keepBelow B6.out hb7); clear hb7 B6)
      | (go_at_call 29; have tok := B7; clear tok; refine (CB.out _ ?_).mono ?_; exact B7.out; rintro e v8 ⟨rfl, hb8⟩; have B8 := Lib.hid (keepBelow B7.out hb8); clear hb8 B7)
      | (go_at_call 28; have tok := B8; clear tok; refine (CZ.out _ ?_).mono ?_; exact B8.out; rintro e v9 ⟨rfl, hb9⟩; have B9 := Lib.hid (keepBelow B8.out hb9); clear hb9 B8)
      | (go_at_call 29; have tok := B9; clear tok; refine (CN.out _ ?_).mono ?_; exact B9.out; rintro e v10 ⟨rfl, hb10⟩; have B10 := Lib.hid (keepBelow B9.out hb10); clear hb10 B9)
      | (go_at_call 27; have tok := B10; clear tok; refine (CR.out _ ?_).mono ?_; exact B10.out; rintro e v11 ⟨rfl, hb11⟩; have B11 := Lib.hid (keepBelow B10.out hb11); clear hb11 B10)
      | (go_at_call 31; have tok := B11; clear tok; refine (CMB.out _ ?_).mono ?_; exact B11.out; rintro e v12 ⟨rfl, hb12⟩; have B12 := Lib.hid (keepBelow B11.out hb12); clear hb12 B11)
      | (go_at_call 28; have tok := B12; clear tok; refine (CBA.out _ ?_).mono ?_; exact B12.out; rintro e v13 ⟨rfl, hb13⟩; have B13 := Lib.hid (keepBelow B12.out hb13); clear hb13 B12)
      | (go_at_call 32; have tok := B13; clear tok; refine (CRT.out _ ?_).mono ?_; exact B13.out; rintro e v14 ⟨rfl, hb14⟩; have B14 := Lib.hid (keepBelow B13.out hb14); clear hb14 B13)
      | (go_at_call 31; have tok := B14; clear tok; refine (CMC.out _ ?_).mono ?_; exact B14.out; rintro e v15 ⟨rfl, hb15⟩; have B15 := Lib.hid (keepBelow B14.out hb15); clear hb15 B14)
      | (go_at_call 28; have tok := B15; clear tok; refine (CBC.out _ ?_).mono ?_; exact B15.out; rintro e v16 ⟨rfl, hb16⟩; have B16 := Lib.hid (keepBelow B15.out hb16); clear hb16 B15)
      | (go_at_call 28; have tok := B16; clear tok; refine (CX.out _ ?_).mono ?_; exact B16.out; rintro e v17 ⟨rfl, hb17⟩; have B17 := Lib.hid (keepBelow B16.out hb17); clear hb17 B16)
      | (go_at_call 28; have tok := B17; clear tok; refine (CY.out _ ?_).mono ?_; exact B17.out; rintro e v18 ⟨rfl, hb18⟩; have B18 := Lib.hid (keepBelow B17.out hb18); clear hb18 B17))
  go_ret
  exact ⟨rfl, B18.out⟩
theorem group_walk (a b c : Int) (n m : Nat) (hn : n < 4294967296) (hm : m < 4294967296) (w : World) (hT : Tabs w) : Calls Tryd.prog 7 #[.int .i64 a, .int .i64 b, .int .i64 c, .int .u32 n, .int .u32 m] w fun e w' => e = .returned (.bool true) ∧ Below w.heap.size w w' := by
  by_cases ha : mem a
  · by_cases hb : mem b
    · by_cases hc : mem c
      · exact group_d a b c n m hn hm ha hb hc w hT
      · exact group_c a b c n m hn hm ha hb hc w hT
    · exact group_b a b c n m hn hm ha hb w hT
  · exact group_no a b c n m hn hm ha w hT
end Go.Proofs.YtklikkmnemooeaaDoor
