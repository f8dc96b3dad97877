/- member, secret, Valid, Times, Power, Inverse, Key, Shared. -/
import Derived.Test.YtklikkmnemooeaaDoorDD
namespace Go.Proofs.YtklikkmnemooeaaDoor
open Go.RowKit
/-- from 1 to Prime - 1 -/
def mem (a : Int) : Prop := 1 ≤ a ∧ a < 2305843009213691579
instance (a : Int) : Decidable (mem a) := by unfold mem; exact inferInstance
def sec (x : Int) : Prop := 1 ≤ x ∧ x < 1152921504606845789
instance (x : Int) : Decidable (sec x) := by unfold sec; exact inferInstance
/-- a power modulo Prime -/
def pw (a n : Int) : Nat := a.toNat ^ n.toNat % 2305843009213691579
def val (k : Int) : Prop := mem k ∧ 1 < k ∧ pw k 1152921504606845789 = 1
instance (k : Int) : Decidable (val k) := by unfold val; exact inferInstance
theorem pw_lt (a n : Int) : pw a n < 2305843009213691579 := Nat.mod_lt _ (by decide)
theorem member_any (a : Int) (w : World) : Calls Tryd.prog 55 #[.int .i64 a] w fun e w' => e = .returned (.bool (decide (mem a))) ∧ w' = w := by
  by_cases h1 : 1 ≤ a
  · by_cases h2 : a < 2305843009213691579
    · have HD := Lib.hid (show decide (mem a) = true from decide_eq_true ⟨h1, h2⟩)
      rw [HD.out]
      go_enter Tryd.func55, Tryd.ntmps55
      go_wp2_with fail
      go_ret
      exact ⟨rfl, rfl⟩
    · have HD := Lib.hid (show decide (mem a) = false from decide_eq_false fun h => h2 h.2)
      rw [HD.out]
      go_enter Tryd.func55, Tryd.ntmps55
      go_wp2_with fail
      go_ret
      exact ⟨rfl, rfl⟩
  · have HD := Lib.hid (show decide (mem a) = false from decide_eq_false fun h => h1 h.1)
    rw [HD.out]
    go_enter Tryd.func55, Tryd.ntmps55
    go_wp2_with fail
    go_ret
    exact ⟨rfl, rfl⟩
theorem secret_any (a : Int) (w : World) : Calls Tryd.prog 57 #[.int .i64 a] w fun e w' => e = .returned (.bool (decide (sec a))) ∧ w' = w := by
  by_cases h1 : 1 ≤ a
  · by_cases h2 : a < 1152921504606845789
    · have HD := Lib.hid (show decide (sec a) = true from decide_eq_true ⟨h1, h2⟩)
      rw [HD.out]
      go_enter Tryd.func57, Tryd.ntmps57
      go_wp2_with fail
      go_ret
      exact ⟨rfl, rfl⟩
    · have HD := Lib.hid (show decide (sec a) = false from decide_eq_false fun h => h2 h.2)
      rw [HD.out]
      go_enter Tryd.func57, Tryd.ntmps57
      go_wp2_with fail
      go_ret
      exact ⟨rfl, rfl⟩
  · have HD := Lib.hid (show decide (sec a) = false from decide_eq_false fun h => h1 h.1)
    rw [HD.out]
    go_enter Tryd.func57, Tryd.ntmps57
    go_wp2_with fail
    go_ret
    exact ⟨rfl, rfl⟩
/-- power, over whole numbers -/
theorem power_any (a n : Int) (ha : mem a) (h0 : 0 ≤ n) (hn : n < 9223372036854775808) (R : Nat) (hR : R = pw a n) (w : World) :
    Calls Tryd.prog 56 #[.int .i64 a, .int .i64 n] w fun e w' => e = .returned (.int .i64 R) ∧ Below w.heap.size w w' := by
  obtain ⟨x, rfl⟩ := Int.eq_ofNat_of_zero_le (show 0 ≤ a from Int.le_trans (by decide) ha.1)
  obtain ⟨y, rfl⟩ := Int.eq_ofNat_of_zero_le h0
  have h2 := ha.2
  exact power_told x y R (by omega) (by omega) hR w
theorem product_any (a b : Int) (ha : mem a) (hb : mem b) (R : Nat) (hR : R = a.toNat * b.toNat % 2305843009213691579) (w : World) :
    Calls Tryd.prog 58 #[.int .i64 a, .int .i64 b, .int .i64 2305843009213691579] w fun e w' => e = .returned (.int .i64 R) ∧ Below w.heap.size w w' := by
  obtain ⟨x, rfl⟩ := Int.eq_ofNat_of_zero_le (show 0 ≤ a from Int.le_trans (by decide) ha.1)
  obtain ⟨y, rfl⟩ := Int.eq_ofNat_of_zero_le (show 0 ≤ b from Int.le_trans (by decide) hb.1)
  have h1 := ha.2
  have h2 := hb.2
  exact product_told x y R (by omega) (by omega) hR w
set_option maxRecDepth 100000 in
theorem valid_any (k : Int) (w : World) : Calls Tryd.prog 22 #[.int .i64 k] w fun e w' => e = .returned (.bool (decide (val k))) ∧ Below w.heap.size w w' := by
  have HM := Lib.hid (fun W => member_any k W)
  by_cases h1 : 1 < k
  · by_cases h2 : k < 2305843009213691579
    · have hm : mem k := ⟨by omega, h2⟩
      rw [decide_eq_true hm] at HM
      obtain ⟨R, hR⟩ : ∃ R, R = pw k 1152921504606845789 := ⟨_, rfl⟩
      have HP := Lib.hid (fun W => power_any k 1152921504606845789 hm (by decide) (by decide) R hR W)
      by_cases h3 : R = 1
      · have HD := Lib.hid (show decide (val k) = true from decide_eq_true ⟨hm, h1, by rw [← hR]; exact h3⟩)
        rw [HD.out]
        have h4 : (R : Int) = 1 := by omega
        clear h3 hR hm
        go_enter Tryd.func22, Tryd.ntmps22
        go_wp2_with (first
          | (go_at_call 55; refine (HM.out _).mono ?_; rintro e v1 ⟨rfl, rfl⟩)
          | (go_at_call 56; refine (HP.out _).mono ?_; rintro e v2 ⟨rfl, hb2⟩; have B2 := Lib.hid hb2; clear hb2))
        go_ret
        exact ⟨rfl, B2.out⟩
      · have HD := Lib.hid (show decide (val k) = false from decide_eq_false fun h => h3 (by rw [hR]; exact h.2.2))
        rw [HD.out]
        have h4 : ¬ (R : Int) = 1 := by omega
        have h5 : ((R : Int) == 1) = false := by simpa using h4
        clear h3 hR hm
        go_enter Tryd.func22, Tryd.ntmps22
        go_wp2_with (first
          | (go_at_call 55; refine (HM.out _).mono ?_; rintro e v1 ⟨rfl, rfl⟩)
          | (go_at_call 56; refine (HP.out _).mono ?_; rintro e v2 ⟨rfl, hb2⟩; have B2 := Lib.hid hb2; clear hb2))
        go_ret
        exact ⟨rfl, B2.out⟩
    · have hm : ¬ mem k := fun h => h2 h.2
      rw [decide_eq_false hm] at HM
      have HD := Lib.hid (show decide (val k) = false from decide_eq_false fun h => hm h.1)
      rw [HD.out]
      clear hm
      go_enter Tryd.func22, Tryd.ntmps22
      go_wp2_with (go_at_call 55; refine (HM.out _).mono ?_; rintro e v1 ⟨rfl, rfl⟩)
      go_ret
      exact ⟨rfl, Below.refl _ _⟩
  · have HD := Lib.hid (show decide (val k) = false from decide_eq_false fun h => h1 h.2.1)
    rw [HD.out]
    go_enter Tryd.func22, Tryd.ntmps22
    go_wp2_with fail
    go_ret
    exact ⟨rfl, Below.refl _ _⟩
end Go.Proofs.YtklikkmnemooeaaDoor
