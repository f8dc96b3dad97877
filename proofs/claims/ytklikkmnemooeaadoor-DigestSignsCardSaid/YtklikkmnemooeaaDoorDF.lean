/- The examples of the chapter: awake (func 11). -/
import Derived.Test.YtklikkmnemooeaaDoorDB
import Derived.Test.YtklikkmnemooeaaDoorDC
import Derived.Test.YtklikkmnemooeaaDoorDE
namespace Go.Proofs.YtklikkmnemooeaaDoor
open Go.RowKit
/-- powers by squaring -/
def pm : Nat → Nat → Nat → Nat → Nat
  | 0, _, _, y => y % 2305843009213691579
  | f + 1, x, z, y => pm f (x * x % 2305843009213691579) (z / 2) (if z % 2 = 1 then y * x % 2305843009213691579 else y)
theorem pm_eq (f : Nat) : ∀ x z y, z < 2 ^ f → pm f x z y = y * x ^ z % 2305843009213691579 := by
  induction f with
  | zero => intro x z y h; rw [Nat.pow_zero] at h; rw [show z = 0 by omega, Nat.pow_zero, Nat.mul_one]; rfl
  | succ f ih =>
    intro x z y h
    rw [Nat.pow_succ] at h
    rw [pm, ih _ _ _ (by omega)]
    by_cases ho : z % 2 = 1
    · rw [if_pos ho]; exact pow_odd _ _ _ _ ho
    · rw [if_neg ho]; exact pow_even _ _ _ _ (by omega)
theorem pw_pm (a n : Nat) (hn : n < 2 ^ 64) : pw a n = pm 64 a n 1 := by
  rw [pm_eq 64 a n 1 hn, Nat.one_mul]; rfl
set_option maxRecDepth 100000 in
theorem val4 : val 4 := ⟨by decide, by decide, by rw [show (4 : Int) = ((4 : Nat) : Int) from rfl, show (1152921504606845789 : Int) = ((1152921504606845789 : Nat) : Int) from rfl, pw_pm _ _ (by decide)]; decide +kernel⟩
set_option maxRecDepth 100000 in
theorem val2 : ¬ val 2 := fun h => by
  have h2 := h.2.2
  rw [show (2 : Int) = ((2 : Nat) : Int) from rfl, show (1152921504606845789 : Int) = ((1152921504606845789 : Nat) : Int) from rfl, pw_pm _ _ (by decide)] at h2
  exact absurd h2 (by decide +kernel)
def abcB : ByteArray := ⟨#[97, 98, 99]⟩
def keyB : ByteArray := ⟨#[107, 101, 121]⟩
def foxB : ByteArray := ⟨#[84, 104, 101, 32, 113, 117, 105, 99, 107, 32, 98, 114, 111, 119, 110, 32, 102, 111, 120, 32, 106, 117, 109, 112, 115, 32, 111, 118, 101, 114, 32, 116, 104, 101, 32, 108, 97, 122, 121, 32, 100, 111, 103]⟩
def nineB : ByteArray := ⟨#[49, 50, 51, 52, 53, 54, 55, 56, 57]⟩
set_option maxRecDepth 100000 in
theorem ex1 : hexL (SH.sum [97, 98, 99]) = [98, 97, 55, 56, 49, 54, 98, 102, 56, 102, 48, 49, 99, 102, 101, 97, 52, 49, 52, 49, 52, 48, 100, 101, 53, 100, 97, 101, 50, 50, 50, 51, 98, 48, 48, 51, 54, 49, 97, 51, 57, 54, 49, 55, 55, 97, 57, 99, 98, 52, 49, 48, 102, 102, 54, 49, 102, 50, 48, 48, 49, 53, 97, 100] := by decide +kernel
set_option maxRecDepth 100000 in
theorem ex2 : hexL (SH.mac [107, 101, 121] [84, 104, 101, 32, 113, 117, 105, 99, 107, 32, 98, 114, 111, 119, 110, 32, 102, 111, 120, 32, 106, 117, 109, 112, 115, 32, 111, 118, 101, 114, 32, 116, 104, 101, 32, 108, 97, 122, 121, 32, 100, 111, 103]) = [102, 55, 98, 99, 56, 51, 102, 52, 51, 48, 53, 51, 56, 52, 50, 52, 98, 49, 51, 50, 57, 56, 101, 54, 97, 97, 54, 102, 98, 49, 52, 51, 101, 102, 52, 100, 53, 57, 97, 49, 52, 57, 52, 54, 49, 55, 53, 57, 57, 55, 52, 55, 57, 100, 98, 99, 50, 100, 49, 97, 51, 99, 100, 56] := by decide +kernel
set_option maxRecDepth 100000 in
theorem ex3 : 4294967295 - crcs 4294967295 [49, 50, 51, 52, 53, 54, 55, 56, 57] 9 = 3421780262 := by decide +kernel
set_option maxRecDepth 100000 in
set_option maxHeartbeats 800000 in
theorem awake_any (w : World) (hT : Tabs w) : Calls Tryd.prog 11 #[] w fun e w' => e = .returned (.bool true) ∧ Below w.heap.size w w' := by
  have HT := Lib.hid hT
  obtain ⟨S1, hS1⟩ : ∃ S : ByteArray, S = ⟨(SH.sum abcB.data.toList).toArray⟩ := ⟨_, rfl⟩
  obtain ⟨S2, hS2⟩ : ∃ S : ByteArray, S = ⟨(SH.mac keyB.data.toList foxB.data.toList).toArray⟩ := ⟨_, rfl⟩
  obtain ⟨H1, hH1⟩ : ∃ S : ByteArray, S = ⟨(hexL S1.data.toList).toArray⟩ := ⟨_, rfl⟩
  obtain ⟨H2, hH2⟩ : ∃ S : ByteArray, S = ⟨(hexL S2.data.toList).toArray⟩ := ⟨_, rfl⟩
  have C14 : ∀ W, Tabs W → Calls Tryd.prog 14 #[.string ⟨#[97, 98, 99]⟩] W fun e w' => e = .returned (.string S1) ∧ Below W.heap.size W w' := fun W hW => by rw [hS1]; exact sum_any abcB (by decide) W hW
  have C17 : ∀ W, Tabs W → Calls Tryd.prog 17 #[.string ⟨#[107, 101, 121]⟩, .string ⟨#[84, 104, 101, 32, 113, 117, 105, 99, 107, 32, 98, 114, 111, 119, 110, 32, 102, 111, 120, 32, 106, 117, 109, 112, 115, 32, 111, 118, 101, 114, 32, 116, 104, 101, 32, 108, 97, 122, 121, 32, 100, 111, 103]⟩] W fun e w' => e = .returned (.string S2) ∧ Below W.heap.size W w' := fun W hW => by rw [hS2]; exact mac_any keyB foxB (by decide) (by decide) W hW
  have hs1 : S1.size = 32 := by rw [hS1, str_size]; exact sum_len _
  have hs2 : S2.size = 32 := by rw [hS2, str_size]; exact sum_len _
  have C34 : ∀ W, Calls Tryd.prog 34 #[.string S1] W fun e w' => e = .returned (.string H1) ∧ Below W.heap.size W w' := fun W => by rw [hH1]; exact hex_any S1 (by omega) W
  have C34b : ∀ W, Calls Tryd.prog 34 #[.string S2] W fun e w' => e = .returned (.string H2) ∧ Below W.heap.size W w' := fun W => by rw [hH2]; exact hex_any S2 (by omega) W
  have C20 : ∀ W, Calls Tryd.prog 20 #[.string ⟨#[49, 50, 51, 52, 53, 54, 55, 56, 57]⟩] W fun e w' => e = .returned (.int .i64 3421780262) ∧ Below W.heap.size W w' := fun W => by
    have h := crc_any nineB (by decide) W
    rw [show crcs 4294967295 nineB.data.toList nineB.size = crcs 4294967295 [49, 50, 51, 52, 53, 54, 55, 56, 57] 9 from rfl, ex3] at h
    exact h
  have C22 : ∀ W, Calls Tryd.prog 22 #[.int .i64 4] W fun e w' => e = .returned (.bool true) ∧ Below W.heap.size W w' := fun W => by
    have h := valid_any 4 W
    rw [decide_eq_true val4] at h
    exact h
  have C22b : ∀ W, Calls Tryd.prog 22 #[.int .i64 2] W fun e w' => e = .returned (.bool false) ∧ Below W.heap.size W w' := fun W => by
    have h := valid_any 2 W
    rw [decide_eq_false val2] at h
    exact h
  have e1 : H1 = ⟨#[98, 97, 55, 56, 49, 54, 98, 102, 56, 102, 48, 49, 99, 102, 101, 97, 52, 49, 52, 49, 52, 48, 100, 101, 53, 100, 97, 101, 50, 50, 50, 51, 98, 48, 48, 51, 54, 49, 97, 51, 57, 54, 49, 55, 55, 97, 57, 99, 98, 52, 49, 48, 102, 102, 54, 49, 102, 50, 48, 48, 49, 53, 97, 100]⟩ := by rw [hH1, hS1, str_list, show abcB.data.toList = [97, 98, 99] from rfl, ex1]
  have e2 : H2 = ⟨#[102, 55, 98, 99, 56, 51, 102, 52, 51, 48, 53, 51, 56, 52, 50, 52, 98, 49, 51, 50, 57, 56, 101, 54, 97, 97, 54, 102, 98, 49, 52, 51, 101, 102, 52, 100, 53, 57, 97, 49, 52, 57, 52, 54, 49, 55, 53, 57, 57, 55, 52, 55, 57, 100, 98, 99, 50, 100, 49, 97, 51, 99, 100, 56]⟩ := by rw [hH2, hS2, str_list, show keyB.data.toList = [107, 101, 121] from rfl, show foxB.data.toList = [84, 104, 101, 32, 113, 117, 105, 99, 107, 32, 98, 114, 111, 119, 110, 32, 102, 111, 120, 32, 106, 117, 109, 112, 115, 32, 111, 118, 101, 114, 32, 116, 104, 101, 32, 108, 97, 122, 121, 32, 100, 111, 103] from rfl, ex2]
  have K14 := Lib.hid C14
  have K17 := Lib.hid C17
  have K34 := Lib.hid C34
  have K34b := Lib.hid C34b
  have K20 := Lib.hid C20
  have K22 := Lib.hid C22
  have K22b := Lib.hid C22b
  clear C14 C17 C34 C34b C20 C22 C22b hS1 hS2 hH1 hH2 hT hs1 hs2
  subst e1 e2
  go_enter Tryd.func11, Tryd.ntmps11
  go_wp2_with (first
    | (go_at_call 22; have tok := B6; clear tok; refine (K22b.out _).mono ?_; rintro e v7 ⟨rfl, hb7⟩; have B7 := Lib.hid (keepBelow B6.out hb7); clear hb7)
    | (go_at_call 22; refine (K22.out _).mono ?_; rintro e v6 ⟨rfl, hb6⟩; have B6 := Lib.hid (keepBelow B5.out hb6); clear hb6)
    | (go_at_call 20; refine (K20.out _).mono ?_; rintro e v5 ⟨rfl, hb5⟩; have B5 := Lib.hid (keepBelow B4.out hb5); clear hb5)
    | (go_at_call 34; have tok := B3; clear tok; refine (K34b.out _).mono ?_; rintro e v4 ⟨rfl, hb4⟩; have B4 := Lib.hid (keepBelow B3.out hb4); clear hb4)
    | (go_at_call 17; refine (K17.out _ (HT.out.keep B2.out)).mono ?_; rintro e v3 ⟨rfl, hb3⟩; have B3 := Lib.hid (keepBelow B2.out hb3); clear hb3)
    | (go_at_call 34; refine (K34.out _).mono ?_; rintro e v2 ⟨rfl, hb2⟩; have B2 := Lib.hid (keepBelow B1.out hb2); clear hb2)
    | (go_at_call 14; refine (K14.out _ HT.out).mono ?_; rintro e v1 ⟨rfl, hb1⟩; have B1 := Lib.hid hb1; clear hb1))
  go_ret
  exact ⟨rfl, B7.out⟩
end Go.Proofs.YtklikkmnemooeaaDoor
