/- A word rotated to the right: the contract of digest.right and of the reference's right. For words below 2^32. -/
import Derived.Test.YtmblnacckboggaaDoorProg
import Derived.Test.YtmblnacckboggaaDoorS1
import Derived.WalkKit
import Derived.ProofKit
import Derived.Handy
import Derived.Lib.Hide
import Derived.Laws.BitsAllLaws
namespace Go.Proofs.YtmblnacckboggaaDoor
open Go.RowKit

theorem wrap32 (n : Int) : IntKind.u32.wrap n = n % 4294967296 := by simp [IntKind.wrap, IntKind.bits, IntKind.signed]
theorem rotr_lt {x n : Nat} (hx : x < 4294967296) : SH.rotr x n < 4294967296 := by
  unfold SH.rotr
  exact Nat.or_lt_two_pow (n := 32) (Nat.mod_lt _ (by decide)) (Nat.lt_of_le_of_lt (Nat.shiftRight_le x n) hx)
theorem rot_2 (x : Nat) (hx : x < 4294967296) : bits .or .u32 (IntKind.u32.wrap ((x : Int) * (1073741824 : Int))) ((x : Int) / (4 : Int)) = (SH.rotr x 2 : Nat) := by
  have e1 : IntKind.u32.wrap ((x : Int) * (1073741824 : Int)) = (((x <<< 30) % 4294967296 : Nat) : Int) := by
    rw [wrap32, Nat.shiftLeft_eq]; omega
  have e2 : (x : Int) / (4 : Int) = ((x >>> 2 : Nat) : Int) := by rw [Nat.shiftRight_eq_div_pow]; omega
  rw [e1, e2, u32_or_nat _ _ (Nat.mod_lt _ (by decide)) (Nat.lt_of_le_of_lt (Nat.shiftRight_le x 2) hx)]
  rfl
set_option maxHeartbeats 400000 in
theorem rotl_2 (x : Nat) (w : World) (hx : x < 4294967296) : Calls Tryd.prog 71 #[.int .u32 x, .int .i64 (-2)] w fun e w' => e = .returned (.int .u32 (SH.rotr x 2 : Nat)) ∧ w = w' := by
  have hr := Lib.hid (rot_2 x hx)
  have hb : bits .and .u64 (IntKind.u64.wrap (-2)) 31 = 30 := by decide +kernel
  go_enter Tryd.func71, Tryd.ntmps71
  go_wp2
  go_ret
  exact ⟨by rw [← hr.out]; rfl, rfl⟩
theorem right_2 (x : Nat) (w : World) (hx : x < 4294967296) : Calls Tryd.prog 66 #[.int .u32 x, .int .i64 2] w fun e w' => e = .returned (.int .u32 (SH.rotr x 2 : Nat)) ∧ w = w' := by
  go_enter Tryd.func66, Tryd.ntmps66
  go_wp2_with (go_at_call 71; refine (rotl_2 x _ hx).mono ?_; rintro e w' ⟨rfl, rfl⟩)
  go_ret
  exact ⟨rfl, rfl⟩
theorem rot_6 (x : Nat) (hx : x < 4294967296) : bits .or .u32 (IntKind.u32.wrap ((x : Int) * (67108864 : Int))) ((x : Int) / (64 : Int)) = (SH.rotr x 6 : Nat) := by
  have e1 : IntKind.u32.wrap ((x : Int) * (67108864 : Int)) = (((x <<< 26) % 4294967296 : Nat) : Int) := by
    rw [wrap32, Nat.shiftLeft_eq]; omega
  have e2 : (x : Int) / (64 : Int) = ((x >>> 6 : Nat) : Int) := by rw [Nat.shiftRight_eq_div_pow]; omega
  rw [e1, e2, u32_or_nat _ _ (Nat.mod_lt _ (by decide)) (Nat.lt_of_le_of_lt (Nat.shiftRight_le x 6) hx)]
  rfl
set_option maxHeartbeats 400000 in
theorem rotl_6 (x : Nat) (w : World) (hx : x < 4294967296) : Calls Tryd.prog 71 #[.int .u32 x, .int .i64 (-6)] w fun e w' => e = .returned (.int .u32 (SH.rotr x 6 : Nat)) ∧ w = w' := by
  have hr := Lib.hid (rot_6 x hx)
  have hb : bits .and .u64 (IntKind.u64.wrap (-6)) 31 = 26 := by decide +kernel
  go_enter Tryd.func71, Tryd.ntmps71
  go_wp2
  go_ret
  exact ⟨by rw [← hr.out]; rfl, rfl⟩
theorem right_6 (x : Nat) (w : World) (hx : x < 4294967296) : Calls Tryd.prog 66 #[.int .u32 x, .int .i64 6] w fun e w' => e = .returned (.int .u32 (SH.rotr x 6 : Nat)) ∧ w = w' := by
  go_enter Tryd.func66, Tryd.ntmps66
  go_wp2_with (go_at_call 71; refine (rotl_6 x _ hx).mono ?_; rintro e w' ⟨rfl, rfl⟩)
  go_ret
  exact ⟨rfl, rfl⟩
theorem rot_7 (x : Nat) (hx : x < 4294967296) : bits .or .u32 (IntKind.u32.wrap ((x : Int) * (33554432 : Int))) ((x : Int) / (128 : Int)) = (SH.rotr x 7 : Nat) := by
  have e1 : IntKind.u32.wrap ((x : Int) * (33554432 : Int)) = (((x <<< 25) % 4294967296 : Nat) : Int) := by
    rw [wrap32, Nat.shiftLeft_eq]; omega
  have e2 : (x : Int) / (128 : Int) = ((x >>> 7 : Nat) : Int) := by rw [Nat.shiftRight_eq_div_pow]; omega
  rw [e1, e2, u32_or_nat _ _ (Nat.mod_lt _ (by decide)) (Nat.lt_of_le_of_lt (Nat.shiftRight_le x 7) hx)]
  rfl
set_option maxHeartbeats 400000 in
theorem rotl_7 (x : Nat) (w : World) (hx : x < 4294967296) : Calls Tryd.prog 71 #[.int .u32 x, .int .i64 (-7)] w fun e w' => e = .returned (.int .u32 (SH.rotr x 7 : Nat)) ∧ w = w' := by
  have hr := Lib.hid (rot_7 x hx)
  have hb : bits .and .u64 (IntKind.u64.wrap (-7)) 31 = 25 := by decide +kernel
  go_enter Tryd.func71, Tryd.ntmps71
  go_wp2
  go_ret
  exact ⟨by rw [← hr.out]; rfl, rfl⟩
theorem right_7 (x : Nat) (w : World) (hx : x < 4294967296) : Calls Tryd.prog 66 #[.int .u32 x, .int .i64 7] w fun e w' => e = .returned (.int .u32 (SH.rotr x 7 : Nat)) ∧ w = w' := by
  go_enter Tryd.func66, Tryd.ntmps66
  go_wp2_with (go_at_call 71; refine (rotl_7 x _ hx).mono ?_; rintro e w' ⟨rfl, rfl⟩)
  go_ret
  exact ⟨rfl, rfl⟩
theorem rot_11 (x : Nat) (hx : x < 4294967296) : bits .or .u32 (IntKind.u32.wrap ((x : Int) * (2097152 : Int))) ((x : Int) / (2048 : Int)) = (SH.rotr x 11 : Nat) := by
  have e1 : IntKind.u32.wrap ((x : Int) * (2097152 : Int)) = (((x <<< 21) % 4294967296 : Nat) : Int) := by
    rw [wrap32, Nat.shiftLeft_eq]; omega
  have e2 : (x : Int) / (2048 : Int) = ((x >>> 11 : Nat) : Int) := by rw [Nat.shiftRight_eq_div_pow]; omega
  rw [e1, e2, u32_or_nat _ _ (Nat.mod_lt _ (by decide)) (Nat.lt_of_le_of_lt (Nat.shiftRight_le x 11) hx)]
  rfl
set_option maxHeartbeats 400000 in
theorem rotl_11 (x : Nat) (w : World) (hx : x < 4294967296) : Calls Tryd.prog 71 #[.int .u32 x, .int .i64 (-11)] w fun e w' => e = .returned (.int .u32 (SH.rotr x 11 : Nat)) ∧ w = w' := by
  have hr := Lib.hid (rot_11 x hx)
  have hb : bits .and .u64 (IntKind.u64.wrap (-11)) 31 = 21 := by decide +kernel
  go_enter Tryd.func71, Tryd.ntmps71
  go_wp2
  go_ret
  exact ⟨by rw [← hr.out]; rfl, rfl⟩
theorem right_11 (x : Nat) (w : World) (hx : x < 4294967296) : Calls Tryd.prog 66 #[.int .u32 x, .int .i64 11] w fun e w' => e = .returned (.int .u32 (SH.rotr x 11 : Nat)) ∧ w = w' := by
  go_enter Tryd.func66, Tryd.ntmps66
  go_wp2_with (go_at_call 71; refine (rotl_11 x _ hx).mono ?_; rintro e w' ⟨rfl, rfl⟩)
  go_ret
  exact ⟨rfl, rfl⟩
theorem rot_13 (x : Nat) (hx : x < 4294967296) : bits .or .u32 (IntKind.u32.wrap ((x : Int) * (524288 : Int))) ((x : Int) / (8192 : Int)) = (SH.rotr x 13 : Nat) := by
  have e1 : IntKind.u32.wrap ((x : Int) * (524288 : Int)) = (((x <<< 19) % 4294967296 : Nat) : Int) := by
    rw [wrap32, Nat.shiftLeft_eq]; omega
  have e2 : (x : Int) / (8192 : Int) = ((x >>> 13 : Nat) : Int) := by rw [Nat.shiftRight_eq_div_pow]; omega
  rw [e1, e2, u32_or_nat _ _ (Nat.mod_lt _ (by decide)) (Nat.lt_of_le_of_lt (Nat.shiftRight_le x 13) hx)]
  rfl
set_option maxHeartbeats 400000 in
theorem rotl_13 (x : Nat) (w : World) (hx : x < 4294967296) : Calls Tryd.prog 71 #[.int .u32 x, .int .i64 (-13)] w fun e w' => e = .returned (.int .u32 (SH.rotr x 13 : Nat)) ∧ w = w' := by
  have hr := Lib.hid (rot_13 x hx)
  have hb : bits .and .u64 (IntKind.u64.wrap (-13)) 31 = 19 := by decide +kernel
  go_enter Tryd.func71, Tryd.ntmps71
  go_wp2
  go_ret
  exact ⟨by rw [← hr.out]; rfl, rfl⟩
theorem right_13 (x : Nat) (w : World) (hx : x < 4294967296) : Calls Tryd.prog 66 #[.int .u32 x, .int .i64 13] w fun e w' => e = .returned (.int .u32 (SH.rotr x 13 : Nat)) ∧ w = w' := by
  go_enter Tryd.func66, Tryd.ntmps66
  go_wp2_with (go_at_call 71; refine (rotl_13 x _ hx).mono ?_; rintro e w' ⟨rfl, rfl⟩)
  go_ret
  exact ⟨rfl, rfl⟩
theorem rot_17 (x : Nat) (hx : x < 4294967296) : bits .or .u32 (IntKind.u32.wrap ((x : Int) * (32768 : Int))) ((x : Int) / (131072 : Int)) = (SH.rotr x 17 : Nat) := by
  have e1 : IntKind.u32.wrap ((x : Int) * (32768 : Int)) = (((x <<< 15) % 4294967296 : Nat) : Int) := by
    rw [wrap32, Nat.shiftLeft_eq]; omega
  have e2 : (x : Int) / (131072 : Int) = ((x >>> 17 : Nat) : Int) := by rw [Nat.shiftRight_eq_div_pow]; omega
  rw [e1, e2, u32_or_nat _ _ (Nat.mod_lt _ (by decide)) (Nat.lt_of_le_of_lt (Nat.shiftRight_le x 17) hx)]
  rfl
set_option maxHeartbeats 400000 in
theorem rotl_17 (x : Nat) (w : World) (hx : x < 4294967296) : Calls Tryd.prog 71 #[.int .u32 x, .int .i64 (-17)] w fun e w' => e = .returned (.int .u32 (SH.rotr x 17 : Nat)) ∧ w = w' := by
  have hr := Lib.hid (rot_17 x hx)
  have hb : bits .and .u64 (IntKind.u64.wrap (-17)) 31 = 15 := by decide +kernel
  go_enter Tryd.func71, Tryd.ntmps71
  go_wp2
  go_ret
  exact ⟨by rw [← hr.out]; rfl, rfl⟩
theorem right_17 (x : Nat) (w : World) (hx : x < 4294967296) : Calls Tryd.prog 66 #[.int .u32 x, .int .i64 17] w fun e w' => e = .returned (.int .u32 (SH.rotr x 17 : Nat)) ∧ w = w' := by
  go_enter Tryd.func66, Tryd.ntmps66
  go_wp2_with (go_at_call 71; refine (rotl_17 x _ hx).mono ?_; rintro e w' ⟨rfl, rfl⟩)
  go_ret
  exact ⟨rfl, rfl⟩
theorem rot_18 (x : Nat) (hx : x < 4294967296) : bits .or .u32 (IntKind.u32.wrap ((x : Int) * (16384 : Int))) ((x : Int) / (262144 : Int)) = (SH.rotr x 18 : Nat) := by
  have e1 : IntKind.u32.wrap ((x : Int) * (16384 : Int)) = (((x <<< 14) % 4294967296 : Nat) : Int) := by
    rw [wrap32, Nat.shiftLeft_eq]; omega
  have e2 : (x : Int) / (262144 : Int) = ((x >>> 18 : Nat) : Int) := by rw [Nat.shiftRight_eq_div_pow]; omega
  rw [e1, e2, u32_or_nat _ _ (Nat.mod_lt _ (by decide)) (Nat.lt_of_le_of_lt (Nat.shiftRight_le x 18) hx)]
  rfl
set_option maxHeartbeats 400000 in
theorem rotl_18 (x : Nat) (w : World) (hx : x < 4294967296) : Calls Tryd.prog 71 #[.int .u32 x, .int .i64 (-18)] w fun e w' => e = .returned (.int .u32 (SH.rotr x 18 : Nat)) ∧ w = w' := by
  have hr := Lib.hid (rot_18 x hx)
  have hb : bits .and .u64 (IntKind.u64.wrap (-18)) 31 = 14 := by decide +kernel
  go_enter Tryd.func71, Tryd.ntmps71
  go_wp2
  go_ret
  exact ⟨by rw [← hr.out]; rfl, rfl⟩
theorem right_18 (x : Nat) (w : World) (hx : x < 4294967296) : Calls Tryd.prog 66 #[.int .u32 x, .int .i64 18] w fun e w' => e = .returned (.int .u32 (SH.rotr x 18 : Nat)) ∧ w = w' := by
  go_enter Tryd.func66, Tryd.ntmps66
  go_wp2_with (go_at_call 71; refine (rotl_18 x _ hx).mono ?_; rintro e w' ⟨rfl, rfl⟩)
  go_ret
  exact ⟨rfl, rfl⟩
theorem rot_19 (x : Nat) (hx : x < 4294967296) : bits .or .u32 (IntKind.u32.wrap ((x : Int) * (8192 : Int))) ((x : Int) / (524288 : Int)) = (SH.rotr x 19 : Nat) := by
  have e1 : IntKind.u32.wrap ((x : Int) * (8192 : Int)) = (((x <<< 13) % 4294967296 : Nat) : Int) := by
    rw [wrap32, Nat.shiftLeft_eq]; omega
  have e2 : (x : Int) / (524288 : Int) = ((x >>> 19 : Nat) : Int) := by rw [Nat.shiftRight_eq_div_pow]; omega
  rw [e1, e2, u32_or_nat _ _ (Nat.mod_lt _ (by decide)) (Nat.lt_of_le_of_lt (Nat.shiftRight_le x 19) hx)]
  rfl
set_option maxHeartbeats 400000 in
theorem rotl_19 (x : Nat) (w : World) (hx : x < 4294967296) : Calls Tryd.prog 71 #[.int .u32 x, .int .i64 (-19)] w fun e w' => e = .returned (.int .u32 (SH.rotr x 19 : Nat)) ∧ w = w' := by
  have hr := Lib.hid (rot_19 x hx)
  have hb : bits .and .u64 (IntKind.u64.wrap (-19)) 31 = 13 := by decide +kernel
  go_enter Tryd.func71, Tryd.ntmps71
  go_wp2
  go_ret
  exact ⟨by rw [← hr.out]; rfl, rfl⟩
theorem right_19 (x : Nat) (w : World) (hx : x < 4294967296) : Calls Tryd.prog 66 #[.int .u32 x, .int .i64 19] w fun e w' => e = .returned (.int .u32 (SH.rotr x 19 : Nat)) ∧ w = w' := by
  go_enter Tryd.func66, Tryd.ntmps66
  go_wp2_with (go_at_call 71; refine (rotl_19 x _ hx).mono ?_; rintro e w' ⟨rfl, rfl⟩)
  go_ret
  exact ⟨rfl, rfl⟩
theorem rot_22 (x : Nat) (hx : x < 4294967296) : bits .or .u32 (IntKind.u32.wrap ((x : Int) * (1024 : Int))) ((x : Int) / (4194304 : Int)) = (SH.rotr x 22 : Nat) := by
  have e1 : IntKind.u32.wrap ((x : Int) * (1024 : Int)) = (((x <<< 10) % 4294967296 : Nat) : Int) := by
    rw [wrap32, Nat.shiftLeft_eq]; omega
  have e2 : (x : Int) / (4194304 : Int) = ((x >>> 22 : Nat) : Int) := by rw [Nat.shiftRight_eq_div_pow]; omega
  rw [e1, e2, u32_or_nat _ _ (Nat.mod_lt _ (by decide)) (Nat.lt_of_le_of_lt (Nat.shiftRight_le x 22) hx)]
  rfl
set_option maxHeartbeats 400000 in
theorem rotl_22 (x : Nat) (w : World) (hx : x < 4294967296) : Calls Tryd.prog 71 #[.int .u32 x, .int .i64 (-22)] w fun e w' => e = .returned (.int .u32 (SH.rotr x 22 : Nat)) ∧ w = w' := by
  have hr := Lib.hid (rot_22 x hx)
  have hb : bits .and .u64 (IntKind.u64.wrap (-22)) 31 = 10 := by decide +kernel
  go_enter Tryd.func71, Tryd.ntmps71
  go_wp2
  go_ret
  exact ⟨by rw [← hr.out]; rfl, rfl⟩
theorem right_22 (x : Nat) (w : World) (hx : x < 4294967296) : Calls Tryd.prog 66 #[.int .u32 x, .int .i64 22] w fun e w' => e = .returned (.int .u32 (SH.rotr x 22 : Nat)) ∧ w = w' := by
  go_enter Tryd.func66, Tryd.ntmps66
  go_wp2_with (go_at_call 71; refine (rotl_22 x _ hx).mono ?_; rintro e w' ⟨rfl, rfl⟩)
  go_ret
  exact ⟨rfl, rfl⟩
theorem rot_25 (x : Nat) (hx : x < 4294967296) : bits .or .u32 (IntKind.u32.wrap ((x : Int) * (128 : Int))) ((x : Int) / (33554432 : Int)) = (SH.rotr x 25 : Nat) := by
  have e1 : IntKind.u32.wrap ((x : Int) * (128 : Int)) = (((x <<< 7) % 4294967296 : Nat) : Int) := by
    rw [wrap32, Nat.shiftLeft_eq]; omega
  have e2 : (x : Int) / (33554432 : Int) = ((x >>> 25 : Nat) : Int) := by rw [Nat.shiftRight_eq_div_pow]; omega
  rw [e1, e2, u32_or_nat _ _ (Nat.mod_lt _ (by decide)) (Nat.lt_of_le_of_lt (Nat.shiftRight_le x 25) hx)]
  rfl
set_option maxHeartbeats 400000 in
theorem rotl_25 (x : Nat) (w : World) (hx : x < 4294967296) : Calls Tryd.prog 71 #[.int .u32 x, .int .i64 (-25)] w fun e w' => e = .returned (.int .u32 (SH.rotr x 25 : Nat)) ∧ w = w' := by
  have hr := Lib.hid (rot_25 x hx)
  have hb : bits .and .u64 (IntKind.u64.wrap (-25)) 31 = 7 := by decide +kernel
  go_enter Tryd.func71, Tryd.ntmps71
  go_wp2
  go_ret
  exact ⟨by rw [← hr.out]; rfl, rfl⟩
theorem right_25 (x : Nat) (w : World) (hx : x < 4294967296) : Calls Tryd.prog 66 #[.int .u32 x, .int .i64 25] w fun e w' => e = .returned (.int .u32 (SH.rotr x 25 : Nat)) ∧ w = w' := by
  go_enter Tryd.func66, Tryd.ntmps66
  go_wp2_with (go_at_call 71; refine (rotl_25 x _ hx).mono ?_; rintro e w' ⟨rfl, rfl⟩)
  go_ret
  exact ⟨rfl, rfl⟩
end Go.Proofs.YtmblnacckboggaaDoor
