/- The reference's right (func 53), start (func 51), constants (func 52), Bytes (func 50). -/
import Derived.Test.YtmblnacckboggaaDoorDA
import Derived.Test.YtmblnacckboggaaDoorD6
namespace Go.Proofs.YtmblnacckboggaaDoor
open Go.RowKit
theorem rrot_2 (x : Nat) (hx : x < 4294967296) : bits .or .u32 ((x : Int) / (4 : Int)) (IntKind.u32.wrap ((x : Int) * (1073741824 : Int))) = (SH.rotr x 2 : Nat) := by
  have e1 : IntKind.u32.wrap ((x : Int) * (1073741824 : Int)) = (((x <<< 30) % 4294967296 : Nat) : Int) := by
    rw [wrap32, Nat.shiftLeft_eq]; omega
  have e2 : (x : Int) / (4 : Int) = ((x >>> 2 : Nat) : Int) := by rw [Nat.shiftRight_eq_div_pow]; omega
  rw [e1, e2, u32_or_nat _ _ (Nat.lt_of_le_of_lt (Nat.shiftRight_le x 2) hx) (Nat.mod_lt _ (by decide)), Nat.or_comm]
  rfl
set_option maxHeartbeats 400000 in
theorem rright_2 (x : Nat) (w : World) (hx : x < 4294967296) : Calls Tryd.prog 60 #[.int .u32 x, .int .i64 2] w fun e w' => e = .returned (.int .u32 (SH.rotr x 2 : Nat)) ∧ ∃ m, w' = w.drewN m := by
  have hr := Lib.hid (rrot_2 x hx)
  have k1 : IntKind.i64.wrap (32 - 2) = 30 := by decide
  go_enter Tryd.func60, Tryd.ntmps60
  go_wp2_with fail
  go_quiet (fail)
  go_wp2_with fail
  go_ret
  exact ⟨by rw [← hr.out]; rfl, _, rfl⟩
theorem rrot_6 (x : Nat) (hx : x < 4294967296) : bits .or .u32 ((x : Int) / (64 : Int)) (IntKind.u32.wrap ((x : Int) * (67108864 : Int))) = (SH.rotr x 6 : Nat) := by
  have e1 : IntKind.u32.wrap ((x : Int) * (67108864 : Int)) = (((x <<< 26) % 4294967296 : Nat) : Int) := by
    rw [wrap32, Nat.shiftLeft_eq]; omega
  have e2 : (x : Int) / (64 : Int) = ((x >>> 6 : Nat) : Int) := by rw [Nat.shiftRight_eq_div_pow]; omega
  rw [e1, e2, u32_or_nat _ _ (Nat.lt_of_le_of_lt (Nat.shiftRight_le x 6) hx) (Nat.mod_lt _ (by decide)), Nat.or_comm]
  rfl
set_option maxHeartbeats 400000 in
theorem rright_6 (x : Nat) (w : World) (hx : x < 4294967296) : Calls Tryd.prog 60 #[.int .u32 x, .int .i64 6] w fun e w' => e = .returned (.int .u32 (SH.rotr x 6 : Nat)) ∧ ∃ m, w' = w.drewN m := by
  have hr := Lib.hid (rrot_6 x hx)
  have k1 : IntKind.i64.wrap (32 - 6) = 26 := by decide
  go_enter Tryd.func60, Tryd.ntmps60
  go_wp2_with fail
  go_quiet (fail)
  go_wp2_with fail
  go_ret
  exact ⟨by rw [← hr.out]; rfl, _, rfl⟩
theorem rrot_7 (x : Nat) (hx : x < 4294967296) : bits .or .u32 ((x : Int) / (128 : Int)) (IntKind.u32.wrap ((x : Int) * (33554432 : Int))) = (SH.rotr x 7 : Nat) := by
  have e1 : IntKind.u32.wrap ((x : Int) * (33554432 : Int)) = (((x <<< 25) % 4294967296 : Nat) : Int) := by
    rw [wrap32, Nat.shiftLeft_eq]; omega
  have e2 : (x : Int) / (128 : Int) = ((x >>> 7 : Nat) : Int) := by rw [Nat.shiftRight_eq_div_pow]; omega
  rw [e1, e2, u32_or_nat _ _ (Nat.lt_of_le_of_lt (Nat.shiftRight_le x 7) hx) (Nat.mod_lt _ (by decide)), Nat.or_comm]
  rfl
set_option maxHeartbeats 400000 in
theorem rright_7 (x : Nat) (w : World) (hx : x < 4294967296) : Calls Tryd.prog 60 #[.int .u32 x, .int .i64 7] w fun e w' => e = .returned (.int .u32 (SH.rotr x 7 : Nat)) ∧ ∃ m, w' = w.drewN m := by
  have hr := Lib.hid (rrot_7 x hx)
  have k1 : IntKind.i64.wrap (32 - 7) = 25 := by decide
  go_enter Tryd.func60, Tryd.ntmps60
  go_wp2_with fail
  go_quiet (fail)
  go_wp2_with fail
  go_ret
  exact ⟨by rw [← hr.out]; rfl, _, rfl⟩
theorem rrot_11 (x : Nat) (hx : x < 4294967296) : bits .or .u32 ((x : Int) / (2048 : Int)) (IntKind.u32.wrap ((x : Int) * (2097152 : Int))) = (SH.rotr x 11 : Nat) := by
  have e1 : IntKind.u32.wrap ((x : Int) * (2097152 : Int)) = (((x <<< 21) % 4294967296 : Nat) : Int) := by
    rw [wrap32, Nat.shiftLeft_eq]; omega
  have e2 : (x : Int) / (2048 : Int) = ((x >>> 11 : Nat) : Int) := by rw [Nat.shiftRight_eq_div_pow]; omega
  rw [e1, e2, u32_or_nat _ _ (Nat.lt_of_le_of_lt (Nat.shiftRight_le x 11) hx) (Nat.mod_lt _ (by decide)), Nat.or_comm]
  rfl
set_option maxHeartbeats 400000 in
theorem rright_11 (x : Nat) (w : World) (hx : x < 4294967296) : Calls Tryd.prog 60 #[.int .u32 x, .int .i64 11] w fun e w' => e = .returned (.int .u32 (SH.rotr x 11 : Nat)) ∧ ∃ m, w' = w.drewN m := by
  have hr := Lib.hid (rrot_11 x hx)
  have k1 : IntKind.i64.wrap (32 - 11) = 21 := by decide
  go_enter Tryd.func60, Tryd.ntmps60
  go_wp2_with fail
  go_quiet (fail)
  go_wp2_with fail
  go_ret
  exact ⟨by rw [← hr.out]; rfl, _, rfl⟩
theorem rrot_13 (x : Nat) (hx : x < 4294967296) : bits .or .u32 ((x : Int) / (8192 : Int)) (IntKind.u32.wrap ((x : Int) * (524288 : Int))) = (SH.rotr x 13 : Nat) := by
  have e1 : IntKind.u32.wrap ((x : Int) * (524288 : Int)) = (((x <<< 19) % 4294967296 : Nat) : Int) := by
    rw [wrap32, Nat.shiftLeft_eq]; omega
  have e2 : (x : Int) / (8192 : Int) = ((x >>> 13 : Nat) : Int) := by rw [Nat.shiftRight_eq_div_pow]; omega
  rw [e1, e2, u32_or_nat _ _ (Nat.lt_of_le_of_lt (Nat.shiftRight_le x 13) hx) (Nat.mod_lt _ (by decide)), Nat.or_comm]
  rfl
set_option maxHeartbeats 400000 in
theorem rright_13 (x : Nat) (w : World) (hx : x < 4294967296) : Calls Tryd.prog 60 #[.int .u32 x, .int .i64 13] w fun e w' => e = .returned (.int .u32 (SH.rotr x 13 : Nat)) ∧ ∃ m, w' = w.drewN m := by
  have hr := Lib.hid (rrot_13 x hx)
  have k1 : IntKind.i64.wrap (32 - 13) = 19 := by decide
  go_enter Tryd.func60, Tryd.ntmps60
  go_wp2_with fail
  go_quiet (fail)
  go_wp2_with fail
  go_ret
  exact ⟨by rw [← hr.out]; rfl, _, rfl⟩
theorem rrot_17 (x : Nat) (hx : x < 4294967296) : bits .or .u32 ((x : Int) / (131072 : Int)) (IntKind.u32.wrap ((x : Int) * (32768 : Int))) = (SH.rotr x 17 : Nat) := by
  have e1 : IntKind.u32.wrap ((x : Int) * (32768 : Int)) = (((x <<< 15) % 4294967296 : Nat) : Int) := by
    rw [wrap32, Nat.shiftLeft_eq]; omega
  have e2 : (x : Int) / (131072 : Int) = ((x >>> 17 : Nat) : Int) := by rw [Nat.shiftRight_eq_div_pow]; omega
  rw [e1, e2, u32_or_nat _ _ (Nat.lt_of_le_of_lt (Nat.shiftRight_le x 17) hx) (Nat.mod_lt _ (by decide)), Nat.or_comm]
  rfl
set_option maxHeartbeats 400000 in
theorem rright_17 (x : Nat) (w : World) (hx : x < 4294967296) : Calls Tryd.prog 60 #[.int .u32 x, .int .i64 17] w fun e w' => e = .returned (.int .u32 (SH.rotr x 17 : Nat)) ∧ ∃ m, w' = w.drewN m := by
  have hr := Lib.hid (rrot_17 x hx)
  have k1 : IntKind.i64.wrap (32 - 17) = 15 := by decide
  go_enter Tryd.func60, Tryd.ntmps60
  go_wp2_with fail
  go_quiet (fail)
  go_wp2_with fail
  go_ret
  exact ⟨by rw [← hr.out]; rfl, _, rfl⟩
theorem rrot_18 (x : Nat) (hx : x < 4294967296) : bits .or .u32 ((x : Int) / (262144 : Int)) (IntKind.u32.wrap ((x : Int) * (16384 : Int))) = (SH.rotr x 18 : Nat) := by
  have e1 : IntKind.u32.wrap ((x : Int) * (16384 : Int)) = (((x <<< 14) % 4294967296 : Nat) : Int) := by
    rw [wrap32, Nat.shiftLeft_eq]; omega
  have e2 : (x : Int) / (262144 : Int) = ((x >>> 18 : Nat) : Int) := by rw [Nat.shiftRight_eq_div_pow]; omega
  rw [e1, e2, u32_or_nat _ _ (Nat.lt_of_le_of_lt (Nat.shiftRight_le x 18) hx) (Nat.mod_lt _ (by decide)), Nat.or_comm]
  rfl
set_option maxHeartbeats 400000 in
theorem rright_18 (x : Nat) (w : World) (hx : x < 4294967296) : Calls Tryd.prog 60 #[.int .u32 x, .int .i64 18] w fun e w' => e = .returned (.int .u32 (SH.rotr x 18 : Nat)) ∧ ∃ m, w' = w.drewN m := by
  have hr := Lib.hid (rrot_18 x hx)
  have k1 : IntKind.i64.wrap (32 - 18) = 14 := by decide
  go_enter Tryd.func60, Tryd.ntmps60
  go_wp2_with fail
  go_quiet (fail)
  go_wp2_with fail
  go_ret
  exact ⟨by rw [← hr.out]; rfl, _, rfl⟩
theorem rrot_19 (x : Nat) (hx : x < 4294967296) : bits .or .u32 ((x : Int) / (524288 : Int)) (IntKind.u32.wrap ((x : Int) * (8192 : Int))) = (SH.rotr x 19 : Nat) := by
  have e1 : IntKind.u32.wrap ((x : Int) * (8192 : Int)) = (((x <<< 13) % 4294967296 : Nat) : Int) := by
    rw [wrap32, Nat.shiftLeft_eq]; omega
  have e2 : (x : Int) / (524288 : Int) = ((x >>> 19 : Nat) : Int) := by rw [Nat.shiftRight_eq_div_pow]; omega
  rw [e1, e2, u32_or_nat _ _ (Nat.lt_of_le_of_lt (Nat.shiftRight_le x 19) hx) (Nat.mod_lt _ (by decide)), Nat.or_comm]
  rfl
set_option maxHeartbeats 400000 in
theorem rright_19 (x : Nat) (w : World) (hx : x < 4294967296) : Calls Tryd.prog 60 #[.int .u32 x, .int .i64 19] w fun e w' => e = .returned (.int .u32 (SH.rotr x 19 : Nat)) ∧ ∃ m, w' = w.drewN m := by
  have hr := Lib.hid (rrot_19 x hx)
  have k1 : IntKind.i64.wrap (32 - 19) = 13 := by decide
  go_enter Tryd.func60, Tryd.ntmps60
  go_wp2_with fail
  go_quiet (fail)
  go_wp2_with fail
  go_ret
  exact ⟨by rw [← hr.out]; rfl, _, rfl⟩
theorem rrot_22 (x : Nat) (hx : x < 4294967296) : bits .or .u32 ((x : Int) / (4194304 : Int)) (IntKind.u32.wrap ((x : Int) * (1024 : Int))) = (SH.rotr x 22 : Nat) := by
  have e1 : IntKind.u32.wrap ((x : Int) * (1024 : Int)) = (((x <<< 10) % 4294967296 : Nat) : Int) := by
    rw [wrap32, Nat.shiftLeft_eq]; omega
  have e2 : (x : Int) / (4194304 : Int) = ((x >>> 22 : Nat) : Int) := by rw [Nat.shiftRight_eq_div_pow]; omega
  rw [e1, e2, u32_or_nat _ _ (Nat.lt_of_le_of_lt (Nat.shiftRight_le x 22) hx) (Nat.mod_lt _ (by decide)), Nat.or_comm]
  rfl
set_option maxHeartbeats 400000 in
theorem rright_22 (x : Nat) (w : World) (hx : x < 4294967296) : Calls Tryd.prog 60 #[.int .u32 x, .int .i64 22] w fun e w' => e = .returned (.int .u32 (SH.rotr x 22 : Nat)) ∧ ∃ m, w' = w.drewN m := by
  have hr := Lib.hid (rrot_22 x hx)
  have k1 : IntKind.i64.wrap (32 - 22) = 10 := by decide
  go_enter Tryd.func60, Tryd.ntmps60
  go_wp2_with fail
  go_quiet (fail)
  go_wp2_with fail
  go_ret
  exact ⟨by rw [← hr.out]; rfl, _, rfl⟩
theorem rrot_25 (x : Nat) (hx : x < 4294967296) : bits .or .u32 ((x : Int) / (33554432 : Int)) (IntKind.u32.wrap ((x : Int) * (128 : Int))) = (SH.rotr x 25 : Nat) := by
  have e1 : IntKind.u32.wrap ((x : Int) * (128 : Int)) = (((x <<< 7) % 4294967296 : Nat) : Int) := by
    rw [wrap32, Nat.shiftLeft_eq]; omega
  have e2 : (x : Int) / (33554432 : Int) = ((x >>> 25 : Nat) : Int) := by rw [Nat.shiftRight_eq_div_pow]; omega
  rw [e1, e2, u32_or_nat _ _ (Nat.lt_of_le_of_lt (Nat.shiftRight_le x 25) hx) (Nat.mod_lt _ (by decide)), Nat.or_comm]
  rfl
set_option maxHeartbeats 400000 in
theorem rright_25 (x : Nat) (w : World) (hx : x < 4294967296) : Calls Tryd.prog 60 #[.int .u32 x, .int .i64 25] w fun e w' => e = .returned (.int .u32 (SH.rotr x 25 : Nat)) ∧ ∃ m, w' = w.drewN m := by
  have hr := Lib.hid (rrot_25 x hx)
  have k1 : IntKind.i64.wrap (32 - 25) = 7 := by decide
  go_enter Tryd.func60, Tryd.ntmps60
  go_wp2_with fail
  go_quiet (fail)
  go_wp2_with fail
  go_ret
  exact ⟨by rw [← hr.out]; rfl, _, rfl⟩
theorem start_any (w : World) : Calls Tryd.prog 58 #[] w fun e w' => e = .returned (.slice (some ⟨w.heap.size, 0, none⟩) 8 8) ∧ Blk w' w.heap.size 105 rootsC ∧ Below w.heap.size w w' := by
  go_enter Tryd.func58, Tryd.ntmps58
  go_wp2_with fail
  go_ret
  exact ⟨rfl, Blk.new w 105 rootsC, (Below.refl _ _).alloc (Nat.le_refl _) _⟩
set_option maxRecDepth 100000 in
theorem consts_any (w : World) : Calls Tryd.prog 59 #[] w fun e w' => e = .returned (.slice (some ⟨w.heap.size, 0, none⟩) 64 64) ∧ Blk w' w.heap.size 105 cubesC ∧ Below w.heap.size w w' := by
  go_enter Tryd.func59, Tryd.ntmps59
  go_wp2_with fail
  go_ret
  exact ⟨rfl, Blk.new w 105 cubesC, (Below.refl _ _).alloc (Nat.le_refl _) _⟩
def tailC4 (n u : Nat) : List Value := List.replicate (4 - u) (.int .u8 0) ++ byteC ((SH.bytes4 n).drop (4 - u))
theorem tail_step4 (n u : Nat) (hu : u < 4) : (tailC4 n u).set (3 - u) (.int .u8 ((n : Int) / 2 ^ (8 * u) % 256)) = tailC4 n (u + 1) := by
  rw [show (n : Int) / 2 ^ (8 * u) % 256 = ((n / 2 ^ (8 * u) % 256 : Nat) : Int) by simp]
  have : u = 0 ∨ u = 1 ∨ u = 2 ∨ u = 3 := by omega
  rcases this with rfl | rfl | rfl | rfl <;> simp [tailC4, byteC, SH.bytes4]
theorem tail_len4 (n u : Nat) (hu : u ≤ 4) : (tailC4 n u).length = 4 := by
  have : (SH.bytes4 n).length = 4 := rfl
  simp only [tailC4, byteC, List.length_append, List.length_replicate, List.length_map, List.length_drop, this]
  omega
set_option maxRecDepth 100000 in
theorem Bytes4_any (n : Nat) (w : World) :
    Calls Tryd.prog 33 #[.int .i64 n, .int .i64 4] w fun e w' => e = .returned (.string ⟨(SH.bytes4 n).toArray⟩) ∧ Below w.heap.size w w' := by
  have hmk : ∀ w : World, (Instr.makeSlice 29 (.int .i64 4) (.int .i64 4)).run Tryd.prog w = .ok (.slice (some ⟨w.heap.size, 0, none⟩) 4 4) (w.alloc (.cells #[.int .u8 0, .int .u8 0, .int .u8 0, .int .u8 0] 5)) := fun w => by kernel_rfl
  go_enter Tryd.func33, Tryd.ntmps33
  go_wp2_with fail
  clear hmk
  have hS0 : Blk (w.alloc (Obj.cells #[.int .u8 0, .int .u8 0, .int .u8 0, .int .u8 0] 5)) w.heap.size 5 (tailC4 n 0) := Blk.new w 5 [_, _, _, _]
  go_loopw [6] (fun i wr => ∃ u : Nat, u ≤ 4 ∧ i = .int .i64 u ∧ Blk wr w.heap.size 5 (tailC4 n u) ∧ Below w.heap.size w wr) (fun i _ => 4 - (intOf i).toNat)
  case atStart => exact ⟨0, by omega, rfl, hS0, (Below.refl _ _).alloc (Nat.le_refl _) _⟩
  case round =>
    obtain ⟨u, hu, rfl, hS, hB⟩ := hrel
    by_cases hlt : u < 4
    · have hc := hS.cell (3 - u)
      have hf := hS.frozen (3 - u)
      have hst := tail_step4 n u hlt
      have HSS := Lib.hid hS
      have HBB := Lib.hid hB
      have HST := Lib.hid hst
      obtain ⟨v, hv⟩ : ∃ v, (tailC4 n u)[3 - u]? = some v := ⟨_, List.getElem?_eq_getElem (by rw [tail_len4 n u hu]; omega)⟩
      rw [hv] at hc
      clear hS hB hst hv
      have p1 : IntKind.i64.wrap (8 * (u : Int)) = 8 * u := IntWalk.i64_in _ (by omega)
      have p2 : IntKind.i64.wrap (4 - 1 - (u : Int)) = 4 - 1 - u := IntWalk.i64_in _ (by omega)
      have p2b : IntKind.i64.wrap (3 - (u : Int)) = 3 - u := IntWalk.i64_in _ (by omega)
      have p3 : (0 : Int) ≤ 8 * u := by omega
      have p4 : (8 * (u : Int)).toNat = 8 * u := by omega
      have p5 : (0 : Int) ≤ 3 - u := by omega
      have p6 : (3 : Int) - u < 4 := by omega
      have p7 : (u : Int) < 4 := by omega
      have p8 : ((3 : Int) - u).toNat = 3 - u := by omega
      go_wp2_with fail
      have hS2 := HSS.out.set_ (3 - u) (.int .u8 ((n : Int) / 2 ^ (8 * u) % 256))
      rw [HST.out] at hS2
      exact ⟨⟨u + 1, by omega, rfl, hS2, HBB.out.setCell (Nat.le_refl _) _⟩, by simp [intOf]; omega⟩
    · obtain rfl : u = 4 := by omega
      have hcv : (convert 29 9 (.slice (some ⟨w.heap.size, 0, none⟩) 4 4)).run Tryd.prog wr = .ok (.string ⟨(SH.bytes4 n).toArray⟩) wr := by
        refine run_convert_bytes_back wr 29 9 5 ⟨w.heap.size, 0, none⟩ 4 (SH.bytes4 n) Tryd.underlying29 Tryd.underlying5 Tryd.underlying9 (fun j hj => ?_)
        rw [Addr.add_mid]
        refine (hS.cell (0 + j)).trans ?_
        simp only [Nat.zero_add, tailC4, byteC, Nat.sub_self, List.replicate_zero, List.nil_append, List.drop_zero]
        rw [List.getElem?_map, List.getElem?_eq_getElem hj]
        rfl
      have HBB := Lib.hid hB
      clear hS hB
      go_wp2_with fail
      go_ret
      exact ⟨rfl, HBB.out⟩
def tailC8 (n u : Nat) : List Value := List.replicate (8 - u) (.int .u8 0) ++ byteC ((SH.bytes8 n).drop (8 - u))
theorem tail_step8 (n u : Nat) (hu : u < 8) : (tailC8 n u).set (7 - u) (.int .u8 ((n : Int) / 2 ^ (8 * u) % 256)) = tailC8 n (u + 1) := by
  rw [show (n : Int) / 2 ^ (8 * u) % 256 = ((n / 2 ^ (8 * u) % 256 : Nat) : Int) by simp]
  have : u = 0 ∨ u = 1 ∨ u = 2 ∨ u = 3 ∨ u = 4 ∨ u = 5 ∨ u = 6 ∨ u = 7 := by omega
  rcases this with rfl | rfl | rfl | rfl | rfl | rfl | rfl | rfl <;> simp [tailC8, byteC, SH.bytes8, SH.bytes4, Nat.div_div_eq_div_mul]
theorem tail_len8 (n u : Nat) (hu : u ≤ 8) : (tailC8 n u).length = 8 := by
  have : (SH.bytes8 n).length = 8 := rfl
  simp only [tailC8, byteC, List.length_append, List.length_replicate, List.length_map, List.length_drop, this]
  omega
set_option maxRecDepth 100000 in
theorem Bytes8_any (n : Nat) (w : World) :
    Calls Tryd.prog 33 #[.int .i64 n, .int .i64 8] w fun e w' => e = .returned (.string ⟨(SH.bytes8 n).toArray⟩) ∧ Below w.heap.size w w' := by
  have hmk : ∀ w : World, (Instr.makeSlice 29 (.int .i64 8) (.int .i64 8)).run Tryd.prog w = .ok (.slice (some ⟨w.heap.size, 0, none⟩) 8 8) (w.alloc (.cells #[.int .u8 0, .int .u8 0, .int .u8 0, .int .u8 0, .int .u8 0, .int .u8 0, .int .u8 0, .int .u8 0] 5)) := fun w => by kernel_rfl
  go_enter Tryd.func33, Tryd.ntmps33
  go_wp2_with fail
  clear hmk
  have hS0 : Blk (w.alloc (Obj.cells #[.int .u8 0, .int .u8 0, .int .u8 0, .int .u8 0, .int .u8 0, .int .u8 0, .int .u8 0, .int .u8 0] 5)) w.heap.size 5 (tailC8 n 0) := Blk.new w 5 [_, _, _, _, _, _, _, _]
  go_loopw [6] (fun i wr => ∃ u : Nat, u ≤ 8 ∧ i = .int .i64 u ∧ Blk wr w.heap.size 5 (tailC8 n u) ∧ Below w.heap.size w wr) (fun i _ => 8 - (intOf i).toNat)
  case atStart => exact ⟨0, by omega, rfl, hS0, (Below.refl _ _).alloc (Nat.le_refl _) _⟩
  case round =>
    obtain ⟨u, hu, rfl, hS, hB⟩ := hrel
    by_cases hlt : u < 8
    · have hc := hS.cell (7 - u)
      have hf := hS.frozen (7 - u)
      have hst := tail_step8 n u hlt
      have HSS := Lib.hid hS
      have HBB := Lib.hid hB
      have HST := Lib.hid hst
      obtain ⟨v, hv⟩ : ∃ v, (tailC8 n u)[7 - u]? = some v := ⟨_, List.getElem?_eq_getElem (by rw [tail_len8 n u hu]; omega)⟩
      rw [hv] at hc
      clear hS hB hst hv
      have p1 : IntKind.i64.wrap (8 * (u : Int)) = 8 * u := IntWalk.i64_in _ (by omega)
      have p2 : IntKind.i64.wrap (8 - 1 - (u : Int)) = 8 - 1 - u := IntWalk.i64_in _ (by omega)
      have p2b : IntKind.i64.wrap (7 - (u : Int)) = 7 - u := IntWalk.i64_in _ (by omega)
      have p3 : (0 : Int) ≤ 8 * u := by omega
      have p4 : (8 * (u : Int)).toNat = 8 * u := by omega
      have p5 : (0 : Int) ≤ 7 - u := by omega
      have p6 : (7 : Int) - u < 8 := by omega
      have p7 : (u : Int) < 8 := by omega
      have p8 : ((7 : Int) - u).toNat = 7 - u := by omega
      go_wp2_with fail
      have hS2 := HSS.out.set_ (7 - u) (.int .u8 ((n : Int) / 2 ^ (8 * u) % 256))
      rw [HST.out] at hS2
      exact ⟨⟨u + 1, by omega, rfl, hS2, HBB.out.setCell (Nat.le_refl _) _⟩, by simp [intOf]; omega⟩
    · obtain rfl : u = 8 := by omega
      have hcv : (convert 29 9 (.slice (some ⟨w.heap.size, 0, none⟩) 8 8)).run Tryd.prog wr = .ok (.string ⟨(SH.bytes8 n).toArray⟩) wr := by
        refine run_convert_bytes_back wr 29 9 5 ⟨w.heap.size, 0, none⟩ 8 (SH.bytes8 n) Tryd.underlying29 Tryd.underlying5 Tryd.underlying9 (fun j hj => ?_)
        rw [Addr.add_mid]
        refine (hS.cell (0 + j)).trans ?_
        simp only [Nat.zero_add, tailC8, byteC, Nat.sub_self, List.replicate_zero, List.nil_append, List.drop_zero]
        rw [List.getElem?_map, List.getElem?_eq_getElem hj]
        rfl
      have HBB := Lib.hid hB
      clear hS hB
      go_wp2_with fail
      go_ret
      exact ⟨rfl, HBB.out⟩
end Go.Proofs.YtmblnacckboggaaDoor
