/- The reference: Bytes of two (33), right (31), keys (32). -/
import Derived.Test.YtmblnacckboggaaDoorQ1
import Derived.Test.YtmblnacckboggaaDoorT3
namespace Go.Proofs.YtmblnacckboggaaDoor
open Go.RowKit
theorem right_any (key : ByteArray) (side number : Int) (w : World) :
    Calls Tryd.prog 31 #[.string key, .int .i64 side, .int .i64 number] w fun e w' => e = .returned (.int .i64 (badE key.data.toList side number)) ∧ w = w' := by
  unfold badE
  rw [bytes_len]
  by_cases h1 : key.size = 32
  · rw [if_neg (fun h => h h1)]
    have b1 : ((key.size : Int) == 32) = true := by rw [beq_iff_eq]; omega
    have b1' : ((key.size : Int) != 32) = false := by rw [bne_eq_false_iff_eq]; omega
    by_cases h2 : side ≠ 1 ∧ side ≠ 2
    · rw [if_pos h2]
      have b2 : (side == 1) = false := by rw [beq_eq_false_iff_ne]; exact h2.1
      have b3 : (side == 2) = false := by rw [beq_eq_false_iff_ne]; exact h2.2
      have b4 : (side != 1) = true := by rw [bne_iff_ne]; exact h2.1
      have b5 : (side != 2) = true := by rw [bne_iff_ne]; exact h2.2
      have H1 := Lib.hid h1
      clear h1 h2
      go_enter Tryd.func31, Tryd.ntmps31
      go_wp2_with fail
      go_ret
      exact ⟨rfl, rfl⟩
    · rw [if_neg h2]
      have h3 : side = 1 ∨ side = 2 := by omega
      have H1 := Lib.hid h1
      clear h1 h2
      rcases h3 with rfl | rfl
      all_goals
        by_cases h4 : number < 0
        · rw [if_pos h4]
          go_enter Tryd.func31, Tryd.ntmps31
          go_wp2_with fail
          go_ret
          exact ⟨rfl, rfl⟩
        · rw [if_neg h4]
          have h5 : decide (number < 0) = false := decide_eq_false h4
          clear h4
          go_enter Tryd.func31, Tryd.ntmps31
          go_wp2_with fail
          go_ret
          exact ⟨rfl, rfl⟩
  · rw [if_pos h1]
    have b1 : ((key.size : Int) == 32) = false := by rw [beq_eq_false_iff_ne]; omega
    have b2 : ((key.size : Int) != 32) = true := by rw [bne_iff_ne]; omega
    clear h1
    go_enter Tryd.func31, Tryd.ntmps31
    go_wp2_with fail
    go_ret
    exact ⟨rfl, rfl⟩
set_option maxHeartbeats 1600000 in
theorem keys_1 (key : ByteArray) (hk : key.size = 32) (w : World) :
    Calls Tryd.prog 32 #[.string key, .int .i64 1] w fun e w' => e = .returned (.tuple #[.string ⟨(maskK key.data.toList 1).toArray⟩, .string ⟨(sealK key.data.toList 1).toArray⟩]) ∧ Below w.heap.size w w' := by
  obtain ⟨A, hA⟩ : ∃ A : ByteArray, A = ⟨#[109, 97, 115, 107, 49]⟩ := ⟨_, rfl⟩
  obtain ⟨B, hB⟩ : ∃ B : ByteArray, B = ⟨#[115, 101, 97, 108, 49]⟩ := ⟨_, rfl⟩
  have c1 : ((⟨#[109, 97, 115, 107]⟩ : ByteArray) ++ (⟨#[49]⟩ : ByteArray)) = A := by rw [hA]; decide
  have c2 : ((⟨#[115, 101, 97, 108]⟩ : ByteArray) ++ (⟨#[49]⟩ : ByteArray)) = B := by rw [hB]; decide
  have CA := Lib.hid (fun W => rmac_any key A (by omega) (by rw [hA]; decide) W)
  have CB := Lib.hid (fun W => rmac_any key B (by omega) (by rw [hB]; decide) W)
  obtain ⟨MA, hMA⟩ : ∃ M : ByteArray, M = ⟨(SH.mac key.data.toList A.data.toList).toArray⟩ := ⟨_, rfl⟩
  obtain ⟨MB, hMB⟩ : ∃ M : ByteArray, M = ⟨(SH.mac key.data.toList B.data.toList).toArray⟩ := ⟨_, rfl⟩
  rw [← hMA] at CA
  rw [← hMB] at CB
  have FA := Lib.hid (show MA = ⟨(maskK key.data.toList 1).toArray⟩ by rw [hMA, hA]; rfl)
  have FB := Lib.hid (show MB = ⟨(sealK key.data.toList 1).toArray⟩ by rw [hMB, hB]; rfl)
  clear hk hA hB hMA hMB
  go_enter Tryd.func32, Tryd.ntmps32
  go_wp2_with (first
    | (go_at_call 35; (with_reducible refine (CA.out _).mono ?_); rintro e v1 ⟨rfl, hb1⟩; have B1 := Lib.hid hb1; clear hb1)
    | (go_at_call 35; (with_reducible refine (CB.out _).mono ?_); rintro e v2 ⟨rfl, hb2⟩; have B2 := Lib.hid (keepBelow B1.out hb2); clear hb2))
  go_ret2
  exact ⟨by rw [FA.out, FB.out]; rfl, B2.out⟩
set_option maxHeartbeats 1600000 in
theorem keys_2 (key : ByteArray) (hk : key.size = 32) (w : World) :
    Calls Tryd.prog 32 #[.string key, .int .i64 2] w fun e w' => e = .returned (.tuple #[.string ⟨(maskK key.data.toList 2).toArray⟩, .string ⟨(sealK key.data.toList 2).toArray⟩]) ∧ Below w.heap.size w w' := by
  obtain ⟨A, hA⟩ : ∃ A : ByteArray, A = ⟨#[109, 97, 115, 107, 50]⟩ := ⟨_, rfl⟩
  obtain ⟨B, hB⟩ : ∃ B : ByteArray, B = ⟨#[115, 101, 97, 108, 50]⟩ := ⟨_, rfl⟩
  have c1 : ((⟨#[109, 97, 115, 107]⟩ : ByteArray) ++ (⟨#[50]⟩ : ByteArray)) = A := by rw [hA]; decide
  have c2 : ((⟨#[115, 101, 97, 108]⟩ : ByteArray) ++ (⟨#[50]⟩ : ByteArray)) = B := by rw [hB]; decide
  have CA := Lib.hid (fun W => rmac_any key A (by omega) (by rw [hA]; decide) W)
  have CB := Lib.hid (fun W => rmac_any key B (by omega) (by rw [hB]; decide) W)
  obtain ⟨MA, hMA⟩ : ∃ M : ByteArray, M = ⟨(SH.mac key.data.toList A.data.toList).toArray⟩ := ⟨_, rfl⟩
  obtain ⟨MB, hMB⟩ : ∃ M : ByteArray, M = ⟨(SH.mac key.data.toList B.data.toList).toArray⟩ := ⟨_, rfl⟩
  rw [← hMA] at CA
  rw [← hMB] at CB
  have FA := Lib.hid (show MA = ⟨(maskK key.data.toList 2).toArray⟩ by rw [hMA, hA]; rfl)
  have FB := Lib.hid (show MB = ⟨(sealK key.data.toList 2).toArray⟩ by rw [hMB, hB]; rfl)
  clear hk hA hB hMA hMB
  go_enter Tryd.func32, Tryd.ntmps32
  go_wp2_with (first
    | (go_at_call 35; (with_reducible refine (CA.out _).mono ?_); rintro e v1 ⟨rfl, hb1⟩; have B1 := Lib.hid hb1; clear hb1)
    | (go_at_call 35; (with_reducible refine (CB.out _).mono ?_); rintro e v2 ⟨rfl, hb2⟩; have B2 := Lib.hid (keepBelow B1.out hb2); clear hb2))
  go_ret2
  exact ⟨by rw [FA.out, FB.out]; rfl, B2.out⟩
theorem keys_any (key : ByteArray) (side : Int) (hs : side = 1 ∨ side = 2) (hk : key.size = 32) (w : World) :
    Calls Tryd.prog 32 #[.string key, .int .i64 side] w fun e w' => e = .returned (.tuple #[.string ⟨(maskK key.data.toList side).toArray⟩, .string ⟨(sealK key.data.toList side).toArray⟩]) ∧ Below w.heap.size w w' := by
  rcases hs with rfl | rfl
  · exact keys_1 key hk w
  · exact keys_2 key hk w
def tailC2 (n u : Nat) : List Value := List.replicate (2 - u) (.int .u8 0) ++ byteC ((headL n).drop (2 - u))
theorem tail_step2 (n u : Nat) (hu : u < 2) : (tailC2 n u).set (1 - u) (.int .u8 ((n : Int) / 2 ^ (8 * u) % 256)) = tailC2 n (u + 1) := by
  rw [show (n : Int) / 2 ^ (8 * u) % 256 = ((n / 2 ^ (8 * u) % 256 : Nat) : Int) by simp]
  have : u = 0 ∨ u = 1 := by omega
  rcases this with rfl | rfl <;> simp [tailC2, byteC, headL]
theorem tail_len2 (n u : Nat) (hu : u ≤ 2) : (tailC2 n u).length = 2 := by
  have : (headL n).length = 2 := rfl
  simp only [tailC2, byteC, List.length_append, List.length_replicate, List.length_map, List.length_drop, this]
  omega
set_option maxRecDepth 100000 in
theorem Bytes2_any (n : Nat) (w : World) :
    Calls Tryd.prog 33 #[.int .i64 n, .int .i64 2] w fun e w' => e = .returned (.string ⟨(headL n).toArray⟩) ∧ Below w.heap.size w w' := by
  have hmk : ∀ w : World, (Instr.makeSlice 29 (.int .i64 2) (.int .i64 2)).run Tryd.prog w = .ok (.slice (some ⟨w.heap.size, 0, none⟩) 2 2) (w.alloc (.cells #[.int .u8 0, .int .u8 0] 5)) := fun w => by kernel_rfl
  go_enter Tryd.func33, Tryd.ntmps33
  go_wp2_with fail
  clear hmk
  have hS0 : Blk (w.alloc (Obj.cells #[.int .u8 0, .int .u8 0] 5)) w.heap.size 5 (tailC2 n 0) := Blk.new w 5 [_, _]
  go_loopw [6] (fun i wr => ∃ u : Nat, u ≤ 2 ∧ i = .int .i64 u ∧ Blk wr w.heap.size 5 (tailC2 n u) ∧ Below w.heap.size w wr) (fun i _ => 2 - (intOf i).toNat)
  case atStart => exact ⟨0, by omega, rfl, hS0, (Below.refl _ _).alloc (Nat.le_refl _) _⟩
  case round =>
    obtain ⟨u, hu, rfl, hS, hB⟩ := hrel
    by_cases hlt : u < 2
    · have hc := hS.cell (1 - u)
      have hf := hS.frozen (1 - u)
      have hst := tail_step2 n u hlt
      have HSS := Lib.hid hS
      have HBB := Lib.hid hB
      have HST := Lib.hid hst
      obtain ⟨v, hv⟩ : ∃ v, (tailC2 n u)[1 - u]? = some v := ⟨_, List.getElem?_eq_getElem (by rw [tail_len2 n u hu]; omega)⟩
      rw [hv] at hc
      clear hS hB hst hv
      have p1 : IntKind.i64.wrap (8 * (u : Int)) = 8 * u := IntWalk.i64_in _ (by omega)
      have p2 : IntKind.i64.wrap (2 - 1 - (u : Int)) = 2 - 1 - u := IntWalk.i64_in _ (by omega)
      have p2b : IntKind.i64.wrap (1 - (u : Int)) = 1 - u := IntWalk.i64_in _ (by omega)
      have p3 : (0 : Int) ≤ 8 * u := by omega
      have p4 : (8 * (u : Int)).toNat = 8 * u := by omega
      have p5 : (0 : Int) ≤ 1 - u := by omega
      have p6 : (1 : Int) - u < 2 := by omega
      have p7 : (u : Int) < 2 := by omega
      have p8 : ((1 : Int) - u).toNat = 1 - u := by omega
      go_wp2_with fail
      have hS2 := HSS.out.set_ (1 - u) (.int .u8 ((n : Int) / 2 ^ (8 * u) % 256))
      rw [HST.out] at hS2
      exact ⟨⟨u + 1, by omega, rfl, hS2, HBB.out.setCell (Nat.le_refl _) _⟩, by simp [intOf]; omega⟩
    · obtain rfl : u = 2 := by omega
      have hcv : (convert 29 9 (.slice (some ⟨w.heap.size, 0, none⟩) 2 2)).run Tryd.prog wr = .ok (.string ⟨(headL n).toArray⟩) wr := by
        refine run_convert_bytes_back wr 29 9 5 ⟨w.heap.size, 0, none⟩ 2 (headL n) Tryd.underlying29 Tryd.underlying5 Tryd.underlying9 (fun j hj => ?_)
        rw [Addr.add_mid]
        refine (hS.cell (0 + j)).trans ?_
        simp only [Nat.zero_add, tailC2, byteC, Nat.sub_self, List.replicate_zero, List.nil_append, List.drop_zero]
        rw [List.getElem?_map, List.getElem?_eq_getElem hj]
        rfl
      have HBB := Lib.hid hB
      clear hS hB
      go_wp2_with fail
      go_ret
      exact ⟨rfl, HBB.out⟩
end Go.Proofs.YtmblnacckboggaaDoor
