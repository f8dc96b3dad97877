/- check (27), own (29), seal (30), Record (9) of the program. -/
import Derived.Test.YtmblnacckboggaaDoorQ1
namespace Go.Proofs.YtmblnacckboggaaDoor
open Go.RowKit
theorem check_any (key : ByteArray) (side number : Int) (w : World) :
    Calls Tryd.prog 27 #[.string key, .int .i64 side, .int .i64 number] w fun e w' => e = .returned (.int .i64 (badE key.data.toList side number)) ∧ w = w' := by
  unfold badE
  rw [bytes_len]
  by_cases h1 : key.size = 32
  · rw [if_neg (fun h => h h1)]
    have b1 : ((key.size : Int) == 32) = true := by rw [beq_iff_eq]; omega
    have b1' : ((key.size : Int) != 32) = false := by rw [bne_eq_false_iff_eq]; omega
    by_cases h2 : side ≠ 1 ∧ side ≠ 2
    · rw [if_pos h2]
      have b2 : (side == 1) = false := by rw [beq_eq_false_iff_ne]; exact h2.1
      have b3 : (side == 2) = false := by rw [beq_eq_false_iff_ne]; exact h2.2
      have b4 : (side != 1) = true := by rw [bne_iff_ne]; exact h2.1
      have b5 : (side != 2) = true := by rw [bne_iff_ne]; exact h2.2
      have H1 := Lib.hid h1
      clear h1 h2
      go_enter Tryd.func27, Tryd.ntmps27
      go_wp2_with fail
      go_ret
      exact ⟨rfl, rfl⟩
    · rw [if_neg h2]
      have h3 : side = 1 ∨ side = 2 := by omega
      have H1 := Lib.hid h1
      clear h1 h2
      rcases h3 with rfl | rfl
      all_goals
        by_cases h4 : number < 0
        · rw [if_pos h4]
          go_enter Tryd.func27, Tryd.ntmps27
          go_wp2_with fail
          go_ret
          exact ⟨rfl, rfl⟩
        · rw [if_neg h4]
          have h5 : decide (number < 0) = false := decide_eq_false h4
          clear h4
          go_enter Tryd.func27, Tryd.ntmps27
          go_wp2_with fail
          go_ret
          exact ⟨rfl, rfl⟩
  · rw [if_pos h1]
    have b1 : ((key.size : Int) == 32) = false := by rw [beq_eq_false_iff_ne]; omega
    have b2 : ((key.size : Int) != 32) = true := by rw [bne_iff_ne]; omega
    clear h1
    go_enter Tryd.func27, Tryd.ntmps27
    go_wp2_with fail
    go_ret
    exact ⟨rfl, rfl⟩
def side1 (side : Int) : UInt8 := if side = 2 then 50 else 49
theorem itoa_side (side : Int) (hs : side = 1 ∨ side = 2) (w : World) : Calls Tryd.prog 45 #[.int .i64 side] w fun e w' => e = .returned (.string ⟨#[side1 side]⟩) ∧ w = w' := by
  rcases hs with rfl | rfl
  · have h := Tryd.strconv_Itoa_small 1 (by decide) w
    rw [show (Lib.decDigits 1).toArray = #[side1 1] by decide +kernel] at h
    exact h.mono fun e w' ⟨a, b⟩ => ⟨a, b.symm⟩
  · have h := Tryd.strconv_Itoa_small 2 (by decide) w
    rw [show (Lib.decDigits 2).toArray = #[side1 2] by decide +kernel] at h
    exact h.mono fun e w' ⟨a, b⟩ => ⟨a, b.symm⟩
theorem own_any (key p : ByteArray) (side : Int) (hs : side = 1 ∨ side = 2) (hp : p.size = 4) (hk : key.size = 32) (w : World) (hT : Tabs w) :
    Calls Tryd.prog 29 #[.string key, .string p, .int .i64 side] w fun e w' => e = .returned (.string ⟨(SH.mac key.data.toList (p.data.toList ++ [side1 side])).toArray⟩) ∧ Below w.heap.size w w' := by
  have CI := Lib.hid (fun W => itoa_side side hs W)
  obtain ⟨d, hd⟩ : ∃ d : ByteArray, d = ⟨#[side1 side]⟩ := ⟨_, rfl⟩
  have hds : d.size = 1 := by rw [hd]; rfl
  have c1 : ¬ 9223372036854775807 < p.size + d.size := by omega
  have CM := Lib.hid (mac_any key (p ++ d) (by omega) (by rw [ByteArray.size_append]; omega) w hT)
  have HE := Lib.hid (show d.data.toList = [side1 side] by rw [hd])
  rw [← hd] at CI
  clear hd hs hp hk hds hT
  go_enter Tryd.func29, Tryd.ntmps29
  go_wp2_with (first
    | (go_at_call 45; refine (CI.out _).mono ?_; rintro e v1 ⟨rfl, rfl⟩)
    | (go_at_call 44; refine (CM.out).mono ?_; rintro e v2 ⟨rfl, hb2⟩; have B2 := Lib.hid hb2; clear hb2))
  go_ret
  exact ⟨by rw [HE.out]; rfl, B2.out⟩
theorem own_seal (key : ByteArray) (side : Int) (hs : side = 1 ∨ side = 2) (hk : key.size = 32) (w : World) (hT : Tabs w) :
    Calls Tryd.prog 29 #[.string key, .string ⟨#[115, 101, 97, 108]⟩, .int .i64 side] w fun e w' => e = .returned (.string ⟨(sealK key.data.toList side).toArray⟩) ∧ Below w.heap.size w w' := own_any key ⟨#[115, 101, 97, 108]⟩ side hs rfl hk w hT
theorem own_mask (key : ByteArray) (side : Int) (hs : side = 1 ∨ side = 2) (hk : key.size = 32) (w : World) (hT : Tabs w) :
    Calls Tryd.prog 29 #[.string key, .string ⟨#[109, 97, 115, 107]⟩, .int .i64 side] w fun e w' => e = .returned (.string ⟨(maskK key.data.toList side).toArray⟩) ∧ Below w.heap.size w w' := own_any key ⟨#[109, 97, 115, 107]⟩ side hs rfl hk w hT
set_option maxRecDepth 100000 in
set_option maxHeartbeats 1600000 in
theorem seal_any (key s : ByteArray) (side : Int) (n : Nat) (hs : side = 1 ∨ side = 2) (hk : key.size = 32) (hl : s.size ≤ 1000000) (w : World) (hT : Tabs w) :
    Calls Tryd.prog 30 #[.string key, .int .i64 side, .int .i64 n, .string s] w fun e w' => e = .returned (.string ⟨(sealL key.data.toList side n s.data.toList).toArray⟩) ∧ Below w.heap.size w w' := by
  have CO := Lib.hid (fun W hW => own_seal key side hs hk W hW)
  obtain ⟨K, hK⟩ : ∃ K : ByteArray, K = ⟨(sealK key.data.toList side).toArray⟩ := ⟨_, rfl⟩
  have hKs : K.size = 32 := by rw [hK, str_size]; exact sum_len _
  rw [← hK] at CO
  obtain ⟨N8, hN⟩ : ∃ N : ByteArray, N = ⟨(SH.bytes8 n).toArray⟩ := ⟨_, rfl⟩
  have hNs : N8.size = 8 := by rw [hN, str_size]; rfl
  have c1 : ¬ 9223372036854775807 < N8.size + s.size := by omega
  have CM := Lib.hid (fun W hW => mac_any K (N8 ++ s) (by omega) (by rw [ByteArray.size_append]; omega) W hW)
  have HE := Lib.hid (show SH.mac K.data.toList (N8.data.toList ++ s.data.toList) = sealL key.data.toList side n s.data.toList by
    rw [hK, hN]; rfl)
  have HT := Lib.hid hT
  have HN := Lib.hid hN
  clear hK hKs hs hk hl hT hNs hN
  go_enter Tryd.func30, Tryd.ntmps30
  go_wp2_with fail
  have hS0 : Blk (w.alloc (Obj.cells #[.int .u8 0, .int .u8 0, .int .u8 0, .int .u8 0, .int .u8 0, .int .u8 0, .int .u8 0, .int .u8 0] 102)) w.heap.size 102 (eightC n 0) := Blk.new w 102 [_, _, _, _, _, _, _, _]
  go_loopw [11] (fun i wr => ∃ u : Nat, u ≤ 8 ∧ i = .int .i64 u ∧ Blk wr w.heap.size 102 (eightC n u) ∧ Below w.heap.size w wr) (fun i _ => 8 - (intOf i).toNat)
  case atStart => exact ⟨0, by omega, rfl, hS0, (Below.refl _ _).alloc (Nat.le_refl _) _⟩
  case round =>
    obtain ⟨u, hu, rfl, hS, hB⟩ := hrel
    by_cases hlt : u < 8
    · have hc := hS.cell u
      have hf := hS.frozen u
      have hst := eight_step n u hlt
      have HSS := Lib.hid hS
      have HBB := Lib.hid hB
      have HST := Lib.hid hst
      have hc2 : ∃ v, (eightC n u)[u]? = some v := by
        have : u < (eightC n u).length := by
          simp [eightC, byteC, SH.bytes8, SH.bytes4]; omega
        exact ⟨_, List.getElem?_eq_getElem this⟩
      obtain ⟨v, hv⟩ := hc2
      rw [hv] at hc
      clear hS hB hst hv
      have p1 : IntKind.i64.wrap (8 * (u : Int)) = 8 * u := IntWalk.i64_in _ (by omega)
      have p2 : IntKind.i64.wrap (56 - 8 * (u : Int)) = 56 - 8 * u := IntWalk.i64_in _ (by omega)
      have p3 : (0 : Int) ≤ 56 - 8 * u := by omega
      have p4 : (56 - 8 * (u : Int)).toNat = 56 - 8 * u := by omega
      have p5 : (0 : Int) ≤ u := by omega
      have p6 : (u : Int) < 8 := by omega
      go_wp2_with fail
      refine ⟨⟨u + 1, by omega, rfl, ?_, HBB.out.setCell (Nat.le_refl _) _⟩, by simp [intOf]; omega⟩
      rw [← HST.out]
      exact HSS.out.set_ u _
    · obtain rfl : u = 8 := by omega
      have hcv : ∀ W : World, Blk W w.heap.size 102 (eightC n 8) → (convert 29 9 (.slice (some ⟨w.heap.size, 0, none⟩) 8 8)).run Tryd.prog W = .ok (.string N8) W := by
        intro W hW
        rw [HN.out]
        refine run_convert_bytes_back W 29 9 5 ⟨w.heap.size, 0, none⟩ 8 (SH.bytes8 n) Tryd.underlying29 Tryd.underlying5 Tryd.underlying9 (fun j hj => ?_)
        rw [Addr.add_mid]
        refine (hW.cell (0 + j)).trans ?_
        simp only [Nat.zero_add, eightC, byteC, Nat.sub_self, List.replicate_zero, List.append_nil]
        rw [show (SH.bytes8 n).take 8 = SH.bytes8 n from rfl, List.getElem?_map, List.getElem?_eq_getElem hj]
        rfl
      have HCV := Lib.hid hcv
      have HBB := Lib.hid hB
      have HSS := Lib.hid hS
      have hT1 := Lib.hid ((HT.out.keep HBB.out))
      have hcvA := HCV.out wr HSS.out
      have hcvD := HCV.out wr.drew HSS.out
      have hwl := HSS.out.lt
      clear hS hB hcv hu hlt
      go_wp2_with fail
      go_cut [8] (fun c wx => c = .string ⟨(sealL key.data.toList side n s.data.toList).toArray⟩ ∧ Below w.heap.size w wx)
      case first =>
        go_region_with (first
          | (go_at_call 29; refine (CO.out _ (hT1.out.drew)).mono ?_; rintro e v3 ⟨rfl, hb3⟩; have B3 := Lib.hid (keepBelow HBB.out.drew hb3); have T3 := Lib.hid (hT1.out.drew.keep hb3); have hcv3 := HCV.out v3 ((keepBlk ((Below.refl _ _).drew) HSS.out).below hb3 hwl); clear hb3)
          | (go_at_call 44; refine (CM.out _ T3.out).mono ?_; rintro e v4 ⟨rfl, hb4⟩; have B4 := Lib.hid (keepBelow B3.out hb4); clear hb4))
        all_goals
          go_wp2_with fail
          go_meet
          exact ⟨by rw [HE.out], B4.out⟩
      case rest =>
        obtain ⟨rfl, hb⟩ := hcut
        go_wp2_with fail
        go_ret
        exact ⟨rfl, hb⟩
end Go.Proofs.YtmblnacckboggaaDoor
