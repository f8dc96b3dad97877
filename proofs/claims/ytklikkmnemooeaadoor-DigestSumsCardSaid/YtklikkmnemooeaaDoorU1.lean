/- DigestSums: the law's walk. -/
import Derived.Test.YtklikkmnemooeaaDoorDF
import Derived.Test.YtklikkmnemooeaaDoorR2
namespace Go.Proofs.YtklikkmnemooeaaDoor
open Go.RowKit
theorem put10 {v : World} {g : Nat} {cs : List Value} (h : Blk v g 27 cs) (hl : cs.length = 10) (x : SH.St) (b : Nat) (r : ByteArray) :
    Blk ((((((((((v.setCell ⟨g, 0, none⟩ (.int .u32 x.a)).setCell ⟨g, 1, none⟩ (.int .u32 x.b)).setCell ⟨g, 2, none⟩ (.int .u32 x.c)).setCell ⟨g, 3, none⟩ (.int .u32 x.d)).setCell ⟨g, 4, none⟩ (.int .u32 x.e)).setCell ⟨g, 5, none⟩ (.int .u32 x.f)).setCell ⟨g, 6, none⟩ (.int .u32 x.g)).setCell ⟨g, 7, none⟩ (.int .u32 x.h)).setCell ⟨g, 8, none⟩ (.int .i64 b)).setCell ⟨g, 9, none⟩ (.string r)) g 27 (hCells x b r) := by
  match cs, hl with
  | [c0, c1, c2, c3, c4, c5, c6, c7, c8, c9], _ => exact ((((((((((h.set_ 0 _).set_ 1 _).set_ 2 _).set_ 3 _).set_ 4 _).set_ 5 _).set_ 6 _).set_ 7 _).set_ 8 _).set_ 9 _)
theorem put10_below {w v : World} {g : Nat} (hn : Below w.heap.size w v) (hg : w.heap.size ≤ g) (x : SH.St) (b : Nat) (r : ByteArray) :
    Below w.heap.size w ((((((((((v.setCell ⟨g, 0, none⟩ (.int .u32 x.a)).setCell ⟨g, 1, none⟩ (.int .u32 x.b)).setCell ⟨g, 2, none⟩ (.int .u32 x.c)).setCell ⟨g, 3, none⟩ (.int .u32 x.d)).setCell ⟨g, 4, none⟩ (.int .u32 x.e)).setCell ⟨g, 5, none⟩ (.int .u32 x.f)).setCell ⟨g, 6, none⟩ (.int .u32 x.g)).setCell ⟨g, 7, none⟩ (.int .u32 x.h)).setCell ⟨g, 8, none⟩ (.int .i64 b)).setCell ⟨g, 9, none⟩ (.string r)) :=
  ((((((((((hn.setCell hg _).setCell hg _).setCell hg _).setCell hg _).setCell hg _).setCell hg _).setCell hg _).setCell hg _).setCell hg _).setCell hg _)
theorem addrBlk (a : Addr) (i : Nat) : (a.add i).block = a.block := by unfold Addr.add; split <;> rfl
theorem len_told (m : List UInt8) (x : SH.St) (b : Nat) (r : ByteArray) (hI : IsH m x b r) (n : Int) (hn : n = (m.length : Nat)) (hl : m.length < 1152921504606846976) (w : World) :
    Calls Tryd.prog 15 #[.agg #[.int .u32 x.a, .int .u32 x.b, .int .u32 x.c, .int .u32 x.d, .int .u32 x.e, .int .u32 x.f, .int .u32 x.g, .int .u32 x.h, .int .i64 b, .string r]] w fun e w' => e = .returned (.int .i64 n) ∧ Below w.heap.size w w' := by
  subst hn
  exact len_any m x b r hI hl w
set_option maxRecDepth 100000 in
set_option maxHeartbeats 6400000 in
theorem sums_some (a : Addr) (ss : List ByteArray) (cap : Nat) (other : ByteArray) (ho : other.size ≤ 300) (hn : ss.length ≤ 20) (w : World) (hcell : ∀ i, i < ss.length → w.cell? (a.add i) = some (.string (ss.getD i ByteArray.empty))) (hab : 0 < ss.length → a.block < w.heap.size) (hT : Tabs w) :
    Calls Tryd.prog 3 #[.slice (some a) ss.length cap, .string other] w fun e w' => e = .returned (.bool true) ∧ Below w.heap.size w w' := by
  have HT := Lib.hid hT
  have HC := Lib.hid hcell
  have CA := Lib.hid (awake_any w hT)
  obtain ⟨n, hnn⟩ : ∃ n, n = ss.length := ⟨_, rfl⟩
  rw [← hnn] at hn
  rw [← hnn]
  have HNN := Lib.hid hnn
  have g1 : ¬ (20 : Int) < n := by omega
  have g2 : ¬ (300 : Int) < other.size := by omega
  have d1 : decide ((20 : Int) < (n : Int)) = false := decide_eq_false g1
  have d2 : decide ((300 : Int) < (other.size : Int)) = false := decide_eq_false g2
  clear hT hcell hnn
  go_enter Tryd.func3, Tryd.ntmps3
  go_wp2_with (go_at_call 11; refine CA.out.mono ?_; rintro e v0 ⟨rfl, hb0⟩; have B0 := Lib.hid hb0; clear hb0)
  obtain ⟨gH, hgH⟩ : ∃ g, g = v0.heap.size := ⟨_, rfl⟩
  obtain ⟨W0, hW0⟩ : ∃ W0, W0 = v0.alloc (.cells #[.int .u32 0, .int .u32 0, .int .u32 0, .int .u32 0, .int .u32 0, .int .u32 0, .int .u32 0, .int .u32 0, .int .i64 0, .string ⟨#[]⟩] 27) := ⟨_, rfl⟩
  have hG0 : Blk W0 gH 27 (hCells ⟨0, 0, 0, 0, 0, 0, 0, 0⟩ 0 ⟨#[]⟩) := by rw [hW0, hgH]; exact Blk.new v0 27 zeroC
  have hN0 : Below w.heap.size w W0 := by rw [hW0]; exact (B0.out).alloc B0.out.size _
  have HGH := Lib.hid (show w.heap.size ≤ gH by rw [hgH]; exact B0.out.size)
  rw [← hW0, ← hgH]
  have GW0 := Lib.hid hG0
  have BW0 := Lib.hid hN0
  clear hW0 hgH hG0 hN0 B0 CA
  go_loopw [5, 23] (fun s5 i wr => ∃ (u : Nat) (AB : ByteArray) (x : SH.St) (b : Nat) (r : ByteArray), u ≤ n ∧ i = .int .i64 u ∧ s5 = .string AB ∧ AB.size ≤ 300 * u ∧ IsH AB.data.toList x b r ∧ Blk wr gH 27 (hCells x b r) ∧ Below w.heap.size w wr) (fun _ i _ => n - (intOf i).toNat)
  case atStart => exact ⟨0, ⟨#[]⟩, _, 0, ⟨#[]⟩, by omega, rfl, rfl, by decide, isH_zero, GW0.out, BW0.out⟩
  case round =>
    obtain ⟨u, AB, x, b, r, hu, rfl, rfl, hAB, hI, hG, hB⟩ := hrel
    generalize wr = wq at *
    have GW := Lib.hid hG
    have BW := Lib.hid hB
    have HI := Lib.hid hI
    clear hG hB hI GW0 BW0
    have k0_0 : (wq).cell? ⟨gH, 0, none⟩ = some (.int .u32 x.a) := GW.out.cell 0
    have k0_1 : (wq).cell? ⟨gH, 1, none⟩ = some (.int .u32 x.b) := GW.out.cell 1
    have k0_2 : (wq).cell? ⟨gH, 2, none⟩ = some (.int .u32 x.c) := GW.out.cell 2
    have k0_3 : (wq).cell? ⟨gH, 3, none⟩ = some (.int .u32 x.d) := GW.out.cell 3
    have k0_4 : (wq).cell? ⟨gH, 4, none⟩ = some (.int .u32 x.e) := GW.out.cell 4
    have k0_5 : (wq).cell? ⟨gH, 5, none⟩ = some (.int .u32 x.f) := GW.out.cell 5
    have k0_6 : (wq).cell? ⟨gH, 6, none⟩ = some (.int .u32 x.g) := GW.out.cell 6
    have k0_7 : (wq).cell? ⟨gH, 7, none⟩ = some (.int .u32 x.h) := GW.out.cell 7
    have k0_8 : (wq).cell? ⟨gH, 8, none⟩ = some (.int .i64 b) := GW.out.cell 8
    have k0_9 : (wq).cell? ⟨gH, 9, none⟩ = some (.string r) := GW.out.cell 9
    by_cases hun : u < n
    · obtain ⟨su, hsu⟩ : ∃ s, s = ss.getD u ByteArray.empty := ⟨_, rfl⟩
      have cs0 : wq.cell? (a.add u) = some (.string su) := by
        rw [hsu]
        exact (BW.out.cell (p := a.add u) (by rw [addrBlk]; exact hab (by rw [← HNN.out]; omega))).trans (HC.out u (by rw [← HNN.out]; exact hun))
      have p8 : (0 : Int) ≤ u := by omega
      have p9 : (u : Int) < n := by omega
      clear hsu
      by_cases hbig : 300 < su.size
      · have g3 : (300 : Int) < su.size := by omega
        go_wp2_with fail
        go_ret
        exact ⟨rfl, BW.out⟩
      · have g3 : ¬ (300 : Int) < su.size := by omega
        have hAB2 : AB.size ≤ 6000 := by omega
        obtain ⟨SX, hSX⟩ : ∃ S : ByteArray, S = ⟨(SH.sum (AB ++ other).data.toList).toArray⟩ := ⟨_, rfl⟩
        obtain ⟨SY, hSY⟩ : ∃ S : ByteArray, S = ⟨(SH.sum (AB ++ su).data.toList).toArray⟩ := ⟨_, rfl⟩
        have hla : (AB ++ other).size = AB.size + other.size := ByteArray.size_append
        have hlb : (AB ++ su).size = AB.size + su.size := ByteArray.size_append
        have C1 := Lib.hid (fun W (hW : Tabs W) => hadd AB.data.toList x b r other HI.out (by rw [bytes_len]; omega) W hW)
        have C2 := Lib.hid (fun W (hW : Tabs W) => hadd AB.data.toList x b r su HI.out (by rw [bytes_len]; omega) W hW)
        have C3 := Lib.hid (fun y b r (h : IsH (AB.data.toList ++ other.data.toList) y b r) W (hW : Tabs W) => (hsum _ y b r h (by rw [List.length_append, bytes_len, bytes_len]; omega) W hW).mono (fun e w' h => by rw [← ap_list, ← hSX] at h; exact h))
        have C4 := Lib.hid (fun W (hW : Tabs W) => (sum_any (AB ++ other) (by omega) W hW).mono (fun e w' h => by rw [← hSX] at h; exact h))
        have C5 := Lib.hid (fun y b r (h : IsH (AB.data.toList ++ other.data.toList) y b r) W => len_told _ y b r h ((AB.size : Int) + other.size) (by rw [List.length_append, bytes_len, bytes_len]; omega) (by rw [List.length_append, bytes_len, bytes_len]; omega) W)
        have C6 := Lib.hid (fun y b r (h : IsH (AB.data.toList ++ su.data.toList) y b r) W (hW : Tabs W) => (hsum _ y b r h (by rw [List.length_append, bytes_len, bytes_len]; omega) W hW).mono (fun e w' h => by rw [← ap_list, ← hSY] at h; exact h))
        have C7 := Lib.hid (fun W (hW : Tabs W) => (sum_any (AB ++ su) (by omega) W hW).mono (fun e w' h => by rw [← hSY] at h; exact h))
        have C8 := Lib.hid (fun y b r (h : IsH (AB.data.toList ++ su.data.toList) y b r) W => len_told _ y b r h ((AB.size : Int) + su.size) (by rw [List.length_append, bytes_len, bytes_len]; omega) (by rw [List.length_append, bytes_len, bytes_len]; omega) W)
        have f1 : IntKind.i64.wrap ((AB.size : Int) + other.size) = (AB.size : Int) + other.size := IntWalk.i64_in _ (by omega)
        have f2 : ¬ 9223372036854775807 < AB.size + other.size := by omega
        have f3 : ¬ 9223372036854775807 < AB.size + su.size := by omega
        have HLB := Lib.hid (show (AB ++ su).size ≤ 300 * (u + 1) by omega)
        clear hSX hSY hla hlb hAB hAB2
        go_wp2_with (first
      | (go_at_call 15; have tok := N7; clear tok; refine (C8.out y2 b2 r2 HI2.out _).mono ?_; rintro e v8 ⟨rfl, hb⟩; have G8 := Lib.hid (keepBlk hb G7.out); have N8 := Lib.hid (keepBelow N7.out hb); clear hb)
      | (go_at_call 14; have tok := N6; clear tok; refine (C7.out _ (HT.out.keep N6.out)).mono ?_; rintro e v7 ⟨rfl, hb⟩; have G7 := Lib.hid (keepBlk hb G6.out); have N7 := Lib.hid (keepBelow N6.out hb); have k7_0 : (v7).cell? ⟨gH, 0, none⟩ = some (.int .u32 y2.a) := G7.out.cell 0; have k7_1 : (v7).cell? ⟨gH, 1, none⟩ = some (.int .u32 y2.b) := G7.out.cell 1; have k7_2 : (v7).cell? ⟨gH, 2, none⟩ = some (.int .u32 y2.c) := G7.out.cell 2; have k7_3 : (v7).cell? ⟨gH, 3, none⟩ = some (.int .u32 y2.d) := G7.out.cell 3; have k7_4 : (v7).cell? ⟨gH, 4, none⟩ = some (.int .u32 y2.e) := G7.out.cell 4; have k7_5 : (v7).cell? ⟨gH, 5, none⟩ = some (.int .u32 y2.f) := G7.out.cell 5; have k7_6 : (v7).cell? ⟨gH, 6, none⟩ = some (.int .u32 y2.g) := G7.out.cell 6; have k7_7 : (v7).cell? ⟨gH, 7, none⟩ = some (.int .u32 y2.h) := G7.out.cell 7; have k7_8 : (v7).cell? ⟨gH, 8, none⟩ = some (.int .i64 b2) := G7.out.cell 8; have k7_9 : (v7).cell? ⟨gH, 9, none⟩ = some (.string r2) := G7.out.cell 9; clear hb)
      | (go_at_call 13; have tok := NV5; clear tok; refine (C6.out y2 b2 r2 HI2.out _ (HT.out.keep NV5.out)).mono ?_; rintro e v6 ⟨rfl, hb⟩; have G6 := Lib.hid (keepBlk hb GV5.out); have N6 := Lib.hid (keepBelow NV5.out hb); clear hb)
      | (go_at_call 15; have tok := N4; clear tok; refine (C5.out y1 b1 r1 HI1.out _).mono ?_; rintro e v5 ⟨rfl, hb⟩; have G5 := Lib.hid (keepBlk hb G4.out); have Y5 := Lib.hid (keepBlk hb Y4.out); have N5 := Lib.hid (keepBelow N4.out hb); have k5_0 : (v5).cell? ⟨v2.heap.size, 0, none⟩ = some (.int .u32 y2.a) := Y5.out.cell 0; have k5_1 : (v5).cell? ⟨v2.heap.size, 1, none⟩ = some (.int .u32 y2.b) := Y5.out.cell 1; have k5_2 : (v5).cell? ⟨v2.heap.size, 2, none⟩ = some (.int .u32 y2.c) := Y5.out.cell 2; have k5_3 : (v5).cell? ⟨v2.heap.size, 3, none⟩ = some (.int .u32 y2.d) := Y5.out.cell 3; have k5_4 : (v5).cell? ⟨v2.heap.size, 4, none⟩ = some (.int .u32 y2.e) := Y5.out.cell 4; have k5_5 : (v5).cell? ⟨v2.heap.size, 5, none⟩ = some (.int .u32 y2.f) := Y5.out.cell 5; have k5_6 : (v5).cell? ⟨v2.heap.size, 6, none⟩ = some (.int .u32 y2.g) := Y5.out.cell 6; have k5_7 : (v5).cell? ⟨v2.heap.size, 7, none⟩ = some (.int .u32 y2.h) := Y5.out.cell 7; have k5_8 : (v5).cell? ⟨v2.heap.size, 8, none⟩ = some (.int .i64 b2) := Y5.out.cell 8; have k5_9 : (v5).cell? ⟨v2.heap.size, 9, none⟩ = some (.string r2) := Y5.out.cell 9; have g5_0 : (v5).cell? ⟨gH, 0, none⟩ = some (.int .u32 x.a) := G5.out.cell 0; have g5_f0 : (v5).frozen? ⟨gH, 0, none⟩ = false := G5.out.frozen 0; have g5_1 : (v5).cell? ⟨gH, 1, none⟩ = some (.int .u32 x.b) := G5.out.cell 1; have g5_f1 : (v5).frozen? ⟨gH, 1, none⟩ = false := G5.out.frozen 1; have g5_2 : (v5).cell? ⟨gH, 2, none⟩ = some (.int .u32 x.c) := G5.out.cell 2; have g5_f2 : (v5).frozen? ⟨gH, 2, none⟩ = false := G5.out.frozen 2; have g5_3 : (v5).cell? ⟨gH, 3, none⟩ = some (.int .u32 x.d) := G5.out.cell 3; have g5_f3 : (v5).frozen? ⟨gH, 3, none⟩ = false := G5.out.frozen 3; have g5_4 : (v5).cell? ⟨gH, 4, none⟩ = some (.int .u32 x.e) := G5.out.cell 4; have g5_f4 : (v5).frozen? ⟨gH, 4, none⟩ = false := G5.out.frozen 4; have g5_5 : (v5).cell? ⟨gH, 5, none⟩ = some (.int .u32 x.f) := G5.out.cell 5; have g5_f5 : (v5).frozen? ⟨gH, 5, none⟩ = false := G5.out.frozen 5; have g5_6 : (v5).cell? ⟨gH, 6, none⟩ = some (.int .u32 x.g) := G5.out.cell 6; have g5_f6 : (v5).frozen? ⟨gH, 6, none⟩ = false := G5.out.frozen 6; have g5_7 : (v5).cell? ⟨gH, 7, none⟩ = some (.int .u32 x.h) := G5.out.cell 7; have g5_f7 : (v5).frozen? ⟨gH, 7, none⟩ = false := G5.out.frozen 7; have g5_8 : (v5).cell? ⟨gH, 8, none⟩ = some (.int .i64 b) := G5.out.cell 8; have g5_f8 : (v5).frozen? ⟨gH, 8, none⟩ = false := G5.out.frozen 8; have g5_9 : (v5).cell? ⟨gH, 9, none⟩ = some (.string r) := G5.out.cell 9; have g5_f9 : (v5).frozen? ⟨gH, 9, none⟩ = false := G5.out.frozen 9; clear hb; have GV5 := Lib.hid (show Blk ((((((((((v5.setCell ⟨gH, 0, none⟩ (.int .u32 y2.a)).setCell ⟨gH, 1, none⟩ (.int .u32 y2.b)).setCell ⟨gH, 2, none⟩ (.int .u32 y2.c)).setCell ⟨gH, 3, none⟩ (.int .u32 y2.d)).setCell ⟨gH, 4, none⟩ (.int .u32 y2.e)).setCell ⟨gH, 5, none⟩ (.int .u32 y2.f)).setCell ⟨gH, 6, none⟩ (.int .u32 y2.g)).setCell ⟨gH, 7, none⟩ (.int .u32 y2.h)).setCell ⟨gH, 8, none⟩ (.int .i64 b2)).setCell ⟨gH, 9, none⟩ (.string r2)) gH 27 (hCells y2 b2 r2) from put10 G5.out rfl y2 b2 r2); have NV5 := Lib.hid (show Below w.heap.size w ((((((((((v5.setCell ⟨gH, 0, none⟩ (.int .u32 y2.a)).setCell ⟨gH, 1, none⟩ (.int .u32 y2.b)).setCell ⟨gH, 2, none⟩ (.int .u32 y2.c)).setCell ⟨gH, 3, none⟩ (.int .u32 y2.d)).setCell ⟨gH, 4, none⟩ (.int .u32 y2.e)).setCell ⟨gH, 5, none⟩ (.int .u32 y2.f)).setCell ⟨gH, 6, none⟩ (.int .u32 y2.g)).setCell ⟨gH, 7, none⟩ (.int .u32 y2.h)).setCell ⟨gH, 8, none⟩ (.int .i64 b2)).setCell ⟨gH, 9, none⟩ (.string r2)) from put10_below N5.out HGH.out y2 b2 r2); have k6_0 : (((((((((((v5.setCell ⟨gH, 0, none⟩ (.int .u32 y2.a)).setCell ⟨gH, 1, none⟩ (.int .u32 y2.b)).setCell ⟨gH, 2, none⟩ (.int .u32 y2.c)).setCell ⟨gH, 3, none⟩ (.int .u32 y2.d)).setCell ⟨gH, 4, none⟩ (.int .u32 y2.e)).setCell ⟨gH, 5, none⟩ (.int .u32 y2.f)).setCell ⟨gH, 6, none⟩ (.int .u32 y2.g)).setCell ⟨gH, 7, none⟩ (.int .u32 y2.h)).setCell ⟨gH, 8, none⟩ (.int .i64 b2)).setCell ⟨gH, 9, none⟩ (.string r2))).cell? ⟨gH, 0, none⟩ = some (.int .u32 y2.a) := GV5.out.cell 0; have k6_1 : (((((((((((v5.setCell ⟨gH, 0, none⟩ (.int .u32 y2.a)).setCell ⟨gH, 1, none⟩ (.int .u32 y2.b)).setCell ⟨gH, 2, none⟩ (.int .u32 y2.c)).setCell ⟨gH, 3, none⟩ (.int .u32 y2.d)).setCell ⟨gH, 4, none⟩ (.int .u32 y2.e)).setCell ⟨gH, 5, none⟩ (.int .u32 y2.f)).setCell ⟨gH, 6, none⟩ (.int .u32 y2.g)).setCell ⟨gH, 7, none⟩ (.int .u32 y2.h)).setCell ⟨gH, 8, none⟩ (.int .i64 b2)).setCell ⟨gH, 9, none⟩ (.string r2))).cell? ⟨gH, 1, none⟩ = some (.int .u32 y2.b) := GV5.out.cell 1; have k6_2 : (((((((((((v5.setCell ⟨gH, 0, none⟩ (.int .u32 y2.a)).setCell ⟨gH, 1, none⟩ (.int .u32 y2.b)).setCell ⟨gH, 2, none⟩ (.int .u32 y2.c)).setCell ⟨gH, 3, none⟩ (.int .u32 y2.d)).setCell ⟨gH, 4, none⟩ (.int .u32 y2.e)).setCell ⟨gH, 5, none⟩ (.int .u32 y2.f)).setCell ⟨gH, 6, none⟩ (.int .u32 y2.g)).setCell ⟨gH, 7, none⟩ (.int .u32 y2.h)).setCell ⟨gH, 8, none⟩ (.int .i64 b2)).setCell ⟨gH, 9, none⟩ (.string r2))).cell? ⟨gH, 2, none⟩ = some (.int .u32 y2.c) := GV5.out.cell 2; have k6_3 : (((((((((((v5.setCell ⟨gH, 0, none⟩ (.int .u32 y2.a)).setCell ⟨gH, 1, none⟩ (.int .u32 y2.b)).setCell ⟨gH, 2, none⟩ (.int .u32 y2.c)).setCell ⟨gH, 3, none⟩ (.int .u32 y2.d)).setCell ⟨gH, 4, none⟩ (.int .u32 y2.e)).setCell ⟨gH, 5, none⟩ (.int .u32 y2.f)).setCell ⟨gH, 6, none⟩ (.int .u32 y2.g)).setCell ⟨gH, 7, none⟩ (.int .u32 y2.h)).setCell ⟨gH, 8, none⟩ (.int .i64 b2)).setCell ⟨gH, 9, none⟩ (.string r2))).cell? ⟨gH, 3, none⟩ = some (.int .u32 y2.d) := GV5.out.cell 3; have k6_4 : (((((((((((v5.setCell ⟨gH, 0, none⟩ (.int .u32 y2.a)).setCell ⟨gH, 1, none⟩ (.int .u32 y2.b)).setCell ⟨gH, 2, none⟩ (.int .u32 y2.c)).setCell ⟨gH, 3, none⟩ (.int .u32 y2.d)).setCell ⟨gH, 4, none⟩ (.int .u32 y2.e)).setCell ⟨gH, 5, none⟩ (.int .u32 y2.f)).setCell ⟨gH, 6, none⟩ (.int .u32 y2.g)).setCell ⟨gH, 7, none⟩ (.int .u32 y2.h)).setCell ⟨gH, 8, none⟩ (.int .i64 b2)).setCell ⟨gH, 9, none⟩ (.string r2))).cell? ⟨gH, 4, none⟩ = some (.int .u32 y2.e) := GV5.out.cell 4; have k6_5 : (((((((((((v5.setCell ⟨gH, 0, none⟩ (.int .u32 y2.a)).setCell ⟨gH, 1, none⟩ (.int .u32 y2.b)).setCell ⟨gH, 2, none⟩ (.int .u32 y2.c)).setCell ⟨gH, 3, none⟩ (.int .u32 y2.d)).setCell ⟨gH, 4, none⟩ (.int .u32 y2.e)).setCell ⟨gH, 5, none⟩ (.int .u32 y2.f)).setCell ⟨gH, 6, none⟩ (.int .u32 y2.g)).setCell ⟨gH, 7, none⟩ (.int .u32 y2.h)).setCell ⟨gH, 8, none⟩ (.int .i64 b2)).setCell ⟨gH, 9, none⟩ (.string r2))).cell? ⟨gH, 5, none⟩ = some (.int .u32 y2.f) := GV5.out.cell 5; have k6_6 : (((((((((((v5.setCell ⟨gH, 0, none⟩ (.int .u32 y2.a)).setCell ⟨gH, 1, none⟩ (.int .u32 y2.b)).setCell ⟨gH, 2, none⟩ (.int .u32 y2.c)).setCell ⟨gH, 3, none⟩ (.int .u32 y2.d)).setCell ⟨gH, 4, none⟩ (.int .u32 y2.e)).setCell ⟨gH, 5, none⟩ (.int .u32 y2.f)).setCell ⟨gH, 6, none⟩ (.int .u32 y2.g)).setCell ⟨gH, 7, none⟩ (.int .u32 y2.h)).setCell ⟨gH, 8, none⟩ (.int .i64 b2)).setCell ⟨gH, 9, none⟩ (.string r2))).cell? ⟨gH, 6, none⟩ = some (.int .u32 y2.g) := GV5.out.cell 6; have k6_7 : (((((((((((v5.setCell ⟨gH, 0, none⟩ (.int .u32 y2.a)).setCell ⟨gH, 1, none⟩ (.int .u32 y2.b)).setCell ⟨gH, 2, none⟩ (.int .u32 y2.c)).setCell ⟨gH, 3, none⟩ (.int .u32 y2.d)).setCell ⟨gH, 4, none⟩ (.int .u32 y2.e)).setCell ⟨gH, 5, none⟩ (.int .u32 y2.f)).setCell ⟨gH, 6, none⟩ (.int .u32 y2.g)).setCell ⟨gH, 7, none⟩ (.int .u32 y2.h)).setCell ⟨gH, 8, none⟩ (.int .i64 b2)).setCell ⟨gH, 9, none⟩ (.string r2))).cell? ⟨gH, 7, none⟩ = some (.int .u32 y2.h) := GV5.out.cell 7; have k6_8 : (((((((((((v5.setCell ⟨gH, 0, none⟩ (.int .u32 y2.a)).setCell ⟨gH, 1, none⟩ (.int .u32 y2.b)).setCell ⟨gH, 2, none⟩ (.int .u32 y2.c)).setCell ⟨gH, 3, none⟩ (.int .u32 y2.d)).setCell ⟨gH, 4, none⟩ (.int .u32 y2.e)).setCell ⟨gH, 5, none⟩ (.int .u32 y2.f)).setCell ⟨gH, 6, none⟩ (.int .u32 y2.g)).setCell ⟨gH, 7, none⟩ (.int .u32 y2.h)).setCell ⟨gH, 8, none⟩ (.int .i64 b2)).setCell ⟨gH, 9, none⟩ (.string r2))).cell? ⟨gH, 8, none⟩ = some (.int .i64 b2) := GV5.out.cell 8; have k6_9 : (((((((((((v5.setCell ⟨gH, 0, none⟩ (.int .u32 y2.a)).setCell ⟨gH, 1, none⟩ (.int .u32 y2.b)).setCell ⟨gH, 2, none⟩ (.int .u32 y2.c)).setCell ⟨gH, 3, none⟩ (.int .u32 y2.d)).setCell ⟨gH, 4, none⟩ (.int .u32 y2.e)).setCell ⟨gH, 5, none⟩ (.int .u32 y2.f)).setCell ⟨gH, 6, none⟩ (.int .u32 y2.g)).setCell ⟨gH, 7, none⟩ (.int .u32 y2.h)).setCell ⟨gH, 8, none⟩ (.int .i64 b2)).setCell ⟨gH, 9, none⟩ (.string r2))).cell? ⟨gH, 9, none⟩ = some (.string r2) := GV5.out.cell 9)
      | (go_at_call 14; have tok := N3; clear tok; refine (C4.out _ (HT.out.keep N3.out)).mono ?_; rintro e v4 ⟨rfl, hb⟩; have G4 := Lib.hid (keepBlk hb G3.out); have X4 := Lib.hid (keepBlk hb X3.out); have Y4 := Lib.hid (keepBlk hb Y3.out); have N4 := Lib.hid (keepBelow N3.out hb); have k4_0 : (v4).cell? ⟨v1.heap.size, 0, none⟩ = some (.int .u32 y1.a) := X4.out.cell 0; have k4_1 : (v4).cell? ⟨v1.heap.size, 1, none⟩ = some (.int .u32 y1.b) := X4.out.cell 1; have k4_2 : (v4).cell? ⟨v1.heap.size, 2, none⟩ = some (.int .u32 y1.c) := X4.out.cell 2; have k4_3 : (v4).cell? ⟨v1.heap.size, 3, none⟩ = some (.int .u32 y1.d) := X4.out.cell 3; have k4_4 : (v4).cell? ⟨v1.heap.size, 4, none⟩ = some (.int .u32 y1.e) := X4.out.cell 4; have k4_5 : (v4).cell? ⟨v1.heap.size, 5, none⟩ = some (.int .u32 y1.f) := X4.out.cell 5; have k4_6 : (v4).cell? ⟨v1.heap.size, 6, none⟩ = some (.int .u32 y1.g) := X4.out.cell 6; have k4_7 : (v4).cell? ⟨v1.heap.size, 7, none⟩ = some (.int .u32 y1.h) := X4.out.cell 7; have k4_8 : (v4).cell? ⟨v1.heap.size, 8, none⟩ = some (.int .i64 b1) := X4.out.cell 8; have k4_9 : (v4).cell? ⟨v1.heap.size, 9, none⟩ = some (.string r1) := X4.out.cell 9; clear hb)
      | (go_at_call 13; have tok := NV2; clear tok; refine (C3.out y1 b1 r1 HI1.out _ (HT.out.keep NV2.out)).mono ?_; rintro e v3 ⟨rfl, hb⟩; have G3 := Lib.hid (keepBlk hb GV2.out); have X3 := Lib.hid (keepBlk hb XV2.out); have Y3 := Lib.hid (keepBlk hb Y2.out); have N3 := Lib.hid (keepBelow NV2.out hb); clear hb)
      | (go_at_call 12; have tok := NV1; clear tok; refine (C2.out _ (HT.out.keep NV1.out)).mono ?_; rintro e v2 ⟨y2, b2, r2, rfl, hI2, hb2⟩; have HI2 := Lib.hid hI2; have G2 := Lib.hid (keepBlk hb2 GV1.out); have X2 := Lib.hid (keepBlk hb2 X1.out); have N2 := Lib.hid (keepBelow NV1.out hb2); have Y2 := Lib.hid (show Blk (v2.alloc (.cells #[.int .u32 y2.a, .int .u32 y2.b, .int .u32 y2.c, .int .u32 y2.d, .int .u32 y2.e, .int .u32 y2.f, .int .u32 y2.g, .int .u32 y2.h, .int .i64 b2, .string r2] 27)) v2.heap.size 27 (hCells y2 b2 r2) from Blk.new v2 27 (hCells y2 b2 r2)); have GV2 := Lib.hid (show Blk (v2.alloc (.cells #[.int .u32 y2.a, .int .u32 y2.b, .int .u32 y2.c, .int .u32 y2.d, .int .u32 y2.e, .int .u32 y2.f, .int .u32 y2.g, .int .u32 y2.h, .int .i64 b2, .string r2] 27)) gH 27 (hCells x b r) from Blk.alloc G2.out _); have XV2 := Lib.hid (show Blk (v2.alloc (.cells #[.int .u32 y2.a, .int .u32 y2.b, .int .u32 y2.c, .int .u32 y2.d, .int .u32 y2.e, .int .u32 y2.f, .int .u32 y2.g, .int .u32 y2.h, .int .i64 b2, .string r2] 27)) v1.heap.size 27 (hCells y1 b1 r1) from Blk.alloc X2.out _); have NV2 := Lib.hid (show Below w.heap.size w (v2.alloc (.cells #[.int .u32 y2.a, .int .u32 y2.b, .int .u32 y2.c, .int .u32 y2.d, .int .u32 y2.e, .int .u32 y2.f, .int .u32 y2.g, .int .u32 y2.h, .int .i64 b2, .string r2] 27)) from (N2.out).alloc N2.out.size _); have k2_0 : (v2.alloc (.cells #[.int .u32 y2.a, .int .u32 y2.b, .int .u32 y2.c, .int .u32 y2.d, .int .u32 y2.e, .int .u32 y2.f, .int .u32 y2.g, .int .u32 y2.h, .int .i64 b2, .string r2] 27)).cell? ⟨v1.heap.size, 0, none⟩ = some (.int .u32 y1.a) := XV2.out.cell 0; have k2_1 : (v2.alloc (.cells #[.int .u32 y2.a, .int .u32 y2.b, .int .u32 y2.c, .int .u32 y2.d, .int .u32 y2.e, .int .u32 y2.f, .int .u32 y2.g, .int .u32 y2.h, .int .i64 b2, .string r2] 27)).cell? ⟨v1.heap.size, 1, none⟩ = some (.int .u32 y1.b) := XV2.out.cell 1; have k2_2 : (v2.alloc (.cells #[.int .u32 y2.a, .int .u32 y2.b, .int .u32 y2.c, .int .u32 y2.d, .int .u32 y2.e, .int .u32 y2.f, .int .u32 y2.g, .int .u32 y2.h, .int .i64 b2, .string r2] 27)).cell? ⟨v1.heap.size, 2, none⟩ = some (.int .u32 y1.c) := XV2.out.cell 2; have k2_3 : (v2.alloc (.cells #[.int .u32 y2.a, .int .u32 y2.b, .int .u32 y2.c, .int .u32 y2.d, .int .u32 y2.e, .int .u32 y2.f, .int .u32 y2.g, .int .u32 y2.h, .int .i64 b2, .string r2] 27)).cell? ⟨v1.heap.size, 3, none⟩ = some (.int .u32 y1.d) := XV2.out.cell 3; have k2_4 : (v2.alloc (.cells #[.int .u32 y2.a, .int .u32 y2.b, .int .u32 y2.c, .int .u32 y2.d, .int .u32 y2.e, .int .u32 y2.f, .int .u32 y2.g, .int .u32 y2.h, .int .i64 b2, .string r2] 27)).cell? ⟨v1.heap.size, 4, none⟩ = some (.int .u32 y1.e) := XV2.out.cell 4; have k2_5 : (v2.alloc (.cells #[.int .u32 y2.a, .int .u32 y2.b, .int .u32 y2.c, .int .u32 y2.d, .int .u32 y2.e, .int .u32 y2.f, .int .u32 y2.g, .int .u32 y2.h, .int .i64 b2, .string r2] 27)).cell? ⟨v1.heap.size, 5, none⟩ = some (.int .u32 y1.f) := XV2.out.cell 5; have k2_6 : (v2.alloc (.cells #[.int .u32 y2.a, .int .u32 y2.b, .int .u32 y2.c, .int .u32 y2.d, .int .u32 y2.e, .int .u32 y2.f, .int .u32 y2.g, .int .u32 y2.h, .int .i64 b2, .string r2] 27)).cell? ⟨v1.heap.size, 6, none⟩ = some (.int .u32 y1.g) := XV2.out.cell 6; have k2_7 : (v2.alloc (.cells #[.int .u32 y2.a, .int .u32 y2.b, .int .u32 y2.c, .int .u32 y2.d, .int .u32 y2.e, .int .u32 y2.f, .int .u32 y2.g, .int .u32 y2.h, .int .i64 b2, .string r2] 27)).cell? ⟨v1.heap.size, 7, none⟩ = some (.int .u32 y1.h) := XV2.out.cell 7; have k2_8 : (v2.alloc (.cells #[.int .u32 y2.a, .int .u32 y2.b, .int .u32 y2.c, .int .u32 y2.d, .int .u32 y2.e, .int .u32 y2.f, .int .u32 y2.g, .int .u32 y2.h, .int .i64 b2, .string r2] 27)).cell? ⟨v1.heap.size, 8, none⟩ = some (.int .i64 b1) := XV2.out.cell 8; have k2_9 : (v2.alloc (.cells #[.int .u32 y2.a, .int .u32 y2.b, .int .u32 y2.c, .int .u32 y2.d, .int .u32 y2.e, .int .u32 y2.f, .int .u32 y2.g, .int .u32 y2.h, .int .i64 b2, .string r2] 27)).cell? ⟨v1.heap.size, 9, none⟩ = some (.string r1) := XV2.out.cell 9; have ne2 := Nat.ne_of_lt X2.out.lt; clear hI2 hb2)
      | (go_at_call 12; have tok := BW; clear tok; refine (C1.out _ (HT.out.keep BW.out)).mono ?_; rintro e v1 ⟨y1, b1, r1, rfl, hI1, hb1⟩; have HI1 := Lib.hid hI1; have G1 := Lib.hid (keepBlk hb1 GW.out); have N1 := Lib.hid (keepBelow BW.out hb1); have X1 := Lib.hid (show Blk (v1.alloc (.cells #[.int .u32 y1.a, .int .u32 y1.b, .int .u32 y1.c, .int .u32 y1.d, .int .u32 y1.e, .int .u32 y1.f, .int .u32 y1.g, .int .u32 y1.h, .int .i64 b1, .string r1] 27)) v1.heap.size 27 (hCells y1 b1 r1) from Blk.new v1 27 (hCells y1 b1 r1)); have GV1 := Lib.hid (show Blk (v1.alloc (.cells #[.int .u32 y1.a, .int .u32 y1.b, .int .u32 y1.c, .int .u32 y1.d, .int .u32 y1.e, .int .u32 y1.f, .int .u32 y1.g, .int .u32 y1.h, .int .i64 b1, .string r1] 27)) gH 27 (hCells x b r) from Blk.alloc G1.out _); have NV1 := Lib.hid (show Below w.heap.size w (v1.alloc (.cells #[.int .u32 y1.a, .int .u32 y1.b, .int .u32 y1.c, .int .u32 y1.d, .int .u32 y1.e, .int .u32 y1.f, .int .u32 y1.g, .int .u32 y1.h, .int .i64 b1, .string r1] 27)) from (N1.out).alloc N1.out.size _); have k1_0 : (v1.alloc (.cells #[.int .u32 y1.a, .int .u32 y1.b, .int .u32 y1.c, .int .u32 y1.d, .int .u32 y1.e, .int .u32 y1.f, .int .u32 y1.g, .int .u32 y1.h, .int .i64 b1, .string r1] 27)).cell? ⟨gH, 0, none⟩ = some (.int .u32 x.a) := GV1.out.cell 0; have k1_1 : (v1.alloc (.cells #[.int .u32 y1.a, .int .u32 y1.b, .int .u32 y1.c, .int .u32 y1.d, .int .u32 y1.e, .int .u32 y1.f, .int .u32 y1.g, .int .u32 y1.h, .int .i64 b1, .string r1] 27)).cell? ⟨gH, 1, none⟩ = some (.int .u32 x.b) := GV1.out.cell 1; have k1_2 : (v1.alloc (.cells #[.int .u32 y1.a, .int .u32 y1.b, .int .u32 y1.c, .int .u32 y1.d, .int .u32 y1.e, .int .u32 y1.f, .int .u32 y1.g, .int .u32 y1.h, .int .i64 b1, .string r1] 27)).cell? ⟨gH, 2, none⟩ = some (.int .u32 x.c) := GV1.out.cell 2; have k1_3 : (v1.alloc (.cells #[.int .u32 y1.a, .int .u32 y1.b, .int .u32 y1.c, .int .u32 y1.d, .int .u32 y1.e, .int .u32 y1.f, .int .u32 y1.g, .int .u32 y1.h, .int .i64 b1, .string r1] 27)).cell? ⟨gH, 3, none⟩ = some (.int .u32 x.d) := GV1.out.cell 3; have k1_4 : (v1.alloc (.cells #[.int .u32 y1.a, .int .u32 y1.b, .int .u32 y1.c, .int .u32 y1.d, .int .u32 y1.e, .int .u32 y1.f, .int .u32 y1.g, .int .u32 y1.h, .int .i64 b1, .string r1] 27)).cell? ⟨gH, 4, none⟩ = some (.int .u32 x.e) := GV1.out.cell 4; have k1_5 : (v1.alloc (.cells #[.int .u32 y1.a, .int .u32 y1.b, .int .u32 y1.c, .int .u32 y1.d, .int .u32 y1.e, .int .u32 y1.f, .int .u32 y1.g, .int .u32 y1.h, .int .i64 b1, .string r1] 27)).cell? ⟨gH, 5, none⟩ = some (.int .u32 x.f) := GV1.out.cell 5; have k1_6 : (v1.alloc (.cells #[.int .u32 y1.a, .int .u32 y1.b, .int .u32 y1.c, .int .u32 y1.d, .int .u32 y1.e, .int .u32 y1.f, .int .u32 y1.g, .int .u32 y1.h, .int .i64 b1, .string r1] 27)).cell? ⟨gH, 6, none⟩ = some (.int .u32 x.g) := GV1.out.cell 6; have k1_7 : (v1.alloc (.cells #[.int .u32 y1.a, .int .u32 y1.b, .int .u32 y1.c, .int .u32 y1.d, .int .u32 y1.e, .int .u32 y1.f, .int .u32 y1.g, .int .u32 y1.h, .int .i64 b1, .string r1] 27)).cell? ⟨gH, 7, none⟩ = some (.int .u32 x.h) := GV1.out.cell 7; have k1_8 : (v1.alloc (.cells #[.int .u32 y1.a, .int .u32 y1.b, .int .u32 y1.c, .int .u32 y1.d, .int .u32 y1.e, .int .u32 y1.f, .int .u32 y1.g, .int .u32 y1.h, .int .i64 b1, .string r1] 27)).cell? ⟨gH, 8, none⟩ = some (.int .i64 b) := GV1.out.cell 8; have k1_9 : (v1.alloc (.cells #[.int .u32 y1.a, .int .u32 y1.b, .int .u32 y1.c, .int .u32 y1.d, .int .u32 y1.e, .int .u32 y1.f, .int .u32 y1.g, .int .u32 y1.h, .int .i64 b1, .string r1] 27)).cell? ⟨gH, 9, none⟩ = some (.string r) := GV1.out.cell 9; have ne1 := Nat.ne_of_lt G1.out.lt; clear hI1 hb1))
        refine ⟨⟨u + 1, AB ++ su, y2, b2, r2, by omega, rfl, rfl, HLB.out, by rw [ap_list]; exact HI2.out, G8.out, N8.out⟩, by simp [intOf]; omega⟩
    · obtain rfl : u = n := by omega
      have hAB2 : AB.size ≤ 6000 := by omega
      obtain ⟨SX, hSX⟩ : ∃ S : ByteArray, S = ⟨(SH.sum AB.data.toList).toArray⟩ := ⟨_, rfl⟩
      have hsx : SX.size = 32 := by rw [hSX, str_size]; exact sum_len _
      have C1 := Lib.hid (fun W (hW : Tabs W) => (sum_any AB (by omega) W hW).mono (fun e w' h => by rw [← hSX] at h; exact h))
      have C2 := Lib.hid (fun W => (rsum_any AB (by omega) W).mono (fun e w' h => by rw [← hSX] at h; exact h))
      have C3 := Lib.hid (fun W (hW : Tabs W) => (hsum _ x b r HI.out (by rw [bytes_len]; omega) W hW).mono (fun e w' h => by rw [← hSX] at h; exact h))
      clear hSX hAB hAB2
      go_wp2_with (first
        | (go_at_call 13; have tok := N2; clear tok; refine (C3.out _ (HT.out.keep N2.out)).mono ?_; rintro e v3 ⟨rfl, hb⟩; have N3 := Lib.hid (keepBelow N2.out hb); clear hb)
        | (go_at_call 16; have tok := N1; clear tok; refine (C2.out _).mono ?_; rintro e v2 ⟨rfl, hb⟩; have G2 := Lib.hid (keepBlk hb G1.out); have N2 := Lib.hid (keepBelow N1.out hb); have k2_0 : (v2).cell? ⟨gH, 0, none⟩ = some (.int .u32 x.a) := G2.out.cell 0; have k2_1 : (v2).cell? ⟨gH, 1, none⟩ = some (.int .u32 x.b) := G2.out.cell 1; have k2_2 : (v2).cell? ⟨gH, 2, none⟩ = some (.int .u32 x.c) := G2.out.cell 2; have k2_3 : (v2).cell? ⟨gH, 3, none⟩ = some (.int .u32 x.d) := G2.out.cell 3; have k2_4 : (v2).cell? ⟨gH, 4, none⟩ = some (.int .u32 x.e) := G2.out.cell 4; have k2_5 : (v2).cell? ⟨gH, 5, none⟩ = some (.int .u32 x.f) := G2.out.cell 5; have k2_6 : (v2).cell? ⟨gH, 6, none⟩ = some (.int .u32 x.g) := G2.out.cell 6; have k2_7 : (v2).cell? ⟨gH, 7, none⟩ = some (.int .u32 x.h) := G2.out.cell 7; have k2_8 : (v2).cell? ⟨gH, 8, none⟩ = some (.int .i64 b) := G2.out.cell 8; have k2_9 : (v2).cell? ⟨gH, 9, none⟩ = some (.string r) := G2.out.cell 9; clear hb)
        | (go_at_call 14; have tok := BW; clear tok; refine (C1.out _ (HT.out.keep BW.out)).mono ?_; rintro e v1 ⟨rfl, hb⟩; have G1 := Lib.hid (keepBlk hb GW.out); have N1 := Lib.hid (keepBelow BW.out hb); clear hb))
      go_ret
      exact ⟨rfl, N3.out⟩
set_option maxRecDepth 100000 in
set_option maxHeartbeats 1600000 in
theorem sums_none (other : ByteArray) (ho : other.size ≤ 300) (w : World) (hT : Tabs w) :
    Calls Tryd.prog 3 #[.slice none 0 0, .string other] w fun e w' => e = .returned (.bool true) ∧ Below w.heap.size w w' := by
  have HT := Lib.hid hT
  have CA := Lib.hid (awake_any w hT)
  have g2 : ¬ (300 : Int) < other.size := by omega
  have d2 : decide ((300 : Int) < (other.size : Int)) = false := decide_eq_false g2
  obtain ⟨SX, hSX⟩ : ∃ S : ByteArray, S = ⟨(SH.sum []).toArray⟩ := ⟨_, rfl⟩
  have hsx : SX.size = 32 := by rw [hSX, str_size]; exact sum_len _
  have C1 := Lib.hid (fun W (hW : Tabs W) => (sum_any ⟨#[]⟩ (by decide) W hW).mono (fun e w' h => by rw [show (⟨#[]⟩ : ByteArray).data.toList = [] from rfl, ← hSX] at h; exact h))
  have C2 := Lib.hid (fun W => (rsum_any ⟨#[]⟩ (by decide) W).mono (fun e w' h => by rw [show (⟨#[]⟩ : ByteArray).data.toList = [] from rfl, ← hSX] at h; exact h))
  have C3 := Lib.hid (fun W (hW : Tabs W) => (hsum [] ⟨0, 0, 0, 0, 0, 0, 0, 0⟩ 0 ⟨#[]⟩ isH_zero (by decide) W hW).mono (fun e w' h => by rw [← hSX] at h; exact h))
  clear hT hSX
  go_enter Tryd.func3, Tryd.ntmps3
  go_wp2_with (go_at_call 11; refine CA.out.mono ?_; rintro e v0 ⟨rfl, hb0⟩; have B0 := Lib.hid hb0; clear hb0)
  obtain ⟨gH, hgH⟩ : ∃ g, g = v0.heap.size := ⟨_, rfl⟩
  obtain ⟨W0, hW0⟩ : ∃ W0, W0 = v0.alloc (.cells #[.int .u32 0, .int .u32 0, .int .u32 0, .int .u32 0, .int .u32 0, .int .u32 0, .int .u32 0, .int .u32 0, .int .i64 0, .string ⟨#[]⟩] 27) := ⟨_, rfl⟩
  have hG0 : Blk W0 gH 27 (hCells ⟨0, 0, 0, 0, 0, 0, 0, 0⟩ 0 ⟨#[]⟩) := by rw [hW0, hgH]; exact Blk.new v0 27 zeroC
  have hN0 : Below w.heap.size w W0 := by rw [hW0]; exact (B0.out).alloc B0.out.size _
  rw [← hW0, ← hgH]
  have GW := Lib.hid hG0
  have BW := Lib.hid hN0
  clear hW0 hgH hG0 hN0 B0 CA
  go_loopw [5, 23] (fun s5 i wr => s5 = .string ⟨#[]⟩ ∧ i = .int .i64 0 ∧ wr = W0) (fun _ _ _ => 0)
  case atStart => exact ⟨rfl, rfl, rfl⟩
  case round =>
    obtain ⟨rfl, rfl, rfl⟩ := hrel
    go_wp2_with (first
      | (go_at_call 13; have tok := N2; clear tok; refine (C3.out _ (HT.out.keep N2.out)).mono ?_; rintro e v3 ⟨rfl, hb⟩; have N3 := Lib.hid (keepBelow N2.out hb); clear hb)
      | (go_at_call 16; have tok := N1; clear tok; refine (C2.out _).mono ?_; rintro e v2 ⟨rfl, hb⟩; have G2 := Lib.hid (keepBlk hb G1.out); have N2 := Lib.hid (keepBelow N1.out hb); have k2_0 : v2.cell? ⟨gH, 0, none⟩ = some (.int .u32 0) := G2.out.cell 0; have k2_1 : v2.cell? ⟨gH, 1, none⟩ = some (.int .u32 0) := G2.out.cell 1; have k2_2 : v2.cell? ⟨gH, 2, none⟩ = some (.int .u32 0) := G2.out.cell 2; have k2_3 : v2.cell? ⟨gH, 3, none⟩ = some (.int .u32 0) := G2.out.cell 3; have k2_4 : v2.cell? ⟨gH, 4, none⟩ = some (.int .u32 0) := G2.out.cell 4; have k2_5 : v2.cell? ⟨gH, 5, none⟩ = some (.int .u32 0) := G2.out.cell 5; have k2_6 : v2.cell? ⟨gH, 6, none⟩ = some (.int .u32 0) := G2.out.cell 6; have k2_7 : v2.cell? ⟨gH, 7, none⟩ = some (.int .u32 0) := G2.out.cell 7; have k2_8 : v2.cell? ⟨gH, 8, none⟩ = some (.int .i64 0) := G2.out.cell 8; have k2_9 : v2.cell? ⟨gH, 9, none⟩ = some (.string ⟨#[]⟩) := G2.out.cell 9; clear hb)
      | (go_at_call 14; have tok := BW; clear tok; refine (C1.out _ (HT.out.keep BW.out)).mono ?_; rintro e v1 ⟨rfl, hb⟩; have G1 := Lib.hid (keepBlk hb GW.out); have N1 := Lib.hid (keepBelow BW.out hb); clear hb))
    go_ret
    exact ⟨rfl, N3.out⟩
theorem sums_big (v : Value) (n cap : Nat) (a : Option Addr) (hv : v = .slice a n cap) (other : ByteArray) (h : 20 < n ∨ 300 < other.size) (w : World) (hT : Tabs w) :
    Calls Tryd.prog 3 #[v, .string other] w fun e w' => e = .returned (.bool true) ∧ Below w.heap.size w w' := by
  subst hv
  have CA := Lib.hid (awake_any w hT)
  clear hT
  by_cases h1 : 20 < n
  · have g1 : (20 : Int) < n := by omega
    clear h
    go_enter Tryd.func3, Tryd.ntmps3
    go_wp2_with (go_at_call 11; refine CA.out.mono ?_; rintro e v0 ⟨rfl, hb0⟩; have B0 := Lib.hid hb0; clear hb0)
    go_ret
    exact ⟨rfl, B0.out⟩
  · have g1 : ¬ (20 : Int) < n := by omega
    have g2 : (300 : Int) < other.size := by omega
    clear h
    go_enter Tryd.func3, Tryd.ntmps3
    go_wp2_with (go_at_call 11; refine CA.out.mono ?_; rintro e v0 ⟨rfl, hb0⟩; have B0 := Lib.hid hb0; clear hb0)
    go_ret
    exact ⟨rfl, B0.out⟩
end Go.Proofs.YtklikkmnemooeaaDoor
