/- The law's two sides in memory; open (13). -/
import Derived.Test.YtmblnacckboggaaDoorP2
import Derived.Test.YtmblnacckboggaaDoorP4
namespace Go.Proofs.YtmblnacckboggaaDoor
open Go.RowKit
def endsC (p0 p1 q0 q1 : Value) (R0 R1 : Lk) (y0 y1 : ByteArray) : List Value := [p0, p1, q0, q1] ++ refC R0 ++ refC R1 ++ [.string y0, .string y1]
def zLk : Lk := ⟨⟨#[]⟩, 0, 0, 0, ⟨#[]⟩, false⟩
def zWi : Wi := ⟨⟨#[]⟩, 0, 0, ⟨#[]⟩, 0⟩
def pt (b : Nat) : Value := .pointer (some ⟨b, 0, none⟩)
def keyB (k : ByteArray) : ByteArray := ⟨(keyL k).toArray⟩
def lkO (k : ByteArray) (side : Int) : Lk := ⟨keyB k, side, 0, 0, ⟨#[]⟩, false⟩
theorem keyL_len (k : ByteArray) : (keyL k).length = 32 := by
  unfold keyL
  rw [List.length_take, List.length_append, List.length_replicate]
  omega
theorem keyB_list (k : ByteArray) : (keyB k).data.toList = keyL k := rfl
theorem keyB_ok (k : ByteArray) (side : Int) (hs : side = 1 ∨ side = 2) : badE (keyB k).data.toList side 0 = 0 := by
  rw [keyB_list]
  unfold badE
  rw [keyL_len, if_neg (by simp), if_neg (by omega), if_neg (by omega)]
theorem key_big (s : ByteArray) (hs : s.size ≤ 200000000000000) (w : World) : Calls Tryd.prog 20 #[.string s] w fun e w' => e = .returned (.string ⟨(keyL s).toArray⟩) ∧ Below w.heap.size w w' := by
  have CR := Lib.hid (Tryd.strings_Repeat ⟨#[107]⟩ 32 w (by decide) (by decide))
  obtain ⟨R, hR⟩ : ∃ R : ByteArray, R = ⟨(Lib.repeatL (⟨#[107]⟩ : ByteArray).data.toList 32).toArray⟩ := ⟨_, rfl⟩
  have hRl : R.data.toList = List.replicate 32 107 := by rw [hR]; decide +kernel
  have hRs : R.size = 32 := by rw [← bytes_len, hRl]; rfl
  rw [← hR] at CR
  have k1 : ¬ 9223372036854775807 < s.size + R.size := by omega
  have k2 : (32 : Int) ≤ (s ++ R).size := by rw [ByteArray.size_append]; omega
  have k3 : 32 ≤ (s ++ R).size := by rw [ByteArray.size_append]; omega
  have FIN := Lib.hid (show ((s ++ R).extract 0 32) = ⟨(keyL s).toArray⟩ by
    have h : ((s ++ R).extract 0 32).data.toList = keyL s := by rw [ex_take, ap_list, hRl]; rfl
    rw [← h])
  clear hR hRl hRs
  go_enter Tryd.func20, Tryd.ntmps20
  go_wp2_with (go_at_call 26; refine (CR.out).mono ?_; rintro e v1 ⟨rfl, hb1⟩; have B1 := Lib.hid hb1; clear hb1)
  go_ret
  exact ⟨by rw [← FIN.out]; rfl, B1.out⟩
/-- the two sides: links, wires, the references' links, the bytes on their way -/
structure En (w : World) (B g l0 l1 w0 w1 : Nat) (L0 L1 : Lk) (X0 X1 : Wi) (R0 R1 : Lk) (y0 y1 : ByteArray) : Prop where
  base : B ≤ g
  o0 : g < w0
  o1 : w0 < l0
  o2 : l0 < w1
  o3 : w1 < l1
  blk : Blk w g 45 (endsC (pt l0) (pt l1) (pt w0) (pt w1) R0 R1 y0 y1)
  k0 : Blk w l0 89 (linkC w0 L0)
  k1 : Blk w l1 89 (linkC w1 L1)
  x0 : Blk w w0 48 (wireC X0)
  x1 : Blk w w1 48 (wireC X1)
def OpenI (w : World) (k : ByteArray) (g : Nat) (u : Nat) (wr : World) : Prop :=
  Below w.heap.size w wr ∧ w.heap.size ≤ g ∧ match u with
  | 0 => Blk wr g 45 (endsC (.pointer none) (.pointer none) (.pointer none) (.pointer none) zLk zLk ⟨#[]⟩ ⟨#[]⟩)
  | 1 => ∃ l0 w0, g < w0 ∧ w0 < l0 ∧ Blk wr g 45 (endsC (pt l0) (.pointer none) (pt w0) (.pointer none) (lkO k 1) zLk ⟨#[]⟩ ⟨#[]⟩) ∧ Blk wr l0 89 (linkC w0 (lkO k 1)) ∧ Blk wr w0 48 (wireC zWi)
  | _ => ∃ l0 l1 w0 w1, En wr w.heap.size g l0 l1 w0 w1 (lkO k 1) (lkO k 2) zWi zWi (lkO k 1) (lkO k 2) ⟨#[]⟩ ⟨#[]⟩
def OpenP (w : World) (k : ByteArray) (e : Ending) (w' : World) : Prop := ∃ g l0 l1 w0 w1, e = .returned (.pointer (some ⟨g, 0, none⟩)) ∧ En w' w.heap.size g l0 l1 w0 w1 (lkO k 1) (lkO k 2) zWi zWi (lkO k 1) (lkO k 2) ⟨#[]⟩ ⟨#[]⟩ ∧ Below w.heap.size w w'
set_option maxRecDepth 100000 in
set_option maxHeartbeats 6400000 in
theorem open_two (k : ByteArray) (hk : k.size ≤ 200000000000000) (w : World) : Calls Tryd.prog 13 #[.string k] w (OpenP w k) := by
  have CK := Lib.hid (fun W => key_big k hk W)
  obtain ⟨K, hK⟩ : ∃ K : ByteArray, K = keyB k := ⟨_, rfl⟩
  rw [show (⟨(keyL k).toArray⟩ : ByteArray) = K from hK.symm] at CK
  have CN1 := Lib.hid (fun wb W => new_ok wb (keyB k) 1 (keyB_ok k 1 (.inl rfl)) W)
  have CN2 := Lib.hid (fun wb W => new_ok wb (keyB k) 2 (keyB_ok k 2 (.inr rfl)) W)
  rw [← hK] at CN1 CN2
  have HK := Lib.hid hK
  have EK : lkO k 1 = ⟨K, 1, 0, 0, ⟨#[]⟩, false⟩ := by rw [hK]; rfl
  have EK2 : lkO k 2 = ⟨K, 2, 0, 0, ⟨#[]⟩, false⟩ := by rw [hK]; rfl
  have EH1 := Lib.hid EK
  have EH2 := Lib.hid EK2
  rw [← EK] at CN1
  rw [← EK2] at CN2
  clear hK hk EK EK2
  go_enter Tryd.func13, Tryd.ntmps13
  go_upto_region 2 with fail
  have G0 : Hid (Blk (w.alloc (.cells #[.pointer none, .pointer none, .pointer none, .pointer none, .string ⟨#[]⟩, .int .i64 0, .string ⟨#[]⟩, .int .i64 0, .int .i64 0, .bool false, .string ⟨#[]⟩, .int .i64 0, .string ⟨#[]⟩, .int .i64 0, .int .i64 0, .bool false, .string ⟨#[]⟩, .string ⟨#[]⟩] 45)) w.heap.size 45 (endsC (.pointer none) (.pointer none) (.pointer none) (.pointer none) zLk zLk ⟨#[]⟩ ⟨#[]⟩)) := Lib.hid (Blk.new w 45 [_, _, _, _, _, _, _, _, _, _, _, _, _, _, _, _, _, _])
  have hB0 : Below w.heap.size w (w.alloc (.cells #[.pointer none, .pointer none, .pointer none, .pointer none, .string ⟨#[]⟩, .int .i64 0, .string ⟨#[]⟩, .int .i64 0, .int .i64 0, .bool false, .string ⟨#[]⟩, .int .i64 0, .string ⟨#[]⟩, .int .i64 0, .int .i64 0, .bool false, .string ⟨#[]⟩, .string ⟨#[]⟩] 45)) := (Below.refl _ _).alloc (Nat.le_refl _) _
  have B0 := Lib.hid hB0
  obtain ⟨V0, hV0⟩ : ∃ V0, V0 = w.alloc (.cells #[.pointer none, .pointer none, .pointer none, .pointer none, .string ⟨#[]⟩, .int .i64 0, .string ⟨#[]⟩, .int .i64 0, .int .i64 0, .bool false, .string ⟨#[]⟩, .int .i64 0, .string ⟨#[]⟩, .int .i64 0, .int .i64 0, .bool false, .string ⟨#[]⟩, .string ⟨#[]⟩] 45) := ⟨_, rfl⟩
  rw [← hV0] at G0 B0
  rw [← hV0]
  clear hV0 hB0
  obtain ⟨g, hg⟩ : ∃ g, g = w.heap.size := ⟨_, rfl⟩
  rw [← hg] at G0
  rw [← hg]
  have hgw : w.heap.size ≤ g := by omega
  clear hg
  go_wp2_with fail
  go_loopg [9] 2 (fun k' c wr => ∃ u : Nat, u + k' = 2 ∧ c = .int .i64 u ∧ OpenI w k g u wr)
  case atStart => exact ⟨0, rfl, rfl, B0.out, hgw, G0.out⟩
  case round =>
    obtain ⟨u, hu, rfl, hI⟩ := hrel
    have hu3 : u = 0 ∨ u = 1 ∨ u = 2 := by omega
    clear G0 B0 hgw
    rcases hu3 with rfl | rfl | rfl
    · obtain ⟨hB, hgw, hG⟩ := hI
      have HB := Lib.hid hB
      have HG := Lib.hid hG
      have f2 := hG.frozen 2
      have p2 : wr.cell? ⟨g, 2, none⟩ = some (.pointer none) := hG.cell 2
      have hgl := hG.lt
      clear hB hG
      go_upto_region 6 with fail
      obtain ⟨wb, hwb⟩ : ∃ wb, wb = wr.heap.size := ⟨_, rfl⟩
      obtain ⟨V1, hV1⟩ : ∃ V1, V1 = (wr.setCell ⟨g, 2, none⟩ (pt wr.heap.size)).alloc (.cells #[.string ⟨#[]⟩, .int .i64 0, .int .i64 0, .string ⟨#[]⟩, .int .i64 0] 48) := ⟨_, rfl⟩
      have G1 : Hid (Blk V1 g 45 (endsC (.pointer none) (.pointer none) (pt wb) (.pointer none) zLk zLk ⟨#[]⟩ ⟨#[]⟩)) := by rw [hV1, hwb]; exact Lib.hid ((HG.out.set_ 2 _).alloc _)
      have W1 : Hid (Blk V1 wb 48 (wireC zWi)) := by rw [hV1, hwb]; exact Lib.hid (blk_at (by simp [World.setCell]) 48 [_, _, _, _, _])
      have B1 : Hid (Below w.heap.size w V1) := by rw [hV1]; exact Lib.hid (((HB.out.setCell hgw _)).alloc (size_set HB.out.size _ _) _)
      have hwg : g < wb := by rw [hwb]; exact hgl
      have hw1 : wb < V1.heap.size := W1.out.lt
      unfold pt at hV1
      rw [← hV1]
      clear hV1 p2 f2 hgl hwb
      have p2 : V1.cell? ⟨g, 2, none⟩ = some (.pointer (some ⟨wb, 0, none⟩)) := G1.out.cell 2
      go_cut [5, 6] (fun c5 c6 wx => ∃ lb, c5 = .pointer (some ⟨lb, 0, none⟩) ∧ c6 = .int .i64 0 ∧ V1.heap.size ≤ lb ∧ Blk wx lb 89 (linkC wb (lkO k 1)) ∧ Below V1.heap.size V1 wx)
      case first =>
        go_region_held3 (fun W => W.cell? ⟨g, 2, none⟩ = some (.pointer (some ⟨wb, 0, none⟩))) (first | go_keep | exact r1 | exact r2) (first
          | (go_at_call 20; refine (CK.out _).mono ?_; rintro e v2 ⟨rfl, hb2⟩; have B2 := Lib.hid (keepBelow (Below.drew (Below.refl _ _)) hb2); have r1 : v2.cell? ⟨g, 2, none⟩ = some (.pointer (some ⟨wb, 0, none⟩)) := (keepBlk B2.out G1.out).cell 2; clear hb2)
          | (go_at_call 24; refine (CN1.out wb _).mono ?_; rintro e v3 ⟨rfl, hL3, hb3⟩; have L3 := Lib.hid hL3; have hs2 := B2.out.size; have B3 := Lib.hid (keepBelow B2.out hb3); have r2 : v3.cell? ⟨g, 2, none⟩ = some (.pointer (some ⟨wb, 0, none⟩)) := (keepBlk B3.out G1.out).cell 2; clear hL3 hb3))
        all_goals
          go_wp2_with fail
          go_meet
          exact ⟨_, rfl, rfl, hs2, L3.out, B3.out⟩
      case rest =>
        obtain ⟨lb, hc5, rfl, hlb, hL, hb4⟩ := hcut
        subst hc5
        have G4 := Lib.hid (keepBlk hb4 G1.out)
        have W4 := Lib.hid (keepBlk hb4 W1.out)
        have L4 := Lib.hid hL
        have B4 := Lib.hid (keepBelow B1.out hb4)
        clear hL hb4 p2
        have f0 := G4.out.frozen 0
        have p0 : wc.cell? ⟨g, 0, none⟩ = some (.pointer none) := G4.out.cell 0
        have hglb : g < lb := by omega
        go_upto_region 10 with fail
        obtain ⟨V5, hV5⟩ : ∃ V5, V5 = wc.setCell ⟨g, 0, none⟩ (.pointer (some ⟨lb, 0, none⟩)) := ⟨_, rfl⟩
        have G5 : Hid (Blk V5 g 45 (endsC (pt lb) (.pointer none) (pt wb) (.pointer none) zLk zLk ⟨#[]⟩ ⟨#[]⟩)) := by rw [hV5]; exact Lib.hid (G4.out.set_ 0 _)
        have W5 : Hid (Blk V5 wb 48 (wireC zWi)) := by rw [hV5]; exact Lib.hid (W4.out.far (p := ⟨g, 0, none⟩) (by simp only; omega) _)
        have L5 : Hid (Blk V5 lb 89 (linkC wb (lkO k 1))) := by rw [hV5]; exact Lib.hid (L4.out.far (p := ⟨g, 0, none⟩) (by simp only; omega) _)
        have B5 : Hid (Below w.heap.size w V5) := by rw [hV5]; exact Lib.hid (B4.out.setCell hgw _)
        rw [← hV5]
        clear hV5 p0 f0
        go_region_with (go_at_call 20; refine (CK.out _).mono ?_; rintro e v6 ⟨rfl, hb6⟩; have B6 := Lib.hid (keepBelow (Below.drew (Below.refl _ _)) hb6); have G6 := Lib.hid (keepBlk B6.out G5.out); have W6 := Lib.hid (keepBlk B6.out W5.out); have L6 := Lib.hid (keepBlk B6.out L5.out); have C6 := Lib.hid (keepBelow B5.out B6.out);  have d0 : v6.cell? ⟨g, 4, none⟩ = some (.string ⟨#[]⟩) := G6.out.cell 4; have e0 := G6.out.frozen 4; have d1 : v6.cell? ⟨g, 5, none⟩ = some (.int .i64 0) := G6.out.cell 5; have e1 := G6.out.frozen 5; have d2 : v6.cell? ⟨g, 6, none⟩ = some (.string ⟨#[]⟩) := G6.out.cell 6; have e2 := G6.out.frozen 6; have d3 : v6.cell? ⟨g, 7, none⟩ = some (.int .i64 0) := G6.out.cell 7; have e3 := G6.out.frozen 7; have d4 : v6.cell? ⟨g, 8, none⟩ = some (.int .i64 0) := G6.out.cell 8; have e4 := G6.out.frozen 8; have d5 : v6.cell? ⟨g, 9, none⟩ = some (.bool false) := G6.out.cell 9; have e5 := G6.out.frozen 9; clear hb6)
        all_goals
          go_wp2_with fail
          go_roundg (gk - 1)
          case measure => omega
          case rel =>
            have hk6 := ((((((G6.out.set_ 4 (.string K)).set_ 5 (.int .i64 1)).set_ 6 (.string ⟨#[]⟩)).set_ 7 (.int .i64 0)).set_ 8 (.int .i64 0)).set_ 9 (.bool false))
            refine ⟨1, by omega, rfl, ((((((C6.out.setCell hgw _).setCell hgw _).setCell hgw _).setCell hgw _).setCell hgw _).setCell hgw _), hgw, lb, wb, hwg, by omega, ?_, ((((((L6.out.far (p := ⟨g, 4, none⟩) (by simp only; omega) _).far (p := ⟨g, 5, none⟩) (by simp only; omega) _).far (p := ⟨g, 6, none⟩) (by simp only; omega) _).far (p := ⟨g, 7, none⟩) (by simp only; omega) _).far (p := ⟨g, 8, none⟩) (by simp only; omega) _).far (p := ⟨g, 9, none⟩) (by simp only; omega) _), ((((((W6.out.far (p := ⟨g, 4, none⟩) (by simp only; omega) _).far (p := ⟨g, 5, none⟩) (by simp only; omega) _).far (p := ⟨g, 6, none⟩) (by simp only; omega) _).far (p := ⟨g, 7, none⟩) (by simp only; omega) _).far (p := ⟨g, 8, none⟩) (by simp only; omega) _).far (p := ⟨g, 9, none⟩) (by simp only; omega) _)⟩
            rw [EH1.out]
            exact hk6
    · obtain ⟨hB, hgw, l0, w0, h01, h02, hG, hK0, hX0⟩ := hI
      have HB := Lib.hid hB
      have HG := Lib.hid hG
      have HK0 := Lib.hid hK0
      have HX0 := Lib.hid hX0
      have f3 := hG.frozen 3
      have p3 : wr.cell? ⟨g, 3, none⟩ = some (.pointer none) := hG.cell 3
      have hgl := hG.lt
      have hl0 := hK0.lt
      clear hB hG hK0 hX0
      go_upto_region 6 with fail
      obtain ⟨wb, hwb⟩ : ∃ wb, wb = wr.heap.size := ⟨_, rfl⟩
      obtain ⟨V1, hV1⟩ : ∃ V1, V1 = (wr.setCell ⟨g, 3, none⟩ (pt wr.heap.size)).alloc (.cells #[.string ⟨#[]⟩, .int .i64 0, .int .i64 0, .string ⟨#[]⟩, .int .i64 0] 48) := ⟨_, rfl⟩
      have G1 : Hid (Blk V1 g 45 (endsC (pt l0) (.pointer none) (pt w0) (pt wb) (lkO k 1) zLk ⟨#[]⟩ ⟨#[]⟩)) := by rw [hV1, hwb]; exact Lib.hid ((HG.out.set_ 3 _).alloc _)
      have W1 : Hid (Blk V1 wb 48 (wireC zWi)) := by rw [hV1, hwb]; exact Lib.hid (blk_at (by simp [World.setCell]) 48 [_, _, _, _, _])
      have K01 : Hid (Blk V1 l0 89 (linkC w0 (lkO k 1))) := by rw [hV1]; exact Lib.hid ((HK0.out.far (p := ⟨g, 3, none⟩) (by simp only; omega) _).alloc _)
      have X01 : Hid (Blk V1 w0 48 (wireC zWi)) := by rw [hV1]; exact Lib.hid ((HX0.out.far (p := ⟨g, 3, none⟩) (by simp only; omega) _).alloc _)
      have B1 : Hid (Below w.heap.size w V1) := by rw [hV1]; exact Lib.hid (((HB.out.setCell hgw _)).alloc (size_set HB.out.size _ _) _)
      have hwg : g < wb := by rw [hwb]; exact hgl
      have hlw : l0 < wb := by rw [hwb]; exact hl0
      have hw1 : wb < V1.heap.size := W1.out.lt
      unfold pt at hV1
      rw [← hV1]
      clear hV1 p3 f3 hgl hwb hl0
      have p3 : V1.cell? ⟨g, 3, none⟩ = some (.pointer (some ⟨wb, 0, none⟩)) := G1.out.cell 3
      go_cut [5, 6] (fun c5 c6 wx => ∃ lb, c5 = .pointer (some ⟨lb, 0, none⟩) ∧ c6 = .int .i64 0 ∧ V1.heap.size ≤ lb ∧ Blk wx lb 89 (linkC wb (lkO k 2)) ∧ Below V1.heap.size V1 wx)
      case first =>
        go_region_held3 (fun W => W.cell? ⟨g, 3, none⟩ = some (.pointer (some ⟨wb, 0, none⟩))) (first | go_keep | exact r1 | exact r2) (first
          | (go_at_call 20; refine (CK.out _).mono ?_; rintro e v2 ⟨rfl, hb2⟩; have B2 := Lib.hid (keepBelow (Below.drew (Below.refl _ _)) hb2); have r1 : v2.cell? ⟨g, 3, none⟩ = some (.pointer (some ⟨wb, 0, none⟩)) := (keepBlk B2.out G1.out).cell 3; clear hb2)
          | (go_at_call 24; refine (CN2.out wb _).mono ?_; rintro e v3 ⟨rfl, hL3, hb3⟩; have L3 := Lib.hid hL3; have hs2 := B2.out.size; have B3 := Lib.hid (keepBelow B2.out hb3); have r2 : v3.cell? ⟨g, 3, none⟩ = some (.pointer (some ⟨wb, 0, none⟩)) := (keepBlk B3.out G1.out).cell 3; clear hL3 hb3))
        all_goals
          go_wp2_with fail
          go_meet
          exact ⟨_, rfl, rfl, hs2, L3.out, B3.out⟩
      case rest =>
        obtain ⟨lb, hc5, rfl, hlb, hL, hb4⟩ := hcut
        subst hc5
        have G4 := Lib.hid (keepBlk hb4 G1.out)
        have W4 := Lib.hid (keepBlk hb4 W1.out)
        have L4 := Lib.hid hL
        have B4 := Lib.hid (keepBelow B1.out hb4)
        have K04 := Lib.hid (keepBlk hb4 K01.out)
        have X04 := Lib.hid (keepBlk hb4 X01.out)
        clear hL hb4 p3
        have f1 := G4.out.frozen 1
        have p1 : wc.cell? ⟨g, 1, none⟩ = some (.pointer none) := G4.out.cell 1
        have hglb : g < lb := by omega
        go_upto_region 10 with fail
        obtain ⟨V5, hV5⟩ : ∃ V5, V5 = wc.setCell ⟨g, 1, none⟩ (.pointer (some ⟨lb, 0, none⟩)) := ⟨_, rfl⟩
        have G5 : Hid (Blk V5 g 45 (endsC (pt l0) (pt lb) (pt w0) (pt wb) (lkO k 1) zLk ⟨#[]⟩ ⟨#[]⟩)) := by rw [hV5]; exact Lib.hid (G4.out.set_ 1 _)
        have W5 : Hid (Blk V5 wb 48 (wireC zWi)) := by rw [hV5]; exact Lib.hid (W4.out.far (p := ⟨g, 1, none⟩) (by simp only; omega) _)
        have L5 : Hid (Blk V5 lb 89 (linkC wb (lkO k 2))) := by rw [hV5]; exact Lib.hid (L4.out.far (p := ⟨g, 1, none⟩) (by simp only; omega) _)
        have K05 : Hid (Blk V5 l0 89 (linkC w0 (lkO k 1))) := by rw [hV5]; exact Lib.hid (K04.out.far (p := ⟨g, 1, none⟩) (by simp only; omega) _)
        have X05 : Hid (Blk V5 w0 48 (wireC zWi)) := by rw [hV5]; exact Lib.hid (X04.out.far (p := ⟨g, 1, none⟩) (by simp only; omega) _)
        have B5 : Hid (Below w.heap.size w V5) := by rw [hV5]; exact Lib.hid (B4.out.setCell hgw _)
        rw [← hV5]
        clear hV5 p1 f1
        go_region_with (go_at_call 20; refine (CK.out _).mono ?_; rintro e v6 ⟨rfl, hb6⟩; have B6 := Lib.hid (keepBelow (Below.drew (Below.refl _ _)) hb6); have G6 := Lib.hid (keepBlk B6.out G5.out); have W6 := Lib.hid (keepBlk B6.out W5.out); have L6 := Lib.hid (keepBlk B6.out L5.out); have C6 := Lib.hid (keepBelow B5.out B6.out); have K06 := Lib.hid (keepBlk B6.out K05.out); have X06 := Lib.hid (keepBlk B6.out X05.out); have d0 : v6.cell? ⟨g, 10, none⟩ = some (.string ⟨#[]⟩) := G6.out.cell 10; have e0 := G6.out.frozen 10; have d1 : v6.cell? ⟨g, 11, none⟩ = some (.int .i64 0) := G6.out.cell 11; have e1 := G6.out.frozen 11; have d2 : v6.cell? ⟨g, 12, none⟩ = some (.string ⟨#[]⟩) := G6.out.cell 12; have e2 := G6.out.frozen 12; have d3 : v6.cell? ⟨g, 13, none⟩ = some (.int .i64 0) := G6.out.cell 13; have e3 := G6.out.frozen 13; have d4 : v6.cell? ⟨g, 14, none⟩ = some (.int .i64 0) := G6.out.cell 14; have e4 := G6.out.frozen 14; have d5 : v6.cell? ⟨g, 15, none⟩ = some (.bool false) := G6.out.cell 15; have e5 := G6.out.frozen 15; clear hb6)
        all_goals
          go_wp2_with fail
          go_roundg (gk - 1)
          case measure => omega
          case rel =>
            have hk6 := ((((((G6.out.set_ 10 (.string K)).set_ 11 (.int .i64 2)).set_ 12 (.string ⟨#[]⟩)).set_ 13 (.int .i64 0)).set_ 14 (.int .i64 0)).set_ 15 (.bool false))
            refine ⟨2, by omega, rfl, ((((((C6.out.setCell hgw _).setCell hgw _).setCell hgw _).setCell hgw _).setCell hgw _).setCell hgw _), hgw, l0, lb, w0, wb, ⟨hgw, h01, h02, hlw, by omega, ?_, ((((((K06.out.far (p := ⟨g, 10, none⟩) (by simp only; omega) _).far (p := ⟨g, 11, none⟩) (by simp only; omega) _).far (p := ⟨g, 12, none⟩) (by simp only; omega) _).far (p := ⟨g, 13, none⟩) (by simp only; omega) _).far (p := ⟨g, 14, none⟩) (by simp only; omega) _).far (p := ⟨g, 15, none⟩) (by simp only; omega) _), ((((((L6.out.far (p := ⟨g, 10, none⟩) (by simp only; omega) _).far (p := ⟨g, 11, none⟩) (by simp only; omega) _).far (p := ⟨g, 12, none⟩) (by simp only; omega) _).far (p := ⟨g, 13, none⟩) (by simp only; omega) _).far (p := ⟨g, 14, none⟩) (by simp only; omega) _).far (p := ⟨g, 15, none⟩) (by simp only; omega) _), ((((((X06.out.far (p := ⟨g, 10, none⟩) (by simp only; omega) _).far (p := ⟨g, 11, none⟩) (by simp only; omega) _).far (p := ⟨g, 12, none⟩) (by simp only; omega) _).far (p := ⟨g, 13, none⟩) (by simp only; omega) _).far (p := ⟨g, 14, none⟩) (by simp only; omega) _).far (p := ⟨g, 15, none⟩) (by simp only; omega) _), ((((((W6.out.far (p := ⟨g, 10, none⟩) (by simp only; omega) _).far (p := ⟨g, 11, none⟩) (by simp only; omega) _).far (p := ⟨g, 12, none⟩) (by simp only; omega) _).far (p := ⟨g, 13, none⟩) (by simp only; omega) _).far (p := ⟨g, 14, none⟩) (by simp only; omega) _).far (p := ⟨g, 15, none⟩) (by simp only; omega) _)⟩⟩
            rw [EH2.out]
            exact hk6
    · obtain ⟨hB, hgw, l0, l1, w0, w1, hE⟩ := hI
      have HE := Lib.hid hE
      have HB := Lib.hid hB
      clear hE hB
      go_wp2_with fail
      go_ret
      exact ⟨g, l0, l1, w0, w1, rfl, HE.out, HB.out⟩
end Go.Proofs.YtmblnacckboggaaDoor
