/- THE CONTRACT OF digest.Hash.Add. -/
import Derived.Test.YtmblnacckboggaaDoorD3
import Derived.Deep.RegionWith
namespace Go.Proofs.YtmblnacckboggaaDoor
open Go.RowKit
theorem SH.addS_ok (x y : SH.St) : (SH.addS x y).ok := ⟨Nat.mod_lt _ (by decide), Nat.mod_lt _ (by decide), Nat.mod_lt _ (by decide), Nat.mod_lt _ (by decide), Nat.mod_lt _ (by decide), Nat.mod_lt _ (by decide), Nat.mod_lt _ (by decide), Nat.mod_lt _ (by decide)⟩
theorem SH.block_ok (x : SH.St) (s : List UInt8) : (SH.block x s).ok := SH.addS_ok _ _
theorem SH.root_ok : SH.root.ok := by refine ⟨?_, ?_, ?_, ?_, ?_, ?_, ?_, ?_⟩ <;> decide
theorem SH.blocks_ok (s : List UInt8) (n : Nat) : (SH.blocks SH.root s n).ok := by cases n with | zero => exact SH.root_ok | succ n => exact SH.block_ok _ _
theorem SH.blocks_front (x : SH.St) (m t : List UInt8) (n : Nat) (h : 64 * n ≤ m.length) : SH.blocks x (m ++ t) n = SH.blocks x m n := by
  induction n with
  | zero => rfl
  | succ n ih =>
    rw [SH.blocks, SH.blocks, ih (by omega), List.drop_append_of_le_length (by omega), List.take_append_of_le_length (by rw [List.length_drop]; omega)]
/-- The ten cells of a hash. -/
def hCells (x : SH.St) (b : Nat) (r : ByteArray) : List Value := [.int .u32 x.a, .int .u32 x.b, .int .u32 x.c, .int .u32 x.d, .int .u32 x.e, .int .u32 x.f, .int .u32 x.g, .int .u32 x.h, .int .i64 b, .string r]
/-- The cells are those of a hash of the bytes m. -/
structure IsH (m : List UInt8) (x : SH.St) (b : Nat) (r : ByteArray) : Prop where
  ok : x.ok
  b_eq : b = m.length / 64
  r_eq : r.data.toList = m.drop (64 * b)
  x_eq : b ≠ 0 → x = SH.blocks SH.root m b
def zeroC : List Value := [.int .u32 0, .int .u32 0, .int .u32 0, .int .u32 0, .int .u32 0, .int .u32 0, .int .u32 0, .int .u32 0, .int .i64 0, .string ⟨#[]⟩]
def rootsC : List Value := (nums SH.root).map u32c
theorem bytes_len (s : ByteArray) : s.data.toList.length = s.size := by simp
theorem ex_take (r : ByteArray) (n : Nat) : (r.extract 0 n).data.toList = r.data.toList.take n := by simp [ByteArray.data_extract]
theorem ex_drop (r : ByteArray) (n : Nat) : (r.extract n r.size).data.toList = r.data.toList.drop n := by
  rw [ByteArray.data_extract, Array.toList_extract]
  simp
  exact List.take_of_length_le (by rw [List.length_drop]; simp)
theorem ap_list (r s : ByteArray) : (r ++ s).data.toList = r.data.toList ++ s.data.toList := by simp [ByteArray.data_append]
set_option maxRecDepth 100000 in
set_option maxHeartbeats 3200000 in
theorem add_any (m : List UInt8) (x : SH.St) (b : Nat) (r s : ByteArray) (hI : IsH m x b r) (hl : m.length + s.size < 1152921504606846976) (w : World) (hroo : w.rangeAt 0 0 rootsC) (hcub : w.rangeAt 2 0 cubesC) (h1w : 2 < w.heap.size) :
    Calls Tryd.prog 54 #[.agg (hCells x b r).toArray, .string s] w fun e w' => ∃ x' b' r', e = .returned (.agg (hCells x' b' r').toArray) ∧ IsH (m ++ s.data.toList) x' b' r' ∧ x' = SH.blocks SH.root (m ++ s.data.toList) b' ∧ Below w.heap.size w w' := by
  have HI := Lib.hid hI
  have HROO := Lib.hid hroo
  have HCUB := Lib.hid hcub
  have hrl : r.size = m.length - 64 * b := by rw [← bytes_len, hI.r_eq, List.length_drop]
  have hcat : ¬ 9223372036854775807 < r.size + s.size := by omega
  have g0 : w.cell? ⟨0, 0, none⟩ = some (.int .u32 1779033703) := hroo 0 _ rfl
  have g1 : w.cell? ⟨0, 1, none⟩ = some (.int .u32 3144134277) := hroo 1 _ rfl
  have g2 : w.cell? ⟨0, 2, none⟩ = some (.int .u32 1013904242) := hroo 2 _ rfl
  have g3 : w.cell? ⟨0, 3, none⟩ = some (.int .u32 2773480762) := hroo 3 _ rfl
  have g4 : w.cell? ⟨0, 4, none⟩ = some (.int .u32 1359893119) := hroo 4 _ rfl
  have g5 : w.cell? ⟨0, 5, none⟩ = some (.int .u32 2600822924) := hroo 5 _ rfl
  have g6 : w.cell? ⟨0, 6, none⟩ = some (.int .u32 528734635) := hroo 6 _ rfl
  have g7 : w.cell? ⟨0, 7, none⟩ = some (.int .u32 1541459225) := hroo 7 _ rfl
  have h0w : 0 < w.heap.size := by omega
  have z0 : ¬ 0 = w.heap.size := by omega
  have z1 : ¬ 0 = w.heap.size + 1 := by omega
  unfold hCells
  clear hI hroo hcub hrl
  rcases Nat.eq_zero_or_pos b with hb0 | hb0
  · subst hb0
    change Calls Tryd.prog 54 #[.agg #[.int .u32 x.a, .int .u32 x.b, .int .u32 x.c, .int .u32 x.d, .int .u32 x.e, .int .u32 x.f, .int .u32 x.g, .int .u32 x.h, .int .i64 0, .string r], .string s] w _
    go_enter Tryd.func54, Tryd.ntmps54
    go_wp2_with fail
    obtain ⟨W0, hW0⟩ : ∃ W0 : World, W0 = (w.alloc (.cells #[.int .u32 1779033703, .int .u32 3144134277, .int .u32 1013904242, .int .u32 2773480762, .int .u32 1359893119, .int .u32 2600822924, .int .u32 528734635, .int .u32 1541459225, .int .i64 0, .string (r ++ s)] 114)).alloc (.cells #[.int .u32 0, .int .u32 0, .int .u32 0, .int .u32 0, .int .u32 0, .int .u32 0, .int .u32 0, .int .u32 0, .int .i64 0, .string ⟨#[]⟩] 114) := ⟨_, rfl⟩
    have hS : Blk W0 w.heap.size 114 (hCells (SH.blocks SH.root (m ++ s.data.toList) 0) 0 (r ++ s)) := by rw [hW0]; exact (Blk.new w 114 [_, _, _, _, _, _, _, _, _, _]).alloc _
    have hR : Blk W0 (w.heap.size + 1) 114 zeroC := by rw [hW0]; exact blk_at (by simp) 114 [_, _, _, _, _, _, _, _, _, _]
    have hB : Below w.heap.size w W0 := by rw [hW0]; exact ((Below.refl _ _).alloc (Nat.le_refl _) _).alloc (by simp) _
    have HQ := Lib.hid (show (r ++ s).data.toList = (m ++ s.data.toList).drop (64 * 0) ∧ 64 * 0 ≤ (m ++ s.data.toList).length from ⟨by rw [ap_list, HI.out.r_eq]; rfl, by omega⟩)
    have HS := Lib.hid hS
    have HR := Lib.hid hR
    have HB := Lib.hid hB
    rw [← hW0]
    clear hW0 hS hR hB
    clear g0 g1 g2 g3 g4 g5 g6 g7 h0w z0 z1 hcat
    have hM : (m ++ s.data.toList).length < 1152921504606846976 := by rw [List.length_append, bytes_len]; exact hl
    clear hl
    generalize hMM : m ++ s.data.toList = M at *
    have HMM := Lib.hid hMM
    clear hMM
    go_loopw [16] (fun q wr => ∃ (bj : Nat) (rj : ByteArray), Blk wr w.heap.size 114 (hCells (SH.blocks SH.root M bj) bj rj) ∧ (rj.data.toList = M.drop (64 * bj) ∧ 64 * bj ≤ M.length) ∧ Blk wr (w.heap.size + 1) 114 zeroC ∧ Below w.heap.size w wr) (fun q wr => M.length - (intOf ((wr.cell? ⟨w.heap.size, 8, none⟩).getD undef)).toNat)
    case atStart => exact ⟨_, _, HS.out, HQ.out, HR.out, HB.out⟩
    case round =>
      obtain ⟨bj, rj, hS, ⟨hq1, hq2⟩, hR, hB⟩ := hrel
      have hrl : rj.size = M.length - 64 * bj := by rw [← bytes_len, hq1, List.length_drop]
      have c9 : wr.cell? ⟨w.heap.size, 9, none⟩ = some (.string rj) := hS.cell 9
      have c8 : wr.cell? ⟨w.heap.size, 8, none⟩ = some (.int .i64 bj) := hS.cell 8
      have hbk := SH.blocks_ok M bj
      have hnx : 64 * bj + 64 ≤ M.length → SH.block (SH.blocks SH.root M bj) ((rj.extract 0 64).data.toList) = SH.blocks SH.root M (bj + 1) := fun _ => by rw [SH.blocks, ex_take, hq1]
      have HNX := Lib.hid hnx
      generalize hyy : SH.blocks SH.root M bj = y at *
      have HYY := Lib.hid hyy.symm
      clear hyy
      have d0 : wr.cell? ⟨w.heap.size, 0, none⟩ = some (.int .u32 y.a) := hS.cell 0
      have d1 : wr.cell? ⟨w.heap.size, 1, none⟩ = some (.int .u32 y.b) := hS.cell 1
      have d2 : wr.cell? ⟨w.heap.size, 2, none⟩ = some (.int .u32 y.c) := hS.cell 2
      have d3 : wr.cell? ⟨w.heap.size, 3, none⟩ = some (.int .u32 y.d) := hS.cell 3
      have d4 : wr.cell? ⟨w.heap.size, 4, none⟩ = some (.int .u32 y.e) := hS.cell 4
      have d5 : wr.cell? ⟨w.heap.size, 5, none⟩ = some (.int .u32 y.f) := hS.cell 5
      have d6 : wr.cell? ⟨w.heap.size, 6, none⟩ = some (.int .u32 y.g) := hS.cell 6
      have d7 : wr.cell? ⟨w.heap.size, 7, none⟩ = some (.int .u32 y.h) := hS.cell 7
      have HQ1 := Lib.hid hq1
      have HSS := Lib.hid hS
      have HRR := Lib.hid hR
      have HBB := Lib.hid hB
      have HBK := Lib.hid hbk
      have HRL := Lib.hid hrl
      clear hq1 hS hR hB hnx hbk hrl
      by_cases hge : 64 ≤ rj.size
      · have k1 : (64 : Int) ≤ rj.size := by omega
        have k2 : (rj.extract 0 64).size = 64 := by rw [ByteArray.size_extract]; omega
        have hcw : wr.drew.rangeAt 2 0 cubesC := fun j v hv => (HBB.out.cell (p := ⟨2, 0 + j, none⟩) h1w).trans (HCUB.out j v hv)
        have HCW := Lib.hid hcw
        have h1r : 2 < wr.drew.heap.size := Nat.lt_of_lt_of_le h1w HBB.out.size
        have H1R := Lib.hid h1r
        have HLT := Lib.hid HSS.out.lt
        have HLT2 := Lib.hid HRR.out.lt
        clear hcw h1r
        go_wp2_with fail
        have hge2 : 64 * bj + 64 ≤ M.length := by have := HRL.out; omega
        have hst : stV (SH.block y (rj.extract 0 64).data.toList) = stV (SH.blocks SH.root M (bj + 1)) := by rw [HNX.out hge2]
        have HST := Lib.hid hst
        clear hst
        have hcall : Calls Tryd.prog 63 #[.agg #[.int .u32 y.a, .int .u32 y.b, .int .u32 y.c, .int .u32 y.d, .int .u32 y.e, .int .u32 y.f, .int .u32 y.g, .int .u32 y.h], .string (rj.extract 0 64)] wr.drew (fun e w5 => e = .returned (.agg #[.int .u32 (SH.blocks SH.root M (bj + 1)).a, .int .u32 (SH.blocks SH.root M (bj + 1)).b, .int .u32 (SH.blocks SH.root M (bj + 1)).c, .int .u32 (SH.blocks SH.root M (bj + 1)).d, .int .u32 (SH.blocks SH.root M (bj + 1)).e, .int .u32 (SH.blocks SH.root M (bj + 1)).f, .int .u32 (SH.blocks SH.root M (bj + 1)).g, .int .u32 (SH.blocks SH.root M (bj + 1)).h]) ∧ Below wr.heap.size wr.drew w5) := (block_any y HBK.out (rj.extract 0 64) k2 _ HCW.out H1R.out).mono (by rintro e w5 ⟨rfl, hb5⟩; exact ⟨by rw [HST.out]; rfl, hb5⟩)
        have hcall2 := hcall
        generalize hY : SH.blocks SH.root M (bj + 1) = y2 at hcall2
        have HY := Lib.hid hY
        have HCALL := Lib.hid hcall2
        clear hcall hcall2 hY HST HNX
        go_region_with (go_at_call 63; refine HCALL.out.mono ?_; rintro e w5 ⟨rfl, hb5⟩; have e0 : w5.cell? ⟨w.heap.size, 0, none⟩ = some (.int .u32 y.a) := ((blk_drew HSS.out).below hb5 HLT.out).cell 0; have f0 : w5.frozen? ⟨w.heap.size, 0, none⟩ = false := ((blk_drew HSS.out).below hb5 HLT.out).frozen 0; have e1 : w5.cell? ⟨w.heap.size, 1, none⟩ = some (.int .u32 y.b) := ((blk_drew HSS.out).below hb5 HLT.out).cell 1; have f1 : w5.frozen? ⟨w.heap.size, 1, none⟩ = false := ((blk_drew HSS.out).below hb5 HLT.out).frozen 1; have e2 : w5.cell? ⟨w.heap.size, 2, none⟩ = some (.int .u32 y.c) := ((blk_drew HSS.out).below hb5 HLT.out).cell 2; have f2 : w5.frozen? ⟨w.heap.size, 2, none⟩ = false := ((blk_drew HSS.out).below hb5 HLT.out).frozen 2; have e3 : w5.cell? ⟨w.heap.size, 3, none⟩ = some (.int .u32 y.d) := ((blk_drew HSS.out).below hb5 HLT.out).cell 3; have f3 : w5.frozen? ⟨w.heap.size, 3, none⟩ = false := ((blk_drew HSS.out).below hb5 HLT.out).frozen 3; have e4 : w5.cell? ⟨w.heap.size, 4, none⟩ = some (.int .u32 y.e) := ((blk_drew HSS.out).below hb5 HLT.out).cell 4; have f4 : w5.frozen? ⟨w.heap.size, 4, none⟩ = false := ((blk_drew HSS.out).below hb5 HLT.out).frozen 4; have e5 : w5.cell? ⟨w.heap.size, 5, none⟩ = some (.int .u32 y.f) := ((blk_drew HSS.out).below hb5 HLT.out).cell 5; have f5 : w5.frozen? ⟨w.heap.size, 5, none⟩ = false := ((blk_drew HSS.out).below hb5 HLT.out).frozen 5; have e6 : w5.cell? ⟨w.heap.size, 6, none⟩ = some (.int .u32 y.g) := ((blk_drew HSS.out).below hb5 HLT.out).cell 6; have f6 : w5.frozen? ⟨w.heap.size, 6, none⟩ = false := ((blk_drew HSS.out).below hb5 HLT.out).frozen 6; have e7 : w5.cell? ⟨w.heap.size, 7, none⟩ = some (.int .u32 y.h) := ((blk_drew HSS.out).below hb5 HLT.out).cell 7; have f7 : w5.frozen? ⟨w.heap.size, 7, none⟩ = false := ((blk_drew HSS.out).below hb5 HLT.out).frozen 7; have HB5 := Lib.hid hb5; have HS5 := Lib.hid ((blk_drew HSS.out).below hb5 HLT.out); have HR5 := Lib.hid ((blk_drew HRR.out).below hb5 HLT2.out); clear hb5)
        all_goals
          obtain ⟨W1, hW1⟩ : ∃ W1, W1 = ((((((((w5.setCell ⟨w.heap.size, 0, none⟩ (.int .u32 y2.a)).setCell ⟨w.heap.size, 1, none⟩ (.int .u32 y2.b)).setCell ⟨w.heap.size, 2, none⟩ (.int .u32 y2.c)).setCell ⟨w.heap.size, 3, none⟩ (.int .u32 y2.d)).setCell ⟨w.heap.size, 4, none⟩ (.int .u32 y2.e)).setCell ⟨w.heap.size, 5, none⟩ (.int .u32 y2.f)).setCell ⟨w.heap.size, 6, none⟩ (.int .u32 y2.g)).setCell ⟨w.heap.size, 7, none⟩ (.int .u32 y2.h)) := ⟨_, rfl⟩
          have hS1 : Blk W1 w.heap.size 114 (hCells y2 bj rj) := by rw [hW1]; exact ((((((((HS5.out.set_ 0 _).set_ 1 _).set_ 2 _).set_ 3 _).set_ 4 _).set_ 5 _).set_ 6 _).set_ 7 _)
          have hR1 : Blk W1 (w.heap.size + 1) 114 zeroC := by rw [hW1]; exact ((((((((HR5.out.far (by simp) _).far (by simp) _).far (by simp) _).far (by simp) _).far (by simp) _).far (by simp) _).far (by simp) _).far (by simp) _)
          have hB1 : Below w.heap.size w W1 := by rw [hW1]; exact (((((((((HBB.out.drew.trans (HB5.out.mono (Nat.le_of_lt HLT.out))).setCell (Nat.le_refl _) _).setCell (Nat.le_refl _) _).setCell (Nat.le_refl _) _).setCell (Nat.le_refl _) _).setCell (Nat.le_refl _) _).setCell (Nat.le_refl _) _).setCell (Nat.le_refl _) _).setCell (Nat.le_refl _) _)
          rw [← hW1]
          have HC8 := Lib.hid c8
          have n9 : W1.cell? ⟨w.heap.size, 9, none⟩ = some (.string rj) := hS1.cell 9
          have n8 : W1.cell? ⟨w.heap.size, 8, none⟩ = some (.int .i64 bj) := hS1.cell 8
          have z9 : W1.frozen? ⟨w.heap.size, 9, none⟩ = false := hS1.frozen 9
          have z8 : W1.frozen? ⟨w.heap.size, 8, none⟩ = false := hS1.frozen 8
          have HS1 := Lib.hid hS1
          have HR1 := Lib.hid hR1
          have HB1 := Lib.hid hB1
          clear hW1 hS1 hR1 hB1 e0 e1 e2 e3 e4 e5 e6 e7 f0 f1 f2 f3 f4 f5 f6 f7 c8 c9 d0 d1 d2 d3 d4 d5 d6 d7
          have m1 : IntKind.i64.wrap ((bj : Int) + 1) = bj + 1 := IntWalk.i64_in _ (by omega)
          go_wp2_with fail
          go_roundw
          case rel =>
            refine ⟨bj + 1, rj.extract 64 rj.size, ?_, ⟨by rw [ex_drop, HQ1.out, List.drop_drop]; rfl, hge2⟩, (HR1.out.far (by simp) _).far (by simp) _, (HB1.out.setCell (Nat.le_refl _) _).setCell (Nat.le_refl _) _⟩
            rw [HY.out]
            exact (HS1.out.set_ 9 _).set_ 8 _
          case measure =>
            have hm2 := ((HS1.out.set_ 9 (.string (rj.extract 64 rj.size))).set_ 8 (.int .i64 ((bj : Int) + 1))).cell 8
            rw [hm2, HC8.out]
            simp [intOf, hCells]
            omega
      · have k1 : ¬ (64 : Int) ≤ rj.size := by omega
        have HY := Lib.hid (show IsH M y bj rj from ⟨HBK.out, by have := HRL.out; omega, HQ1.out, fun _ => HYY.out⟩)
        have r0 : wr.cell? ⟨w.heap.size + 1, 0, none⟩ = some (.int .u32 0) := HRR.out.cell 0
        have t0 : wr.frozen? ⟨w.heap.size + 1, 0, none⟩ = false := HRR.out.frozen 0
        have r1 : wr.cell? ⟨w.heap.size + 1, 1, none⟩ = some (.int .u32 0) := HRR.out.cell 1
        have t1 : wr.frozen? ⟨w.heap.size + 1, 1, none⟩ = false := HRR.out.frozen 1
        have r2 : wr.cell? ⟨w.heap.size + 1, 2, none⟩ = some (.int .u32 0) := HRR.out.cell 2
        have t2 : wr.frozen? ⟨w.heap.size + 1, 2, none⟩ = false := HRR.out.frozen 2
        have r3 : wr.cell? ⟨w.heap.size + 1, 3, none⟩ = some (.int .u32 0) := HRR.out.cell 3
        have t3 : wr.frozen? ⟨w.heap.size + 1, 3, none⟩ = false := HRR.out.frozen 3
        have r4 : wr.cell? ⟨w.heap.size + 1, 4, none⟩ = some (.int .u32 0) := HRR.out.cell 4
        have t4 : wr.frozen? ⟨w.heap.size + 1, 4, none⟩ = false := HRR.out.frozen 4
        have r5 : wr.cell? ⟨w.heap.size + 1, 5, none⟩ = some (.int .u32 0) := HRR.out.cell 5
        have t5 : wr.frozen? ⟨w.heap.size + 1, 5, none⟩ = false := HRR.out.frozen 5
        have r6 : wr.cell? ⟨w.heap.size + 1, 6, none⟩ = some (.int .u32 0) := HRR.out.cell 6
        have t6 : wr.frozen? ⟨w.heap.size + 1, 6, none⟩ = false := HRR.out.frozen 6
        have r7 : wr.cell? ⟨w.heap.size + 1, 7, none⟩ = some (.int .u32 0) := HRR.out.cell 7
        have t7 : wr.frozen? ⟨w.heap.size + 1, 7, none⟩ = false := HRR.out.frozen 7
        have r8 : wr.cell? ⟨w.heap.size + 1, 8, none⟩ = some (.int .i64 0) := HRR.out.cell 8
        have t8 : wr.frozen? ⟨w.heap.size + 1, 8, none⟩ = false := HRR.out.frozen 8
        have r9 : wr.cell? ⟨w.heap.size + 1, 9, none⟩ = some (.string ⟨#[]⟩) := HRR.out.cell 9
        have t9 : wr.frozen? ⟨w.heap.size + 1, 9, none⟩ = false := HRR.out.frozen 9
        go_wp2_with fail
        obtain ⟨WE, hWE⟩ : ∃ WE, WE = ((((((((((wr.setCell ⟨w.heap.size + 1, 0, none⟩ (.int .u32 y.a)).setCell ⟨w.heap.size + 1, 1, none⟩ (.int .u32 y.b)).setCell ⟨w.heap.size + 1, 2, none⟩ (.int .u32 y.c)).setCell ⟨w.heap.size + 1, 3, none⟩ (.int .u32 y.d)).setCell ⟨w.heap.size + 1, 4, none⟩ (.int .u32 y.e)).setCell ⟨w.heap.size + 1, 5, none⟩ (.int .u32 y.f)).setCell ⟨w.heap.size + 1, 6, none⟩ (.int .u32 y.g)).setCell ⟨w.heap.size + 1, 7, none⟩ (.int .u32 y.h)).setCell ⟨w.heap.size + 1, 8, none⟩ (.int .i64 bj)).setCell ⟨w.heap.size + 1, 9, none⟩ (.string rj)) := ⟨_, rfl⟩
        have hE : Blk WE (w.heap.size + 1) 114 (hCells y bj rj) := by rw [hWE]; exact ((((((((((HRR.out.set_ 0 _).set_ 1 _).set_ 2 _).set_ 3 _).set_ 4 _).set_ 5 _).set_ 6 _).set_ 7 _).set_ 8 _).set_ 9 _)
        have hbE : Below w.heap.size w WE := by rw [hWE]; exact ((((((((((HBB.out.setCell (by simp) _).setCell (by simp) _).setCell (by simp) _).setCell (by simp) _).setCell (by simp) _).setCell (by simp) _).setCell (by simp) _).setCell (by simp) _).setCell (by simp) _).setCell (by simp) _)
        rw [← hWE]
        exact bodyPost_ret (results_cell_row rfl _ _ (w.heap.size + 1) 114 _ (0, 0) _ rfl hE Tryd.underlying114 rfl (by rfl)) rfl ⟨y, bj, rj, rfl, by rw [HMM.out]; exact HY.out, by rw [HMM.out]; exact HYY.out, hbE⟩
  · have hbn : ¬ (b : Int) = 0 := by omega
    have hbz : ((b : Int) == 0) = false := by simpa using hbn
    go_enter Tryd.func54, Tryd.ntmps54
    go_wp2_with fail
    obtain ⟨W0, hW0⟩ : ∃ W0 : World, W0 = (w.alloc (.cells #[.int .u32 x.a, .int .u32 x.b, .int .u32 x.c, .int .u32 x.d, .int .u32 x.e, .int .u32 x.f, .int .u32 x.g, .int .u32 x.h, .int .i64 b, .string (r ++ s)] 114)).alloc (.cells #[.int .u32 0, .int .u32 0, .int .u32 0, .int .u32 0, .int .u32 0, .int .u32 0, .int .u32 0, .int .u32 0, .int .i64 0, .string ⟨#[]⟩] 114) := ⟨_, rfl⟩
    have hx0 : x = SH.blocks SH.root (m ++ s.data.toList) b := by rw [SH.blocks_front _ _ _ _ (by rw [HI.out.b_eq]; omega)]; exact HI.out.x_eq (by omega)
    have hS : Blk W0 w.heap.size 114 (hCells (SH.blocks SH.root (m ++ s.data.toList) b) b (r ++ s)) := by rw [← hx0, hW0]; exact (Blk.new w 114 [_, _, _, _, _, _, _, _, _, _]).alloc _
    have hR : Blk W0 (w.heap.size + 1) 114 zeroC := by rw [hW0]; exact blk_at (by simp) 114 [_, _, _, _, _, _, _, _, _, _]
    have hB : Below w.heap.size w W0 := by rw [hW0]; exact ((Below.refl _ _).alloc (Nat.le_refl _) _).alloc (by simp) _
    have hbm : 64 * b ≤ m.length := by rw [HI.out.b_eq]; omega
    have HQ := Lib.hid (show (r ++ s).data.toList = (m ++ s.data.toList).drop (64 * b) ∧ 64 * b ≤ (m ++ s.data.toList).length from ⟨by rw [ap_list, HI.out.r_eq, List.drop_append_of_le_length hbm], by rw [List.length_append]; omega⟩)
    have HS := Lib.hid hS
    have HR := Lib.hid hR
    have HB := Lib.hid hB
    rw [← hW0]
    clear hW0 hS hR hB hx0 hbm
    clear g0 g1 g2 g3 g4 g5 g6 g7 h0w z0 z1 hcat
    have hM : (m ++ s.data.toList).length < 1152921504606846976 := by rw [List.length_append, bytes_len]; exact hl
    clear hl
    generalize hMM : m ++ s.data.toList = M at *
    have HMM := Lib.hid hMM
    clear hMM
    go_loopw [16] (fun q wr => ∃ (bj : Nat) (rj : ByteArray), Blk wr w.heap.size 114 (hCells (SH.blocks SH.root M bj) bj rj) ∧ (rj.data.toList = M.drop (64 * bj) ∧ 64 * bj ≤ M.length) ∧ Blk wr (w.heap.size + 1) 114 zeroC ∧ Below w.heap.size w wr) (fun q wr => M.length - (intOf ((wr.cell? ⟨w.heap.size, 8, none⟩).getD undef)).toNat)
    case atStart => exact ⟨_, _, HS.out, HQ.out, HR.out, HB.out⟩
    case round =>
      obtain ⟨bj, rj, hS, ⟨hq1, hq2⟩, hR, hB⟩ := hrel
      have hrl : rj.size = M.length - 64 * bj := by rw [← bytes_len, hq1, List.length_drop]
      have c9 : wr.cell? ⟨w.heap.size, 9, none⟩ = some (.string rj) := hS.cell 9
      have c8 : wr.cell? ⟨w.heap.size, 8, none⟩ = some (.int .i64 bj) := hS.cell 8
      have hbk := SH.blocks_ok M bj
      have hnx : 64 * bj + 64 ≤ M.length → SH.block (SH.blocks SH.root M bj) ((rj.extract 0 64).data.toList) = SH.blocks SH.root M (bj + 1) := fun _ => by rw [SH.blocks, ex_take, hq1]
      have HNX := Lib.hid hnx
      generalize hyy : SH.blocks SH.root M bj = y at *
      have HYY := Lib.hid hyy.symm
      clear hyy
      have d0 : wr.cell? ⟨w.heap.size, 0, none⟩ = some (.int .u32 y.a) := hS.cell 0
      have d1 : wr.cell? ⟨w.heap.size, 1, none⟩ = some (.int .u32 y.b) := hS.cell 1
      have d2 : wr.cell? ⟨w.heap.size, 2, none⟩ = some (.int .u32 y.c) := hS.cell 2
      have d3 : wr.cell? ⟨w.heap.size, 3, none⟩ = some (.int .u32 y.d) := hS.cell 3
      have d4 : wr.cell? ⟨w.heap.size, 4, none⟩ = some (.int .u32 y.e) := hS.cell 4
      have d5 : wr.cell? ⟨w.heap.size, 5, none⟩ = some (.int .u32 y.f) := hS.cell 5
      have d6 : wr.cell? ⟨w.heap.size, 6, none⟩ = some (.int .u32 y.g) := hS.cell 6
      have d7 : wr.cell? ⟨w.heap.size, 7, none⟩ = some (.int .u32 y.h) := hS.cell 7
      have HQ1 := Lib.hid hq1
      have HSS := Lib.hid hS
      have HRR := Lib.hid hR
      have HBB := Lib.hid hB
      have HBK := Lib.hid hbk
      have HRL := Lib.hid hrl
      clear hq1 hS hR hB hnx hbk hrl
      by_cases hge : 64 ≤ rj.size
      · have k1 : (64 : Int) ≤ rj.size := by omega
        have k2 : (rj.extract 0 64).size = 64 := by rw [ByteArray.size_extract]; omega
        have hcw : wr.drew.rangeAt 2 0 cubesC := fun j v hv => (HBB.out.cell (p := ⟨2, 0 + j, none⟩) h1w).trans (HCUB.out j v hv)
        have HCW := Lib.hid hcw
        have h1r : 2 < wr.drew.heap.size := Nat.lt_of_lt_of_le h1w HBB.out.size
        have H1R := Lib.hid h1r
        have HLT := Lib.hid HSS.out.lt
        have HLT2 := Lib.hid HRR.out.lt
        clear hcw h1r
        go_wp2_with fail
        have hge2 : 64 * bj + 64 ≤ M.length := by have := HRL.out; omega
        have hst : stV (SH.block y (rj.extract 0 64).data.toList) = stV (SH.blocks SH.root M (bj + 1)) := by rw [HNX.out hge2]
        have HST := Lib.hid hst
        clear hst
        have hcall : Calls Tryd.prog 63 #[.agg #[.int .u32 y.a, .int .u32 y.b, .int .u32 y.c, .int .u32 y.d, .int .u32 y.e, .int .u32 y.f, .int .u32 y.g, .int .u32 y.h], .string (rj.extract 0 64)] wr.drew (fun e w5 => e = .returned (.agg #[.int .u32 (SH.blocks SH.root M (bj + 1)).a, .int .u32 (SH.blocks SH.root M (bj + 1)).b, .int .u32 (SH.blocks SH.root M (bj + 1)).c, .int .u32 (SH.blocks SH.root M (bj + 1)).d, .int .u32 (SH.blocks SH.root M (bj + 1)).e, .int .u32 (SH.blocks SH.root M (bj + 1)).f, .int .u32 (SH.blocks SH.root M (bj + 1)).g, .int .u32 (SH.blocks SH.root M (bj + 1)).h]) ∧ Below wr.heap.size wr.drew w5) := (block_any y HBK.out (rj.extract 0 64) k2 _ HCW.out H1R.out).mono (by rintro e w5 ⟨rfl, hb5⟩; exact ⟨by rw [HST.out]; rfl, hb5⟩)
        have hcall2 := hcall
        generalize hY : SH.blocks SH.root M (bj + 1) = y2 at hcall2
        have HY := Lib.hid hY
        have HCALL := Lib.hid hcall2
        clear hcall hcall2 hY HST HNX
        go_region_with (go_at_call 63; refine HCALL.out.mono ?_; rintro e w5 ⟨rfl, hb5⟩; have e0 : w5.cell? ⟨w.heap.size, 0, none⟩ = some (.int .u32 y.a) := ((blk_drew HSS.out).below hb5 HLT.out).cell 0; have f0 : w5.frozen? ⟨w.heap.size, 0, none⟩ = false := ((blk_drew HSS.out).below hb5 HLT.out).frozen 0; have e1 : w5.cell? ⟨w.heap.size, 1, none⟩ = some (.int .u32 y.b) := ((blk_drew HSS.out).below hb5 HLT.out).cell 1; have f1 : w5.frozen? ⟨w.heap.size, 1, none⟩ = false := ((blk_drew HSS.out).below hb5 HLT.out).frozen 1; have e2 : w5.cell? ⟨w.heap.size, 2, none⟩ = some (.int .u32 y.c) := ((blk_drew HSS.out).below hb5 HLT.out).cell 2; have f2 : w5.frozen? ⟨w.heap.size, 2, none⟩ = false := ((blk_drew HSS.out).below hb5 HLT.out).frozen 2; have e3 : w5.cell? ⟨w.heap.size, 3, none⟩ = some (.int .u32 y.d) := ((blk_drew HSS.out).below hb5 HLT.out).cell 3; have f3 : w5.frozen? ⟨w.heap.size, 3, none⟩ = false := ((blk_drew HSS.out).below hb5 HLT.out).frozen 3; have e4 : w5.cell? ⟨w.heap.size, 4, none⟩ = some (.int .u32 y.e) := ((blk_drew HSS.out).below hb5 HLT.out).cell 4; have f4 : w5.frozen? ⟨w.heap.size, 4, none⟩ = false := ((blk_drew HSS.out).below hb5 HLT.out).frozen 4; have e5 : w5.cell? ⟨w.heap.size, 5, none⟩ = some (.int .u32 y.f) := ((blk_drew HSS.out).below hb5 HLT.out).cell 5; have f5 : w5.frozen? ⟨w.heap.size, 5, none⟩ = false := ((blk_drew HSS.out).below hb5 HLT.out).frozen 5; have e6 : w5.cell? ⟨w.heap.size, 6, none⟩ = some (.int .u32 y.g) := ((blk_drew HSS.out).below hb5 HLT.out).cell 6; have f6 : w5.frozen? ⟨w.heap.size, 6, none⟩ = false := ((blk_drew HSS.out).below hb5 HLT.out).frozen 6; have e7 : w5.cell? ⟨w.heap.size, 7, none⟩ = some (.int .u32 y.h) := ((blk_drew HSS.out).below hb5 HLT.out).cell 7; have f7 : w5.frozen? ⟨w.heap.size, 7, none⟩ = false := ((blk_drew HSS.out).below hb5 HLT.out).frozen 7; have HB5 := Lib.hid hb5; have HS5 := Lib.hid ((blk_drew HSS.out).below hb5 HLT.out); have HR5 := Lib.hid ((blk_drew HRR.out).below hb5 HLT2.out); clear hb5)
        all_goals
          obtain ⟨W1, hW1⟩ : ∃ W1, W1 = ((((((((w5.setCell ⟨w.heap.size, 0, none⟩ (.int .u32 y2.a)).setCell ⟨w.heap.size, 1, none⟩ (.int .u32 y2.b)).setCell ⟨w.heap.size, 2, none⟩ (.int .u32 y2.c)).setCell ⟨w.heap.size, 3, none⟩ (.int .u32 y2.d)).setCell ⟨w.heap.size, 4, none⟩ (.int .u32 y2.e)).setCell ⟨w.heap.size, 5, none⟩ (.int .u32 y2.f)).setCell ⟨w.heap.size, 6, none⟩ (.int .u32 y2.g)).setCell ⟨w.heap.size, 7, none⟩ (.int .u32 y2.h)) := ⟨_, rfl⟩
          have hS1 : Blk W1 w.heap.size 114 (hCells y2 bj rj) := by rw [hW1]; exact ((((((((HS5.out.set_ 0 _).set_ 1 _).set_ 2 _).set_ 3 _).set_ 4 _).set_ 5 _).set_ 6 _).set_ 7 _)
          have hR1 : Blk W1 (w.heap.size + 1) 114 zeroC := by rw [hW1]; exact ((((((((HR5.out.far (by simp) _).far (by simp) _).far (by simp) _).far (by simp) _).far (by simp) _).far (by simp) _).far (by simp) _).far (by simp) _)
          have hB1 : Below w.heap.size w W1 := by rw [hW1]; exact (((((((((HBB.out.drew.trans (HB5.out.mono (Nat.le_of_lt HLT.out))).setCell (Nat.le_refl _) _).setCell (Nat.le_refl _) _).setCell (Nat.le_refl _) _).setCell (Nat.le_refl _) _).setCell (Nat.le_refl _) _).setCell (Nat.le_refl _) _).setCell (Nat.le_refl _) _).setCell (Nat.le_refl _) _)
          rw [← hW1]
          have HC8 := Lib.hid c8
          have n9 : W1.cell? ⟨w.heap.size, 9, none⟩ = some (.string rj) := hS1.cell 9
          have n8 : W1.cell? ⟨w.heap.size, 8, none⟩ = some (.int .i64 bj) := hS1.cell 8
          have z9 : W1.frozen? ⟨w.heap.size, 9, none⟩ = false := hS1.frozen 9
          have z8 : W1.frozen? ⟨w.heap.size, 8, none⟩ = false := hS1.frozen 8
          have HS1 := Lib.hid hS1
          have HR1 := Lib.hid hR1
          have HB1 := Lib.hid hB1
          clear hW1 hS1 hR1 hB1 e0 e1 e2 e3 e4 e5 e6 e7 f0 f1 f2 f3 f4 f5 f6 f7 c8 c9 d0 d1 d2 d3 d4 d5 d6 d7
          have m1 : IntKind.i64.wrap ((bj : Int) + 1) = bj + 1 := IntWalk.i64_in _ (by omega)
          go_wp2_with fail
          go_roundw
          case rel =>
            refine ⟨bj + 1, rj.extract 64 rj.size, ?_, ⟨by rw [ex_drop, HQ1.out, List.drop_drop]; rfl, hge2⟩, (HR1.out.far (by simp) _).far (by simp) _, (HB1.out.setCell (Nat.le_refl _) _).setCell (Nat.le_refl _) _⟩
            rw [HY.out]
            exact (HS1.out.set_ 9 _).set_ 8 _
          case measure =>
            have hm2 := ((HS1.out.set_ 9 (.string (rj.extract 64 rj.size))).set_ 8 (.int .i64 ((bj : Int) + 1))).cell 8
            rw [hm2, HC8.out]
            simp [intOf, hCells]
            omega
      · have k1 : ¬ (64 : Int) ≤ rj.size := by omega
        have HY := Lib.hid (show IsH M y bj rj from ⟨HBK.out, by have := HRL.out; omega, HQ1.out, fun _ => HYY.out⟩)
        have r0 : wr.cell? ⟨w.heap.size + 1, 0, none⟩ = some (.int .u32 0) := HRR.out.cell 0
        have t0 : wr.frozen? ⟨w.heap.size + 1, 0, none⟩ = false := HRR.out.frozen 0
        have r1 : wr.cell? ⟨w.heap.size + 1, 1, none⟩ = some (.int .u32 0) := HRR.out.cell 1
        have t1 : wr.frozen? ⟨w.heap.size + 1, 1, none⟩ = false := HRR.out.frozen 1
        have r2 : wr.cell? ⟨w.heap.size + 1, 2, none⟩ = some (.int .u32 0) := HRR.out.cell 2
        have t2 : wr.frozen? ⟨w.heap.size + 1, 2, none⟩ = false := HRR.out.frozen 2
        have r3 : wr.cell? ⟨w.heap.size + 1, 3, none⟩ = some (.int .u32 0) := HRR.out.cell 3
        have t3 : wr.frozen? ⟨w.heap.size + 1, 3, none⟩ = false := HRR.out.frozen 3
        have r4 : wr.cell? ⟨w.heap.size + 1, 4, none⟩ = some (.int .u32 0) := HRR.out.cell 4
        have t4 : wr.frozen? ⟨w.heap.size + 1, 4, none⟩ = false := HRR.out.frozen 4
        have r5 : wr.cell? ⟨w.heap.size + 1, 5, none⟩ = some (.int .u32 0) := HRR.out.cell 5
        have t5 : wr.frozen? ⟨w.heap.size + 1, 5, none⟩ = false := HRR.out.frozen 5
        have r6 : wr.cell? ⟨w.heap.size + 1, 6, none⟩ = some (.int .u32 0) := HRR.out.cell 6
        have t6 : wr.frozen? ⟨w.heap.size + 1, 6, none⟩ = false := HRR.out.frozen 6
        have r7 : wr.cell? ⟨w.heap.size + 1, 7, none⟩ = some (.int .u32 0) := HRR.out.cell 7
        have t7 : wr.frozen? ⟨w.heap.size + 1, 7, none⟩ = false := HRR.out.frozen 7
        have r8 : wr.cell? ⟨w.heap.size + 1, 8, none⟩ = some (.int .i64 0) := HRR.out.cell 8
        have t8 : wr.frozen? ⟨w.heap.size + 1, 8, none⟩ = false := HRR.out.frozen 8
        have r9 : wr.cell? ⟨w.heap.size + 1, 9, none⟩ = some (.string ⟨#[]⟩) := HRR.out.cell 9
        have t9 : wr.frozen? ⟨w.heap.size + 1, 9, none⟩ = false := HRR.out.frozen 9
        go_wp2_with fail
        obtain ⟨WE, hWE⟩ : ∃ WE, WE = ((((((((((wr.setCell ⟨w.heap.size + 1, 0, none⟩ (.int .u32 y.a)).setCell ⟨w.heap.size + 1, 1, none⟩ (.int .u32 y.b)).setCell ⟨w.heap.size + 1, 2, none⟩ (.int .u32 y.c)).setCell ⟨w.heap.size + 1, 3, none⟩ (.int .u32 y.d)).setCell ⟨w.heap.size + 1, 4, none⟩ (.int .u32 y.e)).setCell ⟨w.heap.size + 1, 5, none⟩ (.int .u32 y.f)).setCell ⟨w.heap.size + 1, 6, none⟩ (.int .u32 y.g)).setCell ⟨w.heap.size + 1, 7, none⟩ (.int .u32 y.h)).setCell ⟨w.heap.size + 1, 8, none⟩ (.int .i64 bj)).setCell ⟨w.heap.size + 1, 9, none⟩ (.string rj)) := ⟨_, rfl⟩
        have hE : Blk WE (w.heap.size + 1) 114 (hCells y bj rj) := by rw [hWE]; exact ((((((((((HRR.out.set_ 0 _).set_ 1 _).set_ 2 _).set_ 3 _).set_ 4 _).set_ 5 _).set_ 6 _).set_ 7 _).set_ 8 _).set_ 9 _)
        have hbE : Below w.heap.size w WE := by rw [hWE]; exact ((((((((((HBB.out.setCell (by simp) _).setCell (by simp) _).setCell (by simp) _).setCell (by simp) _).setCell (by simp) _).setCell (by simp) _).setCell (by simp) _).setCell (by simp) _).setCell (by simp) _).setCell (by simp) _)
        rw [← hWE]
        exact bodyPost_ret (results_cell_row rfl _ _ (w.heap.size + 1) 114 _ (0, 0) _ rfl hE Tryd.underlying114 rfl (by rfl)) rfl ⟨y, bj, rj, rfl, by rw [HMM.out]; exact HY.out, by rw [HMM.out]; exact HYY.out, hbE⟩
end Go.Proofs.YtmblnacckboggaaDoor
