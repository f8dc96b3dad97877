/- Link.Receive (15) where the first record does not open. -/
import Derived.Test.YtmblnacckboggaaDoorQ6
import Derived.Deep.RegionHeld3
namespace Go.Proofs.YtmblnacckboggaaDoor
open Go.RowKit
theorem Two.widen' {wb : Nat} {w w' : World} (h : Two wb wb w w') (lb : Nat) : Two lb wb w w' := ⟨h.os, h.tape, h.output, h.size, fun k hk _ h2 => h.block k hk h2 h2⟩
theorem len0 (bb : Nat) (w : World) (h : w.cell? ⟨bb, 1, none⟩ = some (.slice none 0 0)) : Calls Tryd.prog 38 #[.pointer (some ⟨bb, 0, none⟩)] w fun e w' => e = .returned (.int .i64 0) ∧ w = w' := by
  go_enter Tryd.func38, Tryd.ntmps38
  go_wp2_with fail
  go_ret
  exact ⟨rfl, rfl⟩
set_option maxRecDepth 100000 in
set_option maxHeartbeats 3200000 in
theorem receive_broken (lb wb : Nat) (key : ByteArray) (side : Int) (x : Wi) (e0 : Int) (hs : side = 1 ∨ side = 2) (hx0 : x.err = 0) (hx1 : x.come.size ≠ 0) (hx2 : x.come.size ≤ 1000000)
    (ho : openR key.data.toList (3 - side) 0 x.come.data.toList = ([], 0, e0)) (he0 : e0 ≠ 0) (he1 : e0 ≠ 16) (hne : lb ≠ wb) (w : World) (hL : Blk w lb 89 (linkC wb ⟨key, side, 0, 0, ⟨#[]⟩, false⟩)) (hW : Blk w wb 48 (wireC x)) (hT : Tabs w) (hl2 : 2 < lb) (hw2 : 2 < wb) :
    Calls Tryd.prog 15 #[.pointer (some ⟨lb, 0, none⟩)] w fun e w' => e = .returned (.tuple #[.string ⟨#[]⟩, .int .i64 28]) ∧ Blk w' lb 89 (linkC wb ⟨key, side, 0, 0, ⟨#[]⟩, true⟩) ∧ Two lb wb w w' := by
  have CE := Lib.hid (fun W (hb : Below w.heap.size w W) => ended_any lb wb ⟨key, side, 0, 0, ⟨#[]⟩, false⟩ W (keepBlk hb hL))
  have CX := Lib.hid (wrecv_any wb wb x w hW)
  have hc : comeR x = (x.come, 0) := by unfold comeR; rw [if_neg (fun h => h hx0), if_neg hx1]
  rw [hc] at CX
  obtain ⟨cm, hcm⟩ : ∃ cm, cm = x.come := ⟨_, rfl⟩
  rw [← hcm] at CX hx1 hx2 ho
  obtain ⟨tside, hts⟩ : ∃ t, t = 3 - side := ⟨_, rfl⟩
  rw [← hts] at ho
  have CO := Lib.hid (fun W (hW : Tabs W) => open_any key cm tside 0 (by omega) (by omega) W hW)
  rw [ho] at CO
  have w3 : IntKind.i64.wrap (3 - side) = tside := by rw [hts]; exact IntWalk.i64_in _ (by omega)
  have w4 : IntKind.i64.wrap tside = tside := IntWalk.i64_in _ (by omega)
  have w3' : (3 : Int) - side = tside := hts.symm
  have HL := Lib.hid hL
  have HT := Lib.hid hT
  have q0 : w.cell? ⟨lb, 0, none⟩ = some (.iface 38 (.pointer (some ⟨wb, 0, none⟩))) := hL.cell 0
  have b0 : (e0 != 0) = true := by rw [bne_iff_ne]; exact he0
  have b1 : (e0 != 16) = true := by rw [bne_iff_ne]; exact he1
  have z0 : ((⟨#[]⟩ : ByteArray) ++ cm) = cm := by
    have h : ((⟨#[]⟩ : ByteArray) ++ cm).data.toList = cm.data.toList := by rw [ap_list]; rfl
    cases cm with | mk c => exact congrArg ByteArray.mk (Array.toList_inj.1 h)
  have z1 : ¬ 9223372036854775807 < (⟨#[]⟩ : ByteArray).size + cm.size := by show ¬ 9223372036854775807 < 0 + cm.size; omega
  clear hc hcm ho hts hs hL hT hx0 hx1 hx2 he0 he1 hW
  go_enter Tryd.func15, Tryd.ntmps15
  go_upto_region 4 with (first
    | (go_at_call 16; refine (CE.out _ (Below.refl _ _)).mono ?_; rintro e v1 ⟨rfl, rfl⟩)
    | (go_at_call 95; refine (CX.out).mono ?_; rintro e v2 ⟨rfl, hW2, hT2⟩; have L2 := Lib.hid (hT2.blk HL.out hne hne); have T2 := Lib.hid (hT2.widen' lb); clear hW2 hT2))
  have q5 : v2.cell? ⟨lb, 5, none⟩ = some (.string ⟨#[]⟩) := L2.out.cell 5
  have f5 := L2.out.frozen 5
  go_upto_region 11 with fail
  obtain ⟨V3, hV3⟩ : ∃ V3, V3 = v2.setCell ⟨lb, 5, none⟩ (.string cm) := ⟨_, rfl⟩
  have L3 : Hid (Blk V3 lb 89 (linkC wb ⟨key, side, 0, 0, cm, false⟩)) := by rw [hV3]; exact Lib.hid (L2.out.set_ 5 _)
  have T3 : Hid (Two lb wb w V3) := by rw [hV3]; exact Lib.hid (T2.out.set1 5 _)
  rw [← hV3]
  clear hV3 q5 f5
  go_wp2_with fail
  obtain ⟨bb, hbb⟩ : ∃ bb, bb = V3.heap.size := ⟨_, rfl⟩
  obtain ⟨V4, hV4⟩ : ∃ V4, V4 = V3.alloc (.cells #[.pointer none, .slice none 0 0] 85) := ⟨_, rfl⟩
  have B4 : Hid (Blk V4 bb 85 [.pointer none, .slice none 0 0]) := by rw [hV4, hbb]; exact Lib.hid (Blk.new V3 85 [_, _])
  have hb34 : Below V3.heap.size V3 V4 := by rw [hV4]; exact (Below.refl _ _).alloc (Nat.le_refl _) _
  have L4 := Lib.hid (keepBlk hb34 L3.out)
  have T4 := Lib.hid (T3.out.trans (Two.of hb34))
  have hnb : bb ≠ lb := by rw [hbb]; have := L3.out.lt; omega
  rw [← hV4, ← hbb]
  clear hV4 hbb hb34 L3 T3
  have TB := Lib.hid (T4.out.tabs HT.out hl2 hw2)
  go_loopw [] (fun wr => wr = V4) (fun _ => 0)
  case atStart => rfl
  case round =>
    subst hrel
    have q1 : wr.cell? ⟨lb, 1, none⟩ = some (.string key) := L4.out.cell 1
    have q2 : wr.cell? ⟨lb, 2, none⟩ = some (.int .i64 side) := L4.out.cell 2
    have q4 : wr.cell? ⟨lb, 4, none⟩ = some (.int .i64 0) := L4.out.cell 4
    have q5 : wr.cell? ⟨lb, 5, none⟩ = some (.string cm) := L4.out.cell 5
    go_upto_region 12 with fail
    go_cut [9] (fun c wx => c = .int .i64 e0 ∧ Below wr.heap.size wr wx)
    case first =>
      go_region_held3 (fun W => W.cell? ⟨lb, 1, none⟩ = some (.string key) ∧ W.cell? ⟨lb, 2, none⟩ = some (.int .i64 side) ∧ W.cell? ⟨lb, 4, none⟩ = some (.int .i64 0) ∧ W.cell? ⟨lb, 5, none⟩ = some (.string cm)) (first | go_keep | exact ⟨r1, r2, r4, r5⟩) (first
        | (go_at_call 11; refine (CO.out _ (TB.out.drew)).mono ?_; rintro e v5 ⟨rfl, hb5⟩; have B5 := Lib.hid (keepBelow (Below.drew (Below.refl _ _)) hb5); have r1 : v5.cell? ⟨lb, 1, none⟩ = some (.string key) := (keepBlk B5.out L4.out).cell 1; have r2 : v5.cell? ⟨lb, 2, none⟩ = some (.int .i64 side) := (keepBlk B5.out L4.out).cell 2; have r4 : v5.cell? ⟨lb, 4, none⟩ = some (.int .i64 0) := (keepBlk B5.out L4.out).cell 4; have r5 : v5.cell? ⟨lb, 5, none⟩ = some (.string cm) := (keepBlk B5.out L4.out).cell 5; clear hb5))
      all_goals
        go_wp2_with fail
        go_meet
        exact ⟨rfl, B5.out⟩
    case rest =>
      obtain ⟨rfl, hb5⟩ := hcut
      have L5 := Lib.hid (keepBlk hb5 L4.out)
      have B5 := Lib.hid (keepBlk hb5 B4.out)
      have T5 := Lib.hid (T4.out.trans (Two.of hb5))
      have p6 : wc.cell? ⟨lb, 6, none⟩ = some (.bool false) := L5.out.cell 6
      have p1 : wc.cell? ⟨bb, 1, none⟩ = some (.slice none 0 0) := B5.out.cell 1
      have f6 := L5.out.frozen 6
      have f5 := L5.out.frozen 5
      have CL := Lib.hid (fun W h => len0 bb W h)
      clear hb5 q1 q2 q4 q5
      have p5 : wc.cell? ⟨lb, 5, none⟩ = some (.string cm) := L5.out.cell 5
      go_wp2_with (go_at_call 38; refine (CL.out _ (((B5.out.far (p := ⟨lb, 6, none⟩) hnb _).far (p := ⟨lb, 5, none⟩) hnb _).cell 1)).mono ?_; rintro e v7 ⟨rfl, rfl⟩)
      go_ret2
      exact ⟨rfl, ((L5.out.set_ 6 _).set_ 5 _), ((T5.out.set1 6 _).set1 5 _)⟩
end Go.Proofs.YtmblnacckboggaaDoor
