/- StreamNil: a nil pipe; Do and Same of it. -/
import Derived.Test.YtmnlojbfdpjjdaaD1
import Derived.Test.YtmnlojbfdpjjdaaB8
import Derived.Laws.ResultCell
import Derived.Laws.Rows
namespace Go.Proofs.Ytmnlojbfdpjjdaa
open Go.RowKit
theorem Waiting_nil (w : World) : Calls Try.prog 26 #[.pointer none] w fun e w' => e = .returned (.slice none 0 0) ∧ w = w' := by
  go_enter Try.func26, Try.ntmps26
  go_wp2_with fail
  go_ret
  exact ⟨rfl, rfl⟩
theorem Answers_nil (w : World) : Calls Try.prog 19 #[.pointer none] w fun e w' => e = .returned (.slice none 0 0) ∧ w = w' := by
  go_enter Try.func19, Try.ntmps19
  go_wp2_with fail
  go_ret
  exact ⟨rfl, rfl⟩
theorem Wire_nil (a : Int) (w : World) : Calls Try.prog 29 #[.pointer none, .int .i64 a] w fun e w' => e = .returned .nilIface ∧ w = w' := by
  go_enter Try.func29, Try.ntmps29
  go_wp2_with fail
  go_ret
  exact ⟨rfl, rfl⟩
theorem Cancel_nil (a : Int) (w : World) : Calls Try.prog 37 #[.pointer none, .int .i64 a] w fun e w' => e = .returned (.int .i64 6) ∧ Below w.heap.size w w' := by
  go_enter Try.func37, Try.ntmps37
  go_wp2_with fail
  go_ret
  exact ⟨rfl, (Below.refl _ _).alloc (Nat.le_refl _) _⟩
theorem Flush_nil (a : Int) (w : World) : Calls Try.prog 38 #[.pointer none, .int .i64 a] w fun e w' => e = .returned (.int .i64 6) ∧ w = w' := by
  have C := Lib.hid (fun W => opened_nil a W)
  go_enter Try.func38, Try.ntmps38
  go_wp2_with (go_at_call 34; refine (C.out _).mono ?_; rintro e v1 ⟨rfl, rfl⟩)
  go_ret
  exact ⟨rfl, rfl⟩
theorem res47 {fn : Func} {p : Tmp} (h : fn.results = #[.cell p 47]) (tmps : Array Value) (w : World) (g : Nat) (c0 c1 c2 c3 : Value) (h4 : tmps.getD p undef = .pointer (some ⟨g, 0, none⟩)) (hB : Blk w g 47 [c0, c1, c2, c3]) :
    (results fn tmps).run Try.prog w = .ok (.agg #[c0, c1, c2, c3]) w := by
  have h4' : tmps[p]?.getD undef = .pointer (some ⟨g, 0, none⟩) := by simpa using h4
  have := run_loadVar_row (P := Try.prog) w g 47 47 #[c0, c1, c2, c3] (0, 0) _ hB Try.underlying47 rfl (by kernel_rfl)
  simp [results, h, h4', asAddr, this]
theorem equal51_nil (w : World) : Calls Try.prog 51 #[.slice none 0 0, .slice none 0 0] w fun e w' => e = .returned (.bool true) ∧ w = w' := by
  go_enter Try.func51, Try.ntmps51
  go_wp2_with fail
  go_loopw [13] (fun i wr => i = .int .i64 0 ∧ wr = w) (fun i _ => 0)
  case atStart => exact ⟨rfl, rfl⟩
  case round =>
    obtain ⟨rfl, rfl⟩ := hrel
    go_wp2_with fail
    go_ret
    exact ⟨rfl, rfl⟩
def errV : Value := .agg #[.int .i64 0, .string ⟨#[]⟩, .int .i64 6, .slice none 0 0]
theorem same_err (w : World) : Calls Try.prog 24 #[.agg #[.int .i64 0, .string ⟨#[]⟩, .int .i64 6, .slice none 0 0], .agg #[.int .i64 0, .string ⟨#[]⟩, .int .i64 6, .slice none 0 0]] w fun e w' => e = .returned (.bool true) ∧ Below w.heap.size w w' := by
  have C := Lib.hid (fun W => equal51_nil W)
  go_enter Try.func24, Try.ntmps24
  go_wp2_with (go_at_call 51; refine (C.out _).mono ?_; rintro e v1 ⟨rfl, rfl⟩)
  go_ret
  exact ⟨rfl, ((Below.refl _ _).alloc (Nat.le_refl _) _).alloc (by simp) _⟩
theorem blk3 (w : World) (a b c : Obj) : (((w.alloc a).alloc b).alloc c).heap.size = w.heap.size + 3 := by simp
set_option maxRecDepth 100000 in
set_option maxHeartbeats 800000 in
theorem do_nil_ask (t ok of_ oc : Int) (od : ByteArray)  (w : World) :
    Calls Try.prog 18 #[.pointer none, .agg #[.int .i64 0, .int .i64 t, .int .i64 ok, .int .i64 of_, .int .i64 oc, .string od]] w fun e w' => e = .returned (.agg #[.int .i64 0, .string ⟨#[]⟩, .int .i64 6, .slice none 0 0]) ∧ Below w.heap.size w w' := by
  have C := Lib.hid (fun W => Ask_nil ⟨ok, of_, oc, od⟩ W)
  (try unfold opV at C)
  have K1 : Blk (((w.alloc (.cells #[.int .i64 0, .int .i64 t, .int .i64 ok, .int .i64 of_, .int .i64 oc, .string od] 44)).alloc (.cells #[.int .i64 0, .string ⟨#[]⟩, .int .i64 0, .slice none 0 0] 47)).alloc (.cells #[.int .i64 0, .string ⟨#[]⟩, .int .i64 0, .slice none 0 0] 47)) (w.heap.size + 1) 47 [.int .i64 0, .string ⟨#[]⟩, .int .i64 0, .slice none 0 0] := (blk_at (by simp) 47 [_, _, _, _]).alloc _
  have K2 : Blk (((w.alloc (.cells #[.int .i64 0, .int .i64 t, .int .i64 ok, .int .i64 of_, .int .i64 oc, .string od] 44)).alloc (.cells #[.int .i64 0, .string ⟨#[]⟩, .int .i64 0, .slice none 0 0] 47)).alloc (.cells #[.int .i64 0, .string ⟨#[]⟩, .int .i64 0, .slice none 0 0] 47)) (w.heap.size + 1 + 1) 47 [.int .i64 0, .string ⟨#[]⟩, .int .i64 0, .slice none 0 0] := blk_at (by simp) 47 [_, _, _, _]
  have BB : Below w.heap.size w (((w.alloc (.cells #[.int .i64 0, .int .i64 t, .int .i64 ok, .int .i64 of_, .int .i64 oc, .string od] 44)).alloc (.cells #[.int .i64 0, .string ⟨#[]⟩, .int .i64 0, .slice none 0 0] 47)).alloc (.cells #[.int .i64 0, .string ⟨#[]⟩, .int .i64 0, .slice none 0 0] 47)) := (((Below.refl _ _).alloc (Nat.le_refl _) _).alloc (by simp) _).alloc (by simp; omega) _
  have HK1 := Lib.hid K1
  have HK2 := Lib.hid K2
  have HBB := Lib.hid BB
  clear K1 K2 BB
  go_enter Try.func18, Try.ntmps18
  go_wp2_with (go_at_call 31; refine (C.out _).mono ?_; rintro e v ⟨rfl, hb⟩; have J1 := Lib.hid (keepBlk hb HK1.out); have J2 := Lib.hid (keepBlk hb HK2.out); have JB := Lib.hid (keepBelow HBB.out hb); clear hb; have j0 : v.cell? ⟨w.heap.size + 1 + 1, 0, none⟩ = some (.int .i64 0) := J2.out.cell 0; have j1 : v.cell? ⟨w.heap.size + 1 + 1, 1, none⟩ = some (.string ⟨#[]⟩) := J2.out.cell 1; have j2 : v.cell? ⟨w.heap.size + 1 + 1, 2, none⟩ = some (.int .i64 0) := J2.out.cell 2; have j3 : v.cell? ⟨w.heap.size + 1 + 1, 3, none⟩ = some (.slice none 0 0) := J2.out.cell 3; have i0 : v.cell? ⟨w.heap.size + 1, 0, none⟩ = some (.int .i64 0) := J1.out.cell 0; have i1 : v.cell? ⟨w.heap.size + 1, 1, none⟩ = some (.string ⟨#[]⟩) := J1.out.cell 1; have i2 : v.cell? ⟨w.heap.size + 1, 2, none⟩ = some (.int .i64 0) := J1.out.cell 2; have i3 : v.cell? ⟨w.heap.size + 1, 3, none⟩ = some (.slice none 0 0) := J1.out.cell 3; have jf := fun i => J2.out.frozen i; have if_ := fun i => J1.out.frozen i)
  refine bodyPost_ret (res47 rfl _ _ (w.heap.size + 1) _ _ _ _ rfl ((((((J1.out.far (p := ⟨w.heap.size + 1 + 1, 0, none⟩) (show w.heap.size + 1 ≠ w.heap.size + 1 + 1 by omega) _).far (p := ⟨w.heap.size + 1 + 1, 2, none⟩) (show w.heap.size + 1 ≠ w.heap.size + 1 + 1 by omega) _).set_ 0 _).set_ 1 _).set_ 2 _).set_ 3 _)) rfl ⟨rfl, ?_⟩
  exact ((((((JB.out.setCell (p := ⟨w.heap.size + 1 + 1, 0, none⟩) (show w.heap.size ≤ w.heap.size + 1 + 1 by omega) _).setCell (p := ⟨w.heap.size + 1 + 1, 2, none⟩) (show w.heap.size ≤ w.heap.size + 1 + 1 by omega) _).setCell (p := ⟨w.heap.size + 1, 0, none⟩) (show w.heap.size ≤ w.heap.size + 1 by omega) _).setCell (p := ⟨w.heap.size + 1, 1, none⟩) (show w.heap.size ≤ w.heap.size + 1 by omega) _).setCell (p := ⟨w.heap.size + 1, 2, none⟩) (show w.heap.size ≤ w.heap.size + 1 by omega) _).setCell (p := ⟨w.heap.size + 1, 3, none⟩) (show w.heap.size ≤ w.heap.size + 1 by omega) _)
set_option maxRecDepth 100000 in
set_option maxHeartbeats 800000 in
theorem do_nil_read (t of_ oc : Int) (od : ByteArray)  (w : World) :
    Calls Try.prog 18 #[.pointer none, .agg #[.int .i64 1, .int .i64 t, .int .i64 0, .int .i64 of_, .int .i64 oc, .string od]] w fun e w' => e = .returned (.agg #[.int .i64 0, .string ⟨#[]⟩, .int .i64 6, .slice none 0 0]) ∧ Below w.heap.size w w' := by
  have C := Lib.hid (fun W => Read_nil of_ oc W)
  (try unfold opV at C)
  have K1 : Blk (((w.alloc (.cells #[.int .i64 1, .int .i64 t, .int .i64 0, .int .i64 of_, .int .i64 oc, .string od] 44)).alloc (.cells #[.int .i64 0, .string ⟨#[]⟩, .int .i64 0, .slice none 0 0] 47)).alloc (.cells #[.int .i64 0, .string ⟨#[]⟩, .int .i64 0, .slice none 0 0] 47)) (w.heap.size + 1) 47 [.int .i64 0, .string ⟨#[]⟩, .int .i64 0, .slice none 0 0] := (blk_at (by simp) 47 [_, _, _, _]).alloc _
  have K2 : Blk (((w.alloc (.cells #[.int .i64 1, .int .i64 t, .int .i64 0, .int .i64 of_, .int .i64 oc, .string od] 44)).alloc (.cells #[.int .i64 0, .string ⟨#[]⟩, .int .i64 0, .slice none 0 0] 47)).alloc (.cells #[.int .i64 0, .string ⟨#[]⟩, .int .i64 0, .slice none 0 0] 47)) (w.heap.size + 1 + 1) 47 [.int .i64 0, .string ⟨#[]⟩, .int .i64 0, .slice none 0 0] := blk_at (by simp) 47 [_, _, _, _]
  have BB : Below w.heap.size w (((w.alloc (.cells #[.int .i64 1, .int .i64 t, .int .i64 0, .int .i64 of_, .int .i64 oc, .string od] 44)).alloc (.cells #[.int .i64 0, .string ⟨#[]⟩, .int .i64 0, .slice none 0 0] 47)).alloc (.cells #[.int .i64 0, .string ⟨#[]⟩, .int .i64 0, .slice none 0 0] 47)) := (((Below.refl _ _).alloc (Nat.le_refl _) _).alloc (by simp) _).alloc (by simp; omega) _
  have HK1 := Lib.hid K1
  have HK2 := Lib.hid K2
  have HBB := Lib.hid BB
  clear K1 K2 BB
  go_enter Try.func18, Try.ntmps18
  go_wp2_with (go_at_call 16; refine (C.out _).mono ?_; rintro e v ⟨rfl, hb⟩; have J1 := Lib.hid (keepBlk hb HK1.out); have J2 := Lib.hid (keepBlk hb HK2.out); have JB := Lib.hid (keepBelow HBB.out hb); clear hb; have j0 : v.cell? ⟨w.heap.size + 1 + 1, 0, none⟩ = some (.int .i64 0) := J2.out.cell 0; have j1 : v.cell? ⟨w.heap.size + 1 + 1, 1, none⟩ = some (.string ⟨#[]⟩) := J2.out.cell 1; have j2 : v.cell? ⟨w.heap.size + 1 + 1, 2, none⟩ = some (.int .i64 0) := J2.out.cell 2; have j3 : v.cell? ⟨w.heap.size + 1 + 1, 3, none⟩ = some (.slice none 0 0) := J2.out.cell 3; have i0 : v.cell? ⟨w.heap.size + 1, 0, none⟩ = some (.int .i64 0) := J1.out.cell 0; have i1 : v.cell? ⟨w.heap.size + 1, 1, none⟩ = some (.string ⟨#[]⟩) := J1.out.cell 1; have i2 : v.cell? ⟨w.heap.size + 1, 2, none⟩ = some (.int .i64 0) := J1.out.cell 2; have i3 : v.cell? ⟨w.heap.size + 1, 3, none⟩ = some (.slice none 0 0) := J1.out.cell 3; have jf := fun i => J2.out.frozen i; have if_ := fun i => J1.out.frozen i)
  refine bodyPost_ret (res47 rfl _ _ (w.heap.size + 1) _ _ _ _ rfl ((((((J1.out.far (p := ⟨w.heap.size + 1 + 1, 1, none⟩) (show w.heap.size + 1 ≠ w.heap.size + 1 + 1 by omega) _).far (p := ⟨w.heap.size + 1 + 1, 2, none⟩) (show w.heap.size + 1 ≠ w.heap.size + 1 + 1 by omega) _).set_ 0 _).set_ 1 _).set_ 2 _).set_ 3 _)) rfl ⟨rfl, ?_⟩
  exact ((((((JB.out.setCell (p := ⟨w.heap.size + 1 + 1, 1, none⟩) (show w.heap.size ≤ w.heap.size + 1 + 1 by omega) _).setCell (p := ⟨w.heap.size + 1 + 1, 2, none⟩) (show w.heap.size ≤ w.heap.size + 1 + 1 by omega) _).setCell (p := ⟨w.heap.size + 1, 0, none⟩) (show w.heap.size ≤ w.heap.size + 1 by omega) _).setCell (p := ⟨w.heap.size + 1, 1, none⟩) (show w.heap.size ≤ w.heap.size + 1 by omega) _).setCell (p := ⟨w.heap.size + 1, 2, none⟩) (show w.heap.size ≤ w.heap.size + 1 by omega) _).setCell (p := ⟨w.heap.size + 1, 3, none⟩) (show w.heap.size ≤ w.heap.size + 1 by omega) _)
set_option maxRecDepth 100000 in
set_option maxHeartbeats 800000 in
theorem do_nil_write (t ok of_ oc : Int) (od : ByteArray) (hok : (ok == 0) = false) (w : World) :
    Calls Try.prog 18 #[.pointer none, .agg #[.int .i64 1, .int .i64 t, .int .i64 ok, .int .i64 of_, .int .i64 oc, .string od]] w fun e w' => e = .returned (.agg #[.int .i64 0, .string ⟨#[]⟩, .int .i64 6, .slice none 0 0]) ∧ Below w.heap.size w w' := by
  have C := Lib.hid (fun W => Write_nil of_ od W)
  (try unfold opV at C)
  have K1 : Blk (((w.alloc (.cells #[.int .i64 1, .int .i64 t, .int .i64 ok, .int .i64 of_, .int .i64 oc, .string od] 44)).alloc (.cells #[.int .i64 0, .string ⟨#[]⟩, .int .i64 0, .slice none 0 0] 47)).alloc (.cells #[.int .i64 0, .string ⟨#[]⟩, .int .i64 0, .slice none 0 0] 47)) (w.heap.size + 1) 47 [.int .i64 0, .string ⟨#[]⟩, .int .i64 0, .slice none 0 0] := (blk_at (by simp) 47 [_, _, _, _]).alloc _
  have K2 : Blk (((w.alloc (.cells #[.int .i64 1, .int .i64 t, .int .i64 ok, .int .i64 of_, .int .i64 oc, .string od] 44)).alloc (.cells #[.int .i64 0, .string ⟨#[]⟩, .int .i64 0, .slice none 0 0] 47)).alloc (.cells #[.int .i64 0, .string ⟨#[]⟩, .int .i64 0, .slice none 0 0] 47)) (w.heap.size + 1 + 1) 47 [.int .i64 0, .string ⟨#[]⟩, .int .i64 0, .slice none 0 0] := blk_at (by simp) 47 [_, _, _, _]
  have BB : Below w.heap.size w (((w.alloc (.cells #[.int .i64 1, .int .i64 t, .int .i64 ok, .int .i64 of_, .int .i64 oc, .string od] 44)).alloc (.cells #[.int .i64 0, .string ⟨#[]⟩, .int .i64 0, .slice none 0 0] 47)).alloc (.cells #[.int .i64 0, .string ⟨#[]⟩, .int .i64 0, .slice none 0 0] 47)) := (((Below.refl _ _).alloc (Nat.le_refl _) _).alloc (by simp) _).alloc (by simp; omega) _
  have HK1 := Lib.hid K1
  have HK2 := Lib.hid K2
  have HBB := Lib.hid BB
  clear K1 K2 BB
  go_enter Try.func18, Try.ntmps18
  go_wp2_with (go_at_call 13; refine (C.out _).mono ?_; rintro e v ⟨rfl, hb⟩; have J1 := Lib.hid (keepBlk hb HK1.out); have J2 := Lib.hid (keepBlk hb HK2.out); have JB := Lib.hid (keepBelow HBB.out hb); clear hb; have j0 : v.cell? ⟨w.heap.size + 1 + 1, 0, none⟩ = some (.int .i64 0) := J2.out.cell 0; have j1 : v.cell? ⟨w.heap.size + 1 + 1, 1, none⟩ = some (.string ⟨#[]⟩) := J2.out.cell 1; have j2 : v.cell? ⟨w.heap.size + 1 + 1, 2, none⟩ = some (.int .i64 0) := J2.out.cell 2; have j3 : v.cell? ⟨w.heap.size + 1 + 1, 3, none⟩ = some (.slice none 0 0) := J2.out.cell 3; have i0 : v.cell? ⟨w.heap.size + 1, 0, none⟩ = some (.int .i64 0) := J1.out.cell 0; have i1 : v.cell? ⟨w.heap.size + 1, 1, none⟩ = some (.string ⟨#[]⟩) := J1.out.cell 1; have i2 : v.cell? ⟨w.heap.size + 1, 2, none⟩ = some (.int .i64 0) := J1.out.cell 2; have i3 : v.cell? ⟨w.heap.size + 1, 3, none⟩ = some (.slice none 0 0) := J1.out.cell 3; have jf := fun i => J2.out.frozen i; have if_ := fun i => J1.out.frozen i)
  refine bodyPost_ret (res47 rfl _ _ (w.heap.size + 1) _ _ _ _ rfl ((((((J1.out.far (p := ⟨w.heap.size + 1 + 1, 0, none⟩) (show w.heap.size + 1 ≠ w.heap.size + 1 + 1 by omega) _).far (p := ⟨w.heap.size + 1 + 1, 2, none⟩) (show w.heap.size + 1 ≠ w.heap.size + 1 + 1 by omega) _).set_ 0 _).set_ 1 _).set_ 2 _).set_ 3 _)) rfl ⟨rfl, ?_⟩
  exact ((((((JB.out.setCell (p := ⟨w.heap.size + 1 + 1, 0, none⟩) (show w.heap.size ≤ w.heap.size + 1 + 1 by omega) _).setCell (p := ⟨w.heap.size + 1 + 1, 2, none⟩) (show w.heap.size ≤ w.heap.size + 1 + 1 by omega) _).setCell (p := ⟨w.heap.size + 1, 0, none⟩) (show w.heap.size ≤ w.heap.size + 1 by omega) _).setCell (p := ⟨w.heap.size + 1, 1, none⟩) (show w.heap.size ≤ w.heap.size + 1 by omega) _).setCell (p := ⟨w.heap.size + 1, 2, none⟩) (show w.heap.size ≤ w.heap.size + 1 by omega) _).setCell (p := ⟨w.heap.size + 1, 3, none⟩) (show w.heap.size ≤ w.heap.size + 1 by omega) _)
set_option maxRecDepth 100000 in
set_option maxHeartbeats 800000 in
theorem do_nil_cancel (t ok of_ oc : Int) (od : ByteArray)  (w : World) :
    Calls Try.prog 18 #[.pointer none, .agg #[.int .i64 2, .int .i64 t, .int .i64 ok, .int .i64 of_, .int .i64 oc, .string od]] w fun e w' => e = .returned (.agg #[.int .i64 0, .string ⟨#[]⟩, .int .i64 6, .slice none 0 0]) ∧ Below w.heap.size w w' := by
  have C := Lib.hid (fun W => Cancel_nil t W)
  (try unfold opV at C)
  have K1 : Blk (((w.alloc (.cells #[.int .i64 2, .int .i64 t, .int .i64 ok, .int .i64 of_, .int .i64 oc, .string od] 44)).alloc (.cells #[.int .i64 0, .string ⟨#[]⟩, .int .i64 0, .slice none 0 0] 47)).alloc (.cells #[.int .i64 0, .string ⟨#[]⟩, .int .i64 0, .slice none 0 0] 47)) (w.heap.size + 1) 47 [.int .i64 0, .string ⟨#[]⟩, .int .i64 0, .slice none 0 0] := (blk_at (by simp) 47 [_, _, _, _]).alloc _
  have K2 : Blk (((w.alloc (.cells #[.int .i64 2, .int .i64 t, .int .i64 ok, .int .i64 of_, .int .i64 oc, .string od] 44)).alloc (.cells #[.int .i64 0, .string ⟨#[]⟩, .int .i64 0, .slice none 0 0] 47)).alloc (.cells #[.int .i64 0, .string ⟨#[]⟩, .int .i64 0, .slice none 0 0] 47)) (w.heap.size + 1 + 1) 47 [.int .i64 0, .string ⟨#[]⟩, .int .i64 0, .slice none 0 0] := blk_at (by simp) 47 [_, _, _, _]
  have BB : Below w.heap.size w (((w.alloc (.cells #[.int .i64 2, .int .i64 t, .int .i64 ok, .int .i64 of_, .int .i64 oc, .string od] 44)).alloc (.cells #[.int .i64 0, .string ⟨#[]⟩, .int .i64 0, .slice none 0 0] 47)).alloc (.cells #[.int .i64 0, .string ⟨#[]⟩, .int .i64 0, .slice none 0 0] 47)) := (((Below.refl _ _).alloc (Nat.le_refl _) _).alloc (by simp) _).alloc (by simp; omega) _
  have HK1 := Lib.hid K1
  have HK2 := Lib.hid K2
  have HBB := Lib.hid BB
  clear K1 K2 BB
  go_enter Try.func18, Try.ntmps18
  go_wp2_with (go_at_call 37; refine (C.out _).mono ?_; rintro e v ⟨rfl, hb⟩; have J1 := Lib.hid (keepBlk hb HK1.out); have J2 := Lib.hid (keepBlk hb HK2.out); have JB := Lib.hid (keepBelow HBB.out hb); clear hb; have j0 : v.cell? ⟨w.heap.size + 1 + 1, 0, none⟩ = some (.int .i64 0) := J2.out.cell 0; have j1 : v.cell? ⟨w.heap.size + 1 + 1, 1, none⟩ = some (.string ⟨#[]⟩) := J2.out.cell 1; have j2 : v.cell? ⟨w.heap.size + 1 + 1, 2, none⟩ = some (.int .i64 0) := J2.out.cell 2; have j3 : v.cell? ⟨w.heap.size + 1 + 1, 3, none⟩ = some (.slice none 0 0) := J2.out.cell 3; have i0 : v.cell? ⟨w.heap.size + 1, 0, none⟩ = some (.int .i64 0) := J1.out.cell 0; have i1 : v.cell? ⟨w.heap.size + 1, 1, none⟩ = some (.string ⟨#[]⟩) := J1.out.cell 1; have i2 : v.cell? ⟨w.heap.size + 1, 2, none⟩ = some (.int .i64 0) := J1.out.cell 2; have i3 : v.cell? ⟨w.heap.size + 1, 3, none⟩ = some (.slice none 0 0) := J1.out.cell 3; have jf := fun i => J2.out.frozen i; have if_ := fun i => J1.out.frozen i)
  refine bodyPost_ret (res47 rfl _ _ (w.heap.size + 1) _ _ _ _ rfl (((((J1.out.far (p := ⟨w.heap.size + 1 + 1, 2, none⟩) (show w.heap.size + 1 ≠ w.heap.size + 1 + 1 by omega) _).set_ 0 _).set_ 1 _).set_ 2 _).set_ 3 _)) rfl ⟨rfl, ?_⟩
  exact (((((JB.out.setCell (p := ⟨w.heap.size + 1 + 1, 2, none⟩) (show w.heap.size ≤ w.heap.size + 1 + 1 by omega) _).setCell (p := ⟨w.heap.size + 1, 0, none⟩) (show w.heap.size ≤ w.heap.size + 1 by omega) _).setCell (p := ⟨w.heap.size + 1, 1, none⟩) (show w.heap.size ≤ w.heap.size + 1 by omega) _).setCell (p := ⟨w.heap.size + 1, 2, none⟩) (show w.heap.size ≤ w.heap.size + 1 by omega) _).setCell (p := ⟨w.heap.size + 1, 3, none⟩) (show w.heap.size ≤ w.heap.size + 1 by omega) _)
set_option maxRecDepth 100000 in
set_option maxHeartbeats 800000 in
theorem do_nil_flush (t ok of_ oc : Int) (od : ByteArray)  (w : World) :
    Calls Try.prog 18 #[.pointer none, .agg #[.int .i64 3, .int .i64 t, .int .i64 ok, .int .i64 of_, .int .i64 oc, .string od]] w fun e w' => e = .returned (.agg #[.int .i64 0, .string ⟨#[]⟩, .int .i64 6, .slice none 0 0]) ∧ Below w.heap.size w w' := by
  have C := Lib.hid (fun W => Flush_nil of_ W)
  (try unfold opV at C)
  have K1 : Blk (((w.alloc (.cells #[.int .i64 3, .int .i64 t, .int .i64 ok, .int .i64 of_, .int .i64 oc, .string od] 44)).alloc (.cells #[.int .i64 0, .string ⟨#[]⟩, .int .i64 0, .slice none 0 0] 47)).alloc (.cells #[.int .i64 0, .string ⟨#[]⟩, .int .i64 0, .slice none 0 0] 47)) (w.heap.size + 1) 47 [.int .i64 0, .string ⟨#[]⟩, .int .i64 0, .slice none 0 0] := (blk_at (by simp) 47 [_, _, _, _]).alloc _
  have K2 : Blk (((w.alloc (.cells #[.int .i64 3, .int .i64 t, .int .i64 ok, .int .i64 of_, .int .i64 oc, .string od] 44)).alloc (.cells #[.int .i64 0, .string ⟨#[]⟩, .int .i64 0, .slice none 0 0] 47)).alloc (.cells #[.int .i64 0, .string ⟨#[]⟩, .int .i64 0, .slice none 0 0] 47)) (w.heap.size + 1 + 1) 47 [.int .i64 0, .string ⟨#[]⟩, .int .i64 0, .slice none 0 0] := blk_at (by simp) 47 [_, _, _, _]
  have BB : Below w.heap.size w (((w.alloc (.cells #[.int .i64 3, .int .i64 t, .int .i64 ok, .int .i64 of_, .int .i64 oc, .string od] 44)).alloc (.cells #[.int .i64 0, .string ⟨#[]⟩, .int .i64 0, .slice none 0 0] 47)).alloc (.cells #[.int .i64 0, .string ⟨#[]⟩, .int .i64 0, .slice none 0 0] 47)) := (((Below.refl _ _).alloc (Nat.le_refl _) _).alloc (by simp) _).alloc (by simp; omega) _
  clear K1 K2 BB
  go_enter Try.func18, Try.ntmps18
  go_wp2_with (go_at_call 38; refine (C.out _).mono ?_; rintro e v ⟨rfl, rfl⟩)
  refine bodyPost_ret (res47 rfl _ _ (w.heap.size + 1) _ _ _ _ rfl ((blk_at (by simp) 47 [_, _, _, _]).alloc _)) rfl ⟨rfl, ?_⟩
  exact (((Below.refl _ _).alloc (Nat.le_refl _) _).alloc (by simp) _).alloc (by simp; omega) _
set_option maxRecDepth 100000 in
set_option maxHeartbeats 800000 in
theorem do_nil_close (t ok of_ oc : Int) (od : ByteArray)  (w : World) :
    Calls Try.prog 18 #[.pointer none, .agg #[.int .i64 4, .int .i64 t, .int .i64 ok, .int .i64 of_, .int .i64 oc, .string od]] w fun e w' => e = .returned (.agg #[.int .i64 0, .string ⟨#[]⟩, .int .i64 6, .slice none 0 0]) ∧ Below w.heap.size w w' := by
  have C := Lib.hid (fun W => Close_nil of_ W)
  (try unfold opV at C)
  have K1 : Blk (((w.alloc (.cells #[.int .i64 4, .int .i64 t, .int .i64 ok, .int .i64 of_, .int .i64 oc, .string od] 44)).alloc (.cells #[.int .i64 0, .string ⟨#[]⟩, .int .i64 0, .slice none 0 0] 47)).alloc (.cells #[.int .i64 0, .string ⟨#[]⟩, .int .i64 0, .slice none 0 0] 47)) (w.heap.size + 1) 47 [.int .i64 0, .string ⟨#[]⟩, .int .i64 0, .slice none 0 0] := (blk_at (by simp) 47 [_, _, _, _]).alloc _
  have K2 : Blk (((w.alloc (.cells #[.int .i64 4, .int .i64 t, .int .i64 ok, .int .i64 of_, .int .i64 oc, .string od] 44)).alloc (.cells #[.int .i64 0, .string ⟨#[]⟩, .int .i64 0, .slice none 0 0] 47)).alloc (.cells #[.int .i64 0, .string ⟨#[]⟩, .int .i64 0, .slice none 0 0] 47)) (w.heap.size + 1 + 1) 47 [.int .i64 0, .string ⟨#[]⟩, .int .i64 0, .slice none 0 0] := blk_at (by simp) 47 [_, _, _, _]
  have BB : Below w.heap.size w (((w.alloc (.cells #[.int .i64 4, .int .i64 t, .int .i64 ok, .int .i64 of_, .int .i64 oc, .string od] 44)).alloc (.cells #[.int .i64 0, .string ⟨#[]⟩, .int .i64 0, .slice none 0 0] 47)).alloc (.cells #[.int .i64 0, .string ⟨#[]⟩, .int .i64 0, .slice none 0 0] 47)) := (((Below.refl _ _).alloc (Nat.le_refl _) _).alloc (by simp) _).alloc (by simp; omega) _
  clear K1 K2 BB
  go_enter Try.func18, Try.ntmps18
  go_wp2_with (go_at_call 14; refine (C.out _).mono ?_; rintro e v ⟨rfl, rfl⟩)
  refine bodyPost_ret (res47 rfl _ _ (w.heap.size + 1) _ _ _ _ rfl ((blk_at (by simp) 47 [_, _, _, _]).alloc _)) rfl ⟨rfl, ?_⟩
  exact (((Below.refl _ _).alloc (Nat.le_refl _) _).alloc (by simp) _).alloc (by simp; omega) _
theorem do_nil (x : Ac) (h0 : 0 ≤ x.kind) (h4 : x.kind ≤ 4) (w : World) : Calls Try.prog 18 #[.pointer none, acV x] w fun e w' => e = .returned (.agg #[.int .i64 0, .string ⟨#[]⟩, .int .i64 6, .slice none 0 0]) ∧ Below w.heap.size w w' := by
  obtain ⟨k, t, ⟨ok, of_, oc, od⟩⟩ := x
  simp only at h0 h4
  rcases (show k = 0 ∨ k = 1 ∨ k = 2 ∨ k = 3 ∨ k = 4 by omega) with rfl | rfl | rfl | rfl | rfl
  · exact do_nil_ask t ok of_ oc od w
  · by_cases h : ok = 0
    · subst h; exact do_nil_read t of_ oc od w
    · exact do_nil_write t ok of_ oc od (by rw [beq_eq_false_iff_ne]; exact h) w
  · exact do_nil_cancel t ok of_ oc od w
  · exact do_nil_flush t ok of_ oc od w
  · exact do_nil_close t ok of_ oc od w
end Go.Proofs.Ytmnlojbfdpjjdaa
