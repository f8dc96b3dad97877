/- Links and wires in memory; New (24), Ended (16), Counts (25), the law's wire: Send (96), Receive (95), key (20). -/
import Derived.Test.YtmblnacckboggaaDoorQ5
namespace Go.Proofs.YtmblnacckboggaaDoor
open Go.RowKit
structure Lk where
  key : ByteArray
  side : Int
  sent : Int
  taken : Int
  left : ByteArray
  fin : Bool
structure Wi where
  sent : ByteArray
  sends : Int
  refuse : Int
  come : ByteArray
  err : Int
def ifV (wb : Nat) : Value := .iface 38 (.pointer (some ⟨wb, 0, none⟩))
def linkC (wb : Nat) (l : Lk) : List Value := [.iface 38 (.pointer (some ⟨wb, 0, none⟩)), .string l.key, .int .i64 l.side, .int .i64 l.sent, .int .i64 l.taken, .string l.left, .bool l.fin]
def wireC (x : Wi) : List Value := [.string x.sent, .int .i64 x.sends, .int .i64 x.refuse, .string x.come, .int .i64 x.err]
theorem new_nil (key : ByteArray) (side : Int) (w : World) : Calls Tryd.prog 24 #[.nilIface, .string key, .int .i64 side] w fun e w' => e = .returned (.tuple #[.pointer none, .int .i64 12]) ∧ w = w' := by
  go_enter Tryd.func24, Tryd.ntmps24
  go_wp2_with fail
  go_ret2
  exact ⟨rfl, rfl⟩
theorem new_bad (wb : Nat) (key : ByteArray) (side : Int) (hb : badE key.data.toList side 0 ≠ 0) (w : World) : Calls Tryd.prog 24 #[.iface 38 (.pointer (some ⟨wb, 0, none⟩)), .string key, .int .i64 side] w fun e w' => e = .returned (.tuple #[.pointer none, .int .i64 (badE key.data.toList side 0)]) ∧ w = w' := by
  have C := Lib.hid (fun W => check_any key side 0 W)
  generalize badE key.data.toList side 0 = b at *
  have h1 : (b != 0) = true := by rw [bne_iff_ne]; exact hb
  clear hb
  go_enter Tryd.func24, Tryd.ntmps24
  go_wp2_with (go_at_call 27; refine (C.out _).mono ?_; rintro e v1 ⟨rfl, rfl⟩)
  go_ret2
  exact ⟨rfl, rfl⟩
theorem new_ok (wb : Nat) (key : ByteArray) (side : Int) (hb : badE key.data.toList side 0 = 0) (w : World) : Calls Tryd.prog 24 #[.iface 38 (.pointer (some ⟨wb, 0, none⟩)), .string key, .int .i64 side] w fun e w' => e = .returned (.tuple #[.pointer (some ⟨w.heap.size, 0, none⟩), .int .i64 0]) ∧ Blk w' w.heap.size 89 (linkC wb ⟨key, side, 0, 0, ⟨#[]⟩, false⟩) ∧ Below w.heap.size w w' := by
  have C := Lib.hid (fun W => check_any key side 0 W)
  rw [hb] at C
  clear hb
  go_enter Tryd.func24, Tryd.ntmps24
  go_wp2_with (go_at_call 27; refine (C.out _).mono ?_; rintro e v1 ⟨rfl, rfl⟩)
  go_ret2
  exact ⟨rfl, Blk.new w 89 (linkC wb ⟨key, side, 0, 0, ⟨#[]⟩, false⟩), (Below.refl _ _).alloc (Nat.le_refl _) _⟩
theorem ended_nil (w : World) : Calls Tryd.prog 16 #[.pointer none] w fun e w' => e = .returned (.bool true) ∧ w = w' := by
  go_enter Tryd.func16, Tryd.ntmps16
  go_wp2_with fail
  go_ret
  exact ⟨rfl, rfl⟩
theorem ended_any (lb wb : Nat) (l : Lk) (w : World) (h : Blk w lb 89 (linkC wb l)) : Calls Tryd.prog 16 #[.pointer (some ⟨lb, 0, none⟩)] w fun e w' => e = .returned (.bool l.fin) ∧ w = w' := by
  have c6 : w.cell? ⟨lb, 6, none⟩ = some (.bool l.fin) := h.cell 6
  clear h
  go_enter Tryd.func16, Tryd.ntmps16
  go_wp2_with fail
  go_ret
  exact ⟨rfl, rfl⟩
theorem counts_nil (w : World) : Calls Tryd.prog 25 #[.pointer none] w fun e w' => e = .returned (.tuple #[.int .i64 0, .int .i64 0]) ∧ w = w' := by
  go_enter Tryd.func25, Tryd.ntmps25
  go_wp2_with fail
  go_ret2
  exact ⟨rfl, rfl⟩
theorem send_nil (d : ByteArray) (w : World) : Calls Tryd.prog 14 #[.pointer none, .string d] w fun e w' => e = .returned (.int .i64 28) ∧ w = w' := by
  have C := Lib.hid (fun W => ended_nil W)
  go_enter Tryd.func14, Tryd.ntmps14
  go_wp2_with (go_at_call 16; refine (C.out _).mono ?_; rintro e v1 ⟨rfl, rfl⟩)
  go_ret
  exact ⟨rfl, rfl⟩
theorem receive_nil (w : World) : Calls Tryd.prog 15 #[.pointer none] w fun e w' => e = .returned (.tuple #[.string ⟨#[]⟩, .int .i64 28]) ∧ w = w' := by
  have C := Lib.hid (fun W => ended_nil W)
  go_enter Tryd.func15, Tryd.ntmps15
  go_wp2_with (go_at_call 16; refine (C.out _).mono ?_; rintro e v1 ⟨rfl, rfl⟩)
  go_ret2
  exact ⟨rfl, rfl⟩
/-- nothing but blocks lb and wb has turned, and what is new -/
structure Two (lb wb : Nat) (w w' : World) : Prop where
  os : w'.os = w.os
  tape : w'.tape = w.tape
  output : w'.output = w.output
  size : w.heap.size ≤ w'.heap.size
  block : ∀ k, k < w.heap.size → k ≠ lb → k ≠ wb → w'.heap[k]? = w.heap[k]?
theorem Two.of {lb wb : Nat} {w w' : World} (h : Below w.heap.size w w') : Two lb wb w w' := ⟨h.os, h.tape, h.output, h.size, fun k hk _ _ => h.block k hk⟩
theorem Two.trans {lb wb : Nat} {w w' w'' : World} (h : Two lb wb w w') (k : Two lb wb w' w'') : Two lb wb w w'' :=
  ⟨k.os.trans h.os, k.tape.trans h.tape, k.output.trans h.output, Nat.le_trans h.size k.size, fun i hi h1 h2 => (k.block i (Nat.lt_of_lt_of_le hi h.size) h1 h2).trans (h.block i hi h1 h2)⟩
theorem Two.set1 {lb wb : Nat} {w w' : World} (h : Two lb wb w w') (i : Nat) (v : Value) : Two lb wb w (w'.setCell ⟨lb, i, none⟩ v) :=
  ⟨h.os, h.tape, h.output, by simpa [World.setCell] using h.size, fun k hk h1 h2 => (Below.heap_setCell w' _ v k h1).trans (h.block k hk h1 h2)⟩
theorem Two.set2 {lb wb : Nat} {w w' : World} (h : Two lb wb w w') (i : Nat) (v : Value) : Two lb wb w (w'.setCell ⟨wb, i, none⟩ v) :=
  ⟨h.os, h.tape, h.output, by simpa [World.setCell] using h.size, fun k hk h1 h2 => (Below.heap_setCell w' _ v k h2).trans (h.block k hk h1 h2)⟩
theorem Two.tabs {lb wb : Nat} {w w' : World} (h : Two lb wb w w') (hT : Tabs w) (h1 : 2 < lb) (h2 : 2 < wb) : Tabs w' := by
  have hb := hT.big
  have b0 := h.block 0 (by omega) (by omega) (by omega)
  have b2 := h.block 2 (by omega) (by omega) (by omega)
  refine ⟨fun j v hv => ?_, fun j v hv => ?_, Nat.lt_of_lt_of_le hb h.size⟩
  · have := hT.roots j v hv
    simp only [World.cell?] at this ⊢
    rw [b0]; exact this
  · have := hT.cubes j v hv
    simp only [World.cell?] at this ⊢
    rw [b2]; exact this
theorem Two.blk {lb wb g : Nat} {t : TypeId} {cs : List Value} {w w' : World} (h : Two lb wb w w') (hb : Blk w g t cs) (h1 : g ≠ lb) (h2 : g ≠ wb) : Blk w' g t cs := (h.block g hb.lt h1 h2).trans hb
theorem wsend_ok (wb lb : Nat) (x : Wi) (d : ByteArray) (hr : x.refuse = 0) (h1 : 0 ≤ x.sends) (h2 : x.sends ≤ 1000000) (h3 : x.sent.size + d.size ≤ 100000000000000) (w : World) (h : Blk w wb 48 (wireC x)) :
    Calls Tryd.prog 96 #[.pointer (some ⟨wb, 0, none⟩), .string d] w fun e w' => e = .returned (.int .i64 0) ∧ Blk w' wb 48 (wireC ⟨x.sent ++ d, x.sends + 1, 0, x.come, x.err⟩) ∧ Two lb wb w w' := by
  obtain ⟨s, n, r, c, er⟩ := x
  simp only at hr h1 h2 h3
  subst hr
  have c0 : w.cell? ⟨wb, 0, none⟩ = some (.string s) := h.cell 0
  have c1 : w.cell? ⟨wb, 1, none⟩ = some (.int .i64 n) := h.cell 1
  have c2 : w.cell? ⟨wb, 2, none⟩ = some (.int .i64 0) := h.cell 2
  have f0 := h.frozen 0
  have f1 := h.frozen 1
  have k1 : ¬ 9223372036854775807 < s.size + d.size := by omega
  have HH := Lib.hid h
  clear h
  go_enter Tryd.func96, Tryd.ntmps96
  go_wp2_with fail
  go_ret
  exact ⟨rfl, (HH.out.set_ 0 _).set_ 1 _, (((Two.of (Below.refl _ _)).set2 0 _).set2 1 _)⟩
theorem wsend_no (wb : Nat) (x : Wi) (d : ByteArray) (hr : x.refuse ≠ 0) (w : World) (h : Blk w wb 48 (wireC x)) :
    Calls Tryd.prog 96 #[.pointer (some ⟨wb, 0, none⟩), .string d] w fun e w' => e = .returned (.int .i64 x.refuse) ∧ w = w' := by
  obtain ⟨s, n, r, c, er⟩ := x
  simp only at hr
  have c2 : w.cell? ⟨wb, 2, none⟩ = some (.int .i64 r) := h.cell 2
  have hb : (r != 0) = true := by rw [bne_iff_ne]; exact hr
  clear h hr
  go_enter Tryd.func96, Tryd.ntmps96
  go_wp2_with fail
  go_ret
  exact ⟨rfl, rfl⟩
/-- what a wire's Receive returns -/
def comeR (x : Wi) : ByteArray × Int := if x.err ≠ 0 then (⟨#[]⟩, x.err) else if x.come.size = 0 then (⟨#[]⟩, 36) else (x.come, 0)
def comeX (x : Wi) : Wi := if x.err ≠ 0 then x else ⟨x.sent, x.sends, x.refuse, ⟨#[]⟩, x.err⟩
set_option maxRecDepth 100000 in
theorem wrecv_any (wb lb : Nat) (x : Wi) (w : World) (h : Blk w wb 48 (wireC x)) :
    Calls Tryd.prog 95 #[.pointer (some ⟨wb, 0, none⟩)] w fun e w' => e = .returned (.tuple #[.string (comeR x).1, .int .i64 (comeR x).2]) ∧ Blk w' wb 48 (wireC (comeX x)) ∧ Two lb wb w w' := by
  obtain ⟨s, n, r, c, er⟩ := x
  have c3 : w.cell? ⟨wb, 3, none⟩ = some (.string c) := h.cell 3
  have c4 : w.cell? ⟨wb, 4, none⟩ = some (.int .i64 er) := h.cell 4
  have f3 := h.frozen 3
  have HH := Lib.hid h
  clear h
  by_cases he : er = 0
  · subst he
    rw [show comeR ⟨s, n, r, c, 0⟩ = if c.size = 0 then (⟨#[]⟩, 36) else (c, 0) from rfl, show comeX ⟨s, n, r, c, 0⟩ = ⟨s, n, r, ⟨#[]⟩, 0⟩ from rfl]
    by_cases h0 : c.size = 0
    · rw [if_pos h0]
      have hc : c = ⟨#[]⟩ := ByteArray.size_eq_zero_iff.1 h0
      subst hc
      clear h0
      go_enter Tryd.func95, Tryd.ntmps95
      go_wp2_with fail
      go_ret2
      exact ⟨rfl, HH.out.set_ 3 _, (Two.of (Below.refl _ _)).set2 3 _⟩
    · rw [if_neg h0]
      have e1 := not_empty h0
      have e2 := not_nil h0
      clear h0
      go_enter Tryd.func95, Tryd.ntmps95
      go_wp2_with fail
      go_ret2
      exact ⟨rfl, HH.out.set_ 3 _, (Two.of (Below.refl _ _)).set2 3 _⟩
  · rw [show comeR ⟨s, n, r, c, er⟩ = (⟨#[]⟩, er) from if_pos he, show comeX ⟨s, n, r, c, er⟩ = ⟨s, n, r, c, er⟩ from if_pos he]
    have hb : (er != 0) = true := by rw [bne_iff_ne]; exact he
    have hb2 : (er == 0) = false := by rw [beq_eq_false_iff_ne]; exact he
    clear he
    go_enter Tryd.func95, Tryd.ntmps95
    go_wp2_with fail
    go_quiet (fail)
    go_wp2_with fail
    go_ret2
    exact ⟨rfl, HH.out, Two.of (belowN (Below.refl _ _) _)⟩
def keyL (s : ByteArray) : List UInt8 := (s.data.toList ++ List.replicate 32 107).take 32
theorem key_any (s : ByteArray) (hs : s.size ≤ 100000000000000) (w : World) : Calls Tryd.prog 20 #[.string s] w fun e w' => e = .returned (.string ⟨(keyL s).toArray⟩) ∧ Below w.heap.size w w' := by
  have CR := Lib.hid (Tryd.strings_Repeat ⟨#[107]⟩ 32 w (by decide) (by decide))
  obtain ⟨R, hR⟩ : ∃ R : ByteArray, R = ⟨(Lib.repeatL (⟨#[107]⟩ : ByteArray).data.toList 32).toArray⟩ := ⟨_, rfl⟩
  have hRl : R.data.toList = List.replicate 32 107 := by rw [hR]; decide +kernel
  have hRs : R.size = 32 := by rw [← bytes_len, hRl]; rfl
  rw [← hR] at CR
  have k1 : ¬ 9223372036854775807 < s.size + R.size := by omega
  have k2 : (32 : Int) ≤ (s ++ R).size := by rw [ByteArray.size_append]; omega
  have k3 : 32 ≤ (s ++ R).size := by rw [ByteArray.size_append]; omega
  have FIN := Lib.hid (show ((s ++ R).extract 0 32) = ⟨(keyL s).toArray⟩ by
    have h : ((s ++ R).extract 0 32).data.toList = keyL s := by rw [ex_take, ap_list, hRl]; rfl
    rw [← h])
  clear hR hRl hRs
  go_enter Tryd.func20, Tryd.ntmps20
  go_wp2_with (go_at_call 26; refine (CR.out).mono ?_; rintro e v1 ⟨rfl, hb1⟩; have B1 := Lib.hid hb1; clear hb1)
  go_ret
  exact ⟨by rw [← FIN.out]; rfl, B1.out⟩
end Go.Proofs.YtmblnacckboggaaDoor
