/- waits, opened, Open, New, check: what an operation meets. -/
import Derived.Test.YtmnlojbfdpjjdaaA4
namespace Go.Proofs.Ytmnlojbfdpjjdaa
open Go.RowKit
def waitsB (st : St) (x : Op) : Bool := !emptyB x && (decide (0 < likeN st.ws x) || !readyB st x)
set_option maxHeartbeats 800000 in
theorem waits_any (x : Op) (hx : OpIn x) (g : Nat) (S : Sl) (st : St) (w : World) (hP : PipeAt w g S st) (hs : Sm st) :
    Calls Try.prog 54 #[.pointer (some ⟨g, 0, none⟩), opV x] w fun e w' => e = .returned (.bool (waitsB st x)) ∧ Below w.heap.size w w' := by
  have hq : waitsB st x = (!emptyB x && (decide (0 < likeN st.ws x) || !readyB st x)) := rfl
  have CE := Lib.hid (fun W => empty_any x W)
  have CL := Lib.hid (fun W (hb : Below w.heap.size w W) => like_any x g S st W (hP.below hb) hs)
  have CR := Lib.hid (fun W (hb : Below w.heap.size w W) => ready_any x hx g S st W (hP.below hb) hs)
  have hl := likeN_le st.ws x
  have hl2 : likeN st.ws x ≤ 100000 := by have := hs.q; omega
  rw [hq]
  clear hq hP hs hl
  generalize emptyB x = be at *
  generalize likeN st.ws x = n at *
  generalize readyB st x = br at *
  obtain ⟨k, f, c, d⟩ := x
  unfold opV at *
  cases be
  · by_cases hn : 0 < n
    · have hn2 : decide ((0 : Int) < (n : Int)) = true := by simpa using hn
      have HN := Lib.hid (show decide (0 < n) = true by simpa using hn)
      rw [HN.out]
      go_enter Try.func54, Try.ntmps54
      go_wp2_with (first
        | (go_at_call 72; refine (CE.out _).mono ?_; rintro e v1 ⟨rfl, hb1⟩; have Kv1 := Lib.hid (keepBlk hb1 (Blk.new w 42 [.int .i64 k, .int .i64 f, .int .i64 c, .string d])); have b0v1 : v1.cell? ⟨w.heap.size, 0, none⟩ = some (.int .i64 k) := Kv1.out.cell 0; have b1v1 : v1.cell? ⟨w.heap.size, 1, none⟩ = some (.int .i64 f) := Kv1.out.cell 1; have b2v1 : v1.cell? ⟨w.heap.size, 2, none⟩ = some (.int .i64 c) := Kv1.out.cell 2; have b3v1 : v1.cell? ⟨w.heap.size, 3, none⟩ = some (.string d) := Kv1.out.cell 3; have B1 := Lib.hid (keepBelow ((Below.refl _ _).alloc (Nat.le_refl _) _) hb1); clear hb1)
        | (go_at_call 55; refine (CL.out _ B1.out).mono ?_; rintro e v2 ⟨rfl, hb2⟩; have Kv2 := Lib.hid (keepBlk hb2 (Kv1.out)); have b0v2 : v2.cell? ⟨w.heap.size, 0, none⟩ = some (.int .i64 k) := Kv2.out.cell 0; have b1v2 : v2.cell? ⟨w.heap.size, 1, none⟩ = some (.int .i64 f) := Kv2.out.cell 1; have b2v2 : v2.cell? ⟨w.heap.size, 2, none⟩ = some (.int .i64 c) := Kv2.out.cell 2; have b3v2 : v2.cell? ⟨w.heap.size, 3, none⟩ = some (.string d) := Kv2.out.cell 3; have B2 := Lib.hid (keepBelow B1.out hb2); clear hb2))
      go_ret
      exact ⟨rfl, B2.out⟩
    · obtain rfl : n = 0 := by omega
      cases br
      all_goals
        go_enter Try.func54, Try.ntmps54
        go_wp2_with (first
          | (go_at_call 72; refine (CE.out _).mono ?_; rintro e v1 ⟨rfl, hb1⟩; have Kv1 := Lib.hid (keepBlk hb1 (Blk.new w 42 [.int .i64 k, .int .i64 f, .int .i64 c, .string d])); have b0v1 : v1.cell? ⟨w.heap.size, 0, none⟩ = some (.int .i64 k) := Kv1.out.cell 0; have b1v1 : v1.cell? ⟨w.heap.size, 1, none⟩ = some (.int .i64 f) := Kv1.out.cell 1; have b2v1 : v1.cell? ⟨w.heap.size, 2, none⟩ = some (.int .i64 c) := Kv1.out.cell 2; have b3v1 : v1.cell? ⟨w.heap.size, 3, none⟩ = some (.string d) := Kv1.out.cell 3; have B1 := Lib.hid (keepBelow ((Below.refl _ _).alloc (Nat.le_refl _) _) hb1); clear hb1)
          | (go_at_call 55; refine (CL.out _ B1.out).mono ?_; rintro e v2 ⟨rfl, hb2⟩; have Kv2 := Lib.hid (keepBlk hb2 (Kv1.out)); have b0v2 : v2.cell? ⟨w.heap.size, 0, none⟩ = some (.int .i64 k) := Kv2.out.cell 0; have b1v2 : v2.cell? ⟨w.heap.size, 1, none⟩ = some (.int .i64 f) := Kv2.out.cell 1; have b2v2 : v2.cell? ⟨w.heap.size, 2, none⟩ = some (.int .i64 c) := Kv2.out.cell 2; have b3v2 : v2.cell? ⟨w.heap.size, 3, none⟩ = some (.string d) := Kv2.out.cell 3; have B2 := Lib.hid (keepBelow B1.out hb2); clear hb2)
          | (go_at_call 71; refine (CR.out _ B2.out).mono ?_; rintro e v3 ⟨rfl, hb3⟩; have B3 := Lib.hid (keepBelow B2.out hb3); clear hb3))
        go_ret
        exact ⟨rfl, B3.out⟩
  · go_enter Try.func54, Try.ntmps54
    go_wp2_with (first
      | (go_at_call 72; refine (CE.out _).mono ?_; rintro e v1 ⟨rfl, hb1⟩; have Kv1 := Lib.hid (keepBlk hb1 (Blk.new w 42 [.int .i64 k, .int .i64 f, .int .i64 c, .string d])); have b0v1 : v1.cell? ⟨w.heap.size, 0, none⟩ = some (.int .i64 k) := Kv1.out.cell 0; have b1v1 : v1.cell? ⟨w.heap.size, 1, none⟩ = some (.int .i64 f) := Kv1.out.cell 1; have b2v1 : v1.cell? ⟨w.heap.size, 2, none⟩ = some (.int .i64 c) := Kv1.out.cell 2; have b3v1 : v1.cell? ⟨w.heap.size, 3, none⟩ = some (.string d) := Kv1.out.cell 3; have B1 := Lib.hid (keepBelow ((Below.refl _ _).alloc (Nat.le_refl _) _) hb1); clear hb1))
    go_ret
    exact ⟨rfl, B1.out⟩
/-- the error of an end that must be open -/
def openE (st : St) (a : Int) : Int := if a = 0 then (if st.c0 then 28 else 0) else if a = 1 then (if st.c1 then 28 else 0) else 1
theorem opened_nil (a : Int) (w : World) : Calls Try.prog 34 #[.pointer none, .int .i64 a] w fun e w' => e = .returned (.int .i64 6) ∧ w = w' := by
  go_enter Try.func34, Try.ntmps34
  go_wp2_with fail
  go_ret
  exact ⟨rfl, rfl⟩
set_option maxHeartbeats 800000 in
theorem opened_any (a : Int) (g : Nat) (S : Sl) (st : St) (w : World) (hP : PipeAt w g S st) :
    Calls Try.prog 34 #[.pointer (some ⟨g, 0, none⟩), .int .i64 a] w fun e w' => e = .returned (.int .i64 (openE st a)) ∧ w = w' := by
  have C42 := Lib.hid (fun W => isEnd_any a W)
  have z1 := hP.cells.2.1
  have z3 := hP.cells.2.2.2.1
  clear hP
  obtain ⟨q0, q1, c0, c1, l, t, ws, an⟩ := st
  unfold openE
  simp only at *
  by_cases h0 : a = 0
  · subst h0
    cases c0
    all_goals
      go_enter Try.func34, Try.ntmps34
      go_wp2_with (go_at_call 42; refine (C42.out _).mono ?_; rintro e v1 ⟨rfl, rfl⟩)
      go_ret
      exact ⟨rfl, rfl⟩
  · by_cases h1 : a = 1
    · subst h1
      cases c1
      all_goals
        go_enter Try.func34, Try.ntmps34
        go_wp2_with (go_at_call 42; refine (C42.out _).mono ?_; rintro e v1 ⟨rfl, rfl⟩)
        go_ret
        exact ⟨rfl, rfl⟩
    · rw [if_neg h0, if_neg h1]
      rw [decide_eq_false (fun h => h.elim h0 h1)] at C42
      clear h0 h1
      go_enter Try.func34, Try.ntmps34
      go_wp2_with (go_at_call 42; refine (C42.out _).mono ?_; rintro e v1 ⟨rfl, rfl⟩)
      go_ret
      exact ⟨rfl, rfl⟩
theorem Open_nil (a : Int) (w : World) : Calls Try.prog 15 #[.pointer none, .int .i64 a] w fun e w' => e = .returned (.bool false) ∧ w = w' := by
  have C := Lib.hid (fun W => opened_nil a W)
  go_enter Try.func15, Try.ntmps15
  go_wp2_with (go_at_call 34; refine (C.out _).mono ?_; rintro e v1 ⟨rfl, rfl⟩)
  go_ret
  exact ⟨rfl, rfl⟩
theorem Open_any (a : Int) (g : Nat) (S : Sl) (st : St) (w : World) (hP : PipeAt w g S st) :
    Calls Try.prog 15 #[.pointer (some ⟨g, 0, none⟩), .int .i64 a] w fun e w' => e = .returned (.bool (openE st a == 0)) ∧ w = w' := by
  have C := Lib.hid (opened_any a g S st w hP)
  clear hP
  generalize openE st a = o at *
  go_enter Try.func15, Try.ntmps15
  go_wp2_with (go_at_call 34; refine (C.out).mono ?_; rintro e v1 ⟨rfl, rfl⟩)
  go_ret
  exact ⟨rfl, rfl⟩
def newSt (l : Int) : St := ⟨[], [], false, false, l, 0, [], []⟩
def nilSl : Sl := ⟨.slice none 0 0, .slice none 0 0, .slice none 0 0, .slice none 0 0⟩
theorem New_no (l : Int) (h : l < 1 ∨ 1048576 < l) (w : World) : Calls Try.prog 12 #[.int .i64 l] w fun e w' => e = .returned (.tuple #[.pointer none, .int .i64 1]) ∧ w = w' := by
  rcases h with h | h
  · go_enter Try.func12, Try.ntmps12
    go_wp2_with fail
    go_ret2
    exact ⟨rfl, rfl⟩
  · have h' : ¬ l < 1 := by omega
    go_enter Try.func12, Try.ntmps12
    go_wp2_with fail
    go_ret2
    exact ⟨rfl, rfl⟩
theorem New_any (l : Int) (h1 : 1 ≤ l) (h2 : l ≤ 1048576) (w : World) : Calls Try.prog 12 #[.int .i64 l] w fun e w' => e = .returned (.tuple #[.pointer (some ⟨w.heap.size, 0, none⟩), .int .i64 0]) ∧ PipeAt w' w.heap.size nilSl (newSt l) ∧ Below w.heap.size w w' := by
  have h3 : ¬ l < 1 := by omega
  go_enter Try.func12, Try.ntmps12
  go_wp2_with fail
  go_ret2
  refine ⟨rfl, ⟨Blk.new w 88 [_, _, _, _, _, _, _, _], Row.nil _ _ _, Row.nil _ _ _, Row.nil _ _ _, Row.nil _ _ _, fun k hk => by cases hk⟩, (Below.refl _ _).alloc (Nat.le_refl _) _⟩
end Go.Proofs.Ytmnlojbfdpjjdaa
