/- A reader's Number gives rdNumber, and an error stops the reader where it was. For a reader whose place lies in its string. -/
import Derived.Test.YteendimoopmakaaT5
import Derived.Laws.Closers25
namespace Go.Proofs.Yteendimoopmakaa
open Go.RowKit

/-- What a number's reading gives: the value, the error, the place behind it. -/
def rdNumber (s : ByteArray) (a : Nat) : Int × Int × Nat :=
  if h : a < s.size then
    if (s[a]'h).toNat < 128 then (if s.size < a + 1 then (0, 16, a) else if sizeN (numV s a 1 7) = 1 then (numV s a 1 7, 0, a + 1) else (0, 2, a))
    else if (s[a]'h).toNat < 192 then (if s.size < a + 2 then (0, 16, a) else if sizeN (numV s a 2 14) = 2 then (numV s a 2 14, 0, a + 2) else (0, 2, a))
    else if (s[a]'h).toNat < 224 then (if s.size < a + 4 then (0, 16, a) else if sizeN (numV s a 4 29) = 4 then (numV s a 4 29, 0, a + 4) else (0, 2, a))
    else if (s[a]'h).toNat = 224 then (if s.size < a + 9 then (0, 16, a) else if sizeN (numV s a 9 64) = 9 then (numV s a 9 64, 0, a + 9) else (0, 2, a))
    else (0, 2, a)
  else (0, 16, a)

/-- What a value's reading leaves: the value and the error as told; the place, if there is no error. -/
def NumPost (w : World) (r : Nat) (s : ByteArray) (x : Int × Int × Nat) (e : Ending) (w' : World) : Prop :=
  e = .returned (.tuple #[.int .i64 x.1, .int .i64 x.2.1]) ∧ ∃ k, Rd w w' r s k 0 ∧ k ≤ s.size ∧ (x.2.1 = 0 → k = x.2.2)

theorem numPost_of {w w' : World} {r : Nat} {s : ByteArray} {a m b : Nat} {e : Ending} (hm : a + m ≤ s.size) (h : e = .returned (numR s a m b) ∧ Rd w w' r s (a + m) 0) :
    NumPost w r s (if sizeN (numV s a m b) = m then (numV s a m b, 0, a + m) else (0, 2, a)) e w' := by
  obtain ⟨rfl, h⟩ := h
  unfold numR
  by_cases hs : sizeN (numV s a m b) = m
  · rw [if_pos hs, if_pos hs]; exact ⟨rfl, _, h, hm, fun _ => rfl⟩
  · rw [if_neg hs, if_neg hs]; exact ⟨rfl, _, h, hm, fun h => by cases h⟩
theorem numPost_err {w w' : World} {r : Nat} {s : ByteArray} {a : Nat} {c : Int} {e : Ending} (hc : c ≠ 0) (ha : a ≤ s.size) (h : e = .returned (.tuple #[.int .i64 0, .int .i64 c]) ∧ Rd w w' r s a 0) :
    NumPost w r s (0, c, a) e w' := by
  obtain ⟨rfl, h⟩ := h
  exact ⟨rfl, _, h, ha, fun h => (hc h).elim⟩
theorem rnum_any (r : Nat) (s : ByteArray) (a : Nat) (w : World) (h : RdAt w r s a 0) (ha : a ≤ s.size) (hs : s.size ≤ 140737488351232) :
    Calls Try.prog 67 #[.pointer (some ⟨r, 0, none⟩)] w (NumPost w r s (rdNumber s a)) := by
  unfold rdNumber
  by_cases hlt : a < s.size
  · rw [dif_pos hlt]
    by_cases h1 : (s[a]'hlt).toNat < 128
    · rw [if_pos h1]
      by_cases hm : s.size < a + 1
      · omega
      · rw [if_neg hm]
        exact (rnum_1 r s a w h hlt hs (by omega) h1).mono fun _ _ hh => numPost_of (by omega) hh
    · rw [if_neg h1]
      by_cases h2 : (s[a]'hlt).toNat < 192
      · rw [if_pos h2]
        by_cases hm : s.size < a + 2
        · rw [if_pos hm]
          exact (rnum_short2 r s a w h hlt hs hm ⟨by omega, h2⟩).mono fun _ _ hh => numPost_err (by decide) ha hh
        · rw [if_neg hm]
          exact (rnum_2 r s a w h hlt hs (by omega) ⟨by omega, h2⟩).mono fun _ _ hh => numPost_of (by omega) hh
      · rw [if_neg h2]
        by_cases h3 : (s[a]'hlt).toNat < 224
        · rw [if_pos h3]
          by_cases hm : s.size < a + 4
          · rw [if_pos hm]
            exact (rnum_short4 r s a w h hlt hs hm ⟨by omega, h3⟩).mono fun _ _ hh => numPost_err (by decide) ha hh
          · rw [if_neg hm]
            exact (rnum_4 r s a w h hlt hs (by omega) ⟨by omega, h3⟩).mono fun _ _ hh => numPost_of (by omega) hh
        · rw [if_neg h3]
          by_cases h4 : (s[a]'hlt).toNat = 224
          · rw [if_pos h4]
            by_cases hm : s.size < a + 9
            · rw [if_pos hm]
              exact (rnum_short9 r s a w h hlt hs hm h4).mono fun _ _ hh => numPost_err (by decide) ha hh
            · rw [if_neg hm]
              exact (rnum_9 r s a w h hlt hs (by omega) h4).mono fun _ _ hh => numPost_of (by omega) hh
          · rw [if_neg h4]
            exact (rnum_form r s a w h hlt hs (by omega)).mono fun _ _ hh => numPost_err (by decide) ha hh
  · rw [dif_neg hlt]
    exact (rnum_end r s a w h (by omega) hs).mono fun _ _ hh => numPost_err (by decide) ha hh

theorem newReader_any (s : ByteArray) (w : World) : Calls Try.prog 20 #[.string s] w fun e w' => e = .returned (.pointer (some ⟨w.heap.size, 0, none⟩)) ∧ w.alloc (.cells #[.string s, .int .i64 0, .int .i64 0] 76) = w' := by
  go_enter Try.func20, Try.ntmps20
  go_wp2
  go_ret
  exact ⟨rfl, rfl⟩
theorem rd_new (s : ByteArray) (w : World) : RdAt (w.alloc (.cells #[.string s, .int .i64 0, .int .i64 0] 76)) w.heap.size s 0 0 := Blk.new w 76 [.string s, .int .i64 0, .int .i64 0]

/-- An error stops a reader where it was. -/
theorem rd_stop {w w1 : World} {r : Nat} {s : ByteArray} {a k : Nat} {c : Int} (h : Rd w w1 r s k 0) :
    Rd w ((w1.setCell ⟨r, 1, none⟩ (.int .i64 a)).setCell ⟨r, 2, none⟩ (.int .i64 c)) r s a c := by
  obtain ⟨h1, h2⟩ := h
  refine ⟨(Blk.set_ (Blk.set_ h1 1 _) 2 _), h2.trans ⟨rfl, rfl, rfl, by simp [World.setCell], fun i _ hi => ?_⟩⟩
  have hne : i ≠ r := fun e => hi (by rw [e])
  rw [Below.heap_setCell _ _ _ _ hne, Below.heap_setCell _ _ _ _ hne]

set_option maxHeartbeats 800000 in
theorem Number_stopped (r : Nat) (s : ByteArray) (a : Nat) (c : Int) (w : World) (h : RdAt w r s a c) (hc : c ≠ 0) :
    Calls Try.prog 32 #[.pointer (some ⟨r, 0, none⟩)] w fun e w' => e = .returned (.tuple #[.int .i64 0, .int .i64 c]) ∧ Rd w w' r s a c := by
  have h2 : w.cell? ⟨r, 2, none⟩ = some (.int .i64 c) := h.cell 2
  have hne : (c != 0) = true := by rw [bne_iff_ne]; exact hc
  clear hc
  have hmf : ∀ (fn : Fn) (first cap : Array Value) (w : World), (Instr.makeFunc fn first cap).run Try.prog w = .ok (.func fn first cap) w := fun _ _ _ _ => rfl
  go_enter Try.func32, Try.ntmps32
  go_wp2
  go_quiet (fail)
  go_wp2
  go_ret2
  exact ⟨rfl, rd_drewN h _⟩
theorem rd_at_eq {w w' : World} {r : Nat} {s : ByteArray} {a b : Nat} {e : Int} (h : Rd w w' r s a e) (hab : a = b) : Rd w w' r s b e := hab ▸ h
/-- The reader's cells, for a walk. -/
theorem rd_cells {w : World} {r : Nat} {s : ByteArray} {a : Nat} {e : Int} (h : RdAt w r s a e) : w.cell? ⟨r, 1, none⟩ = some (.int .i64 a) ∧ w.cell? ⟨r, 2, none⟩ = some (.int .i64 e) ∧ w.frozen? ⟨r, 1, none⟩ = false ∧ w.frozen? ⟨r, 2, none⟩ = false :=
  ⟨h.cell 1, h.cell 2, h.frozen 1, h.frozen 2⟩
/-- The whole outcome of a call of a live reader: value, error, place; an error leaves the place where it was. -/
def outAt (a : Nat) (x : Int × Int × Nat) : Nat := if x.2.1 = 0 then x.2.2 else a
set_option maxHeartbeats 1600000 in
theorem Number_live (r : Nat) (s : ByteArray) (a : Nat) (w : World) (h : RdAt w r s a 0) (ha : a ≤ s.size) (hs : s.size ≤ 140737488351232) :
    Calls Try.prog 32 #[.pointer (some ⟨r, 0, none⟩)] w fun e w' => e = .returned (.tuple #[.int .i64 (if (rdNumber s a).2.1 = 0 then (rdNumber s a).1 else 0), .int .i64 (rdNumber s a).2.1]) ∧ Rd w w' r s (outAt a (rdNumber s a)) (rdNumber s a).2.1 := by
  have h1 : w.cell? ⟨r, 1, none⟩ = some (.int .i64 a) := h.cell 1
  have h2 : w.cell? ⟨r, 2, none⟩ = some (.int .i64 0) := h.cell 2
  have hmf : ∀ (fn : Fn) (first cap : Array Value) (w : World), (Instr.makeFunc fn first cap).run Try.prog w = .ok (.func fn first cap) w := fun _ _ _ _ => rfl
  have HC := Lib.hid (rnum_any r s a w h ha hs)
  generalize rdNumber s a = x at HC ⊢
  obtain ⟨n, c, k⟩ := x
  unfold outAt
  by_cases hc : c = 0
  · subst hc
    simp only [if_true]
    go_enter Try.func32, Try.ntmps32
    go_wp2_with (first | (go_at_call 67; refine HC.out.mono ?_; rintro e w1 ⟨rfl, k1, hr1, hk1, hk2⟩; have HK := Lib.hid hk2; clear hk2; dsimp only) | go_in)
    go_ret2
    exact ⟨rfl, rd_at_eq hr1 (HK.out trivial)⟩
  · have hne : (c != 0) = true := by rw [bne_iff_ne]; exact hc
    rw [if_neg hc, if_neg hc]
    clear hc
    go_enter Try.func32, Try.ntmps32
    go_wp2_with (first | (go_at_call 67; refine HC.out.mono ?_; rintro e w1 ⟨rfl, k1, hr1, hk1, hk2⟩; clear hk2; dsimp only; obtain ⟨q1, q2, q3, q4⟩ := rd_cells hr1.1) | go_in)
    go_ret2
    exact ⟨rfl, rd_stop hr1⟩
end Go.Proofs.Yteendimoopmakaa
