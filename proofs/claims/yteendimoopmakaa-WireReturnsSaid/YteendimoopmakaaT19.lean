/- A reader's Count, Raw, End: a live reader's call and a stopped one's. For a reader whose place lies in its string. -/
import Derived.Test.YteendimoopmakaaT18
namespace Go.Proofs.Yteendimoopmakaa
open Go.RowKit

def boxed (w : World) (r : Nat) (n : Int) : World := (w.alloc (.cells #[.pointer (some ⟨r, 0, none⟩)] 40)).alloc (.cells #[.int .i64 n] 3)
theorem boxed_below (w : World) (r : Nat) (n : Int) : Below w.heap.size w (boxed w r n) := ((Below.refl _ _).alloc (Nat.le_refl _) _).alloc (by simp) _
theorem boxed_rd {w : World} {r : Nat} {s : ByteArray} {a : Nat} {e : Int} (n : Int) (h : RdAt w r s a e) : RdAt (boxed w r n) r s a e := Blk.below h (boxed_below w r n) (Blk.lt h)
theorem boxed_r (w : World) (r : Nat) (n : Int) : (boxed w r n).cell? ⟨w.heap.size, 0, none⟩ = some (.pointer (some ⟨r, 0, none⟩)) :=
  (((Blk.new w 40 [.pointer (some ⟨r, 0, none⟩)]).below ((Below.refl _ _).alloc (Nat.le_refl _) (.cells #[.int .i64 n] 3)) (by simp))).cell 0
theorem boxed_n (w : World) (r : Nat) (n : Int) : (boxed w r n).cell? ⟨w.heap.size + 1, 0, none⟩ = some (.int .i64 n) := by
  simp [boxed]
def boxed1 (w : World) (r : Nat) : World := w.alloc (.cells #[.pointer (some ⟨r, 0, none⟩)] 40)
theorem boxed1_below (w : World) (r : Nat) : Below w.heap.size w (boxed1 w r) := (Below.refl _ _).alloc (Nat.le_refl _) _
theorem boxed1_rd {w : World} {r : Nat} {s : ByteArray} {a : Nat} {e : Int} (h : RdAt w r s a e) : RdAt (boxed1 w r) r s a e := Blk.below h (boxed1_below w r) (Blk.lt h)
theorem boxed1_r (w : World) (r : Nat) : (boxed1 w r).cell? ⟨w.heap.size, 0, none⟩ = some (.pointer (some ⟨r, 0, none⟩)) := (Blk.new w 40 [.pointer (some ⟨r, 0, none⟩)]).cell 0
theorem mf (fn : Fn) (first cap : Array Value) (w : World) : (Instr.makeFunc fn first cap).run Try.prog w = .ok (.func fn first cap) w := rfl

set_option maxHeartbeats 1600000 in
theorem Count_live (n : Int) (r : Nat) (s : ByteArray) (a : Nat) (w : World) (h : RdAt w r s a 0) (ha : a ≤ s.size) (hs : s.size ≤ 140737488351232) :
    Calls Try.prog 48 #[.pointer (some ⟨r, 0, none⟩), .int .i64 n] w (RdCall w r s (Value.int .i64 (rdCount s a n).1) (.int .i64 0) a (rdCount s a n).2.1 (rdCount s a n).2.2) := by
  have hb := boxed_below w r n
  have hr0 := boxed_rd n h
  have hc0 := boxed_r w r n
  have hc1 := boxed_n w r n
  have h1 : (boxed w r n).cell? ⟨r, 1, none⟩ = some (.int .i64 a) := hr0.cell 1
  have h2 : (boxed w r n).cell? ⟨r, 2, none⟩ = some (.int .i64 0) := hr0.cell 2
  have HC := Lib.hid (Count1_any n r s a (boxed w r n) w.heap.size (w.heap.size + 1) hr0 ha hs hc0 hc1)
  have hmf := mf
  clear h hr0
  generalize (Value.int .i64 (rdCount s a n).1) = v at HC ⊢
  generalize (rdCount s a n).2.2 = k at HC ⊢
  generalize (rdCount s a n).2.1 = c at HC ⊢
  unfold boxed at *
  unfold RdCall
  by_cases hc : c = 0
  · subst hc
    simp only [if_true]
    go_enter Try.func48, Try.ntmps48
    go_wp2_with (first | (go_at_call 79; refine HC.out.mono ?_; rintro e w1 ⟨rfl, k1, hr1, hk1, hk2⟩; have HK := Lib.hid hk2; clear hk2; dsimp only) | go_in)
    go_ret2
    exact ⟨rfl, rd_at_eq (rd_ext hb hr1) (HK.out trivial)⟩
  · have hne : (c != 0) = true := by rw [bne_iff_ne]; exact hc
    rw [if_neg hc, if_neg hc]
    clear hc
    go_enter Try.func48, Try.ntmps48
    go_wp2_with (first | (go_at_call 79; refine HC.out.mono ?_; rintro e w1 ⟨rfl, k1, hr1, hk1, hk2⟩; clear hk2; dsimp only; obtain ⟨q1, q2, q3, q4⟩ := rd_cells hr1.1) | go_in)
    go_ret2
    exact ⟨rfl, rd_stop (rd_ext hb hr1)⟩
set_option maxHeartbeats 800000 in
theorem Count_stopped (n : Int) (r : Nat) (s : ByteArray) (a : Nat) (c : Int) (w : World) (h : RdAt w r s a c) (hc : c ≠ 0) :
    Calls Try.prog 48 #[.pointer (some ⟨r, 0, none⟩), .int .i64 n] w fun e w' => e = .returned (.tuple #[(.int .i64 0), .int .i64 c]) ∧ Rd w w' r s a c := by
  have hb := boxed_below w r n
  have hr0 := boxed_rd n h
  have hc0 := boxed_r w r n
  have h2 : (boxed w r n).cell? ⟨r, 2, none⟩ = some (.int .i64 c) := hr0.cell 2
  have hne : (c != 0) = true := by rw [bne_iff_ne]; exact hc
  have hmf := mf
  clear hc
  unfold boxed at *
  go_enter Try.func48, Try.ntmps48
  go_wp2
  go_quiet (fail)
  go_wp2
  go_ret2
  exact ⟨rfl, rd_ext hb (rd_drewN hr0 _)⟩

set_option maxHeartbeats 1600000 in
theorem Raw_live (n : Int) (r : Nat) (s : ByteArray) (a : Nat) (w : World) (h : RdAt w r s a 0) (ha : a ≤ s.size) (hs : s.size ≤ 140737488351232) :
    Calls Try.prog 29 #[.pointer (some ⟨r, 0, none⟩), .int .i64 n] w (RdCall w r s (if n < 0 then Value.string ⟨#[]⟩ else takeV s a n) (.string ⟨#[]⟩) a (if n < 0 then 11 else takeC s a n) (a + n.toNat)) := by
  have hb := boxed_below w r n
  have hr0 := boxed_rd n h
  have hc0 := boxed_r w r n
  have hc1 := boxed_n w r n
  have h1 : (boxed w r n).cell? ⟨r, 1, none⟩ = some (.int .i64 a) := hr0.cell 1
  have h2 : (boxed w r n).cell? ⟨r, 2, none⟩ = some (.int .i64 0) := hr0.cell 2
  have HC := Lib.hid (Raw1_any n r s a (boxed w r n) (w.heap.size + 1) w.heap.size hr0 ha hs hc1 hc0)
  have hmf := mf
  clear h hr0
  generalize (if n < 0 then Value.string ⟨#[]⟩ else takeV s a n) = v at HC ⊢
  generalize (a + n.toNat) = k at HC ⊢
  generalize (if n < 0 then 11 else takeC s a n) = c at HC ⊢
  unfold boxed at *
  unfold RdCall
  by_cases hc : c = 0
  · subst hc
    simp only [if_true]
    go_enter Try.func29, Try.ntmps29
    go_wp2_with (first | (go_at_call 61; refine HC.out.mono ?_; rintro e w1 ⟨rfl, k1, hr1, hk1, hk2⟩; have HK := Lib.hid hk2; clear hk2; dsimp only) | go_in)
    go_ret2
    exact ⟨rfl, rd_at_eq (rd_ext hb hr1) (HK.out trivial)⟩
  · have hne : (c != 0) = true := by rw [bne_iff_ne]; exact hc
    rw [if_neg hc, if_neg hc]
    clear hc
    go_enter Try.func29, Try.ntmps29
    go_wp2_with (first | (go_at_call 61; refine HC.out.mono ?_; rintro e w1 ⟨rfl, k1, hr1, hk1, hk2⟩; clear hk2; dsimp only; obtain ⟨q1, q2, q3, q4⟩ := rd_cells hr1.1) | go_in)
    go_ret2
    exact ⟨rfl, rd_stop (rd_ext hb hr1)⟩
set_option maxHeartbeats 800000 in
theorem Raw_stopped (n : Int) (r : Nat) (s : ByteArray) (a : Nat) (c : Int) (w : World) (h : RdAt w r s a c) (hc : c ≠ 0) :
    Calls Try.prog 29 #[.pointer (some ⟨r, 0, none⟩), .int .i64 n] w fun e w' => e = .returned (.tuple #[(.string ⟨#[]⟩), .int .i64 c]) ∧ Rd w w' r s a c := by
  have hb := boxed_below w r n
  have hr0 := boxed_rd n h
  have hc0 := boxed_r w r n
  have h2 : (boxed w r n).cell? ⟨r, 2, none⟩ = some (.int .i64 c) := hr0.cell 2
  have hne : (c != 0) = true := by rw [bne_iff_ne]; exact hc
  have hmf := mf
  clear hc
  unfold boxed at *
  go_enter Try.func29, Try.ntmps29
  go_wp2
  go_quiet (fail)
  go_wp2
  go_ret2
  exact ⟨rfl, rd_ext hb (rd_drewN hr0 _)⟩

set_option maxHeartbeats 1600000 in
theorem End_live (r : Nat) (s : ByteArray) (a : Nat) (w : World) (h : RdAt w r s a 0) (ha : a ≤ s.size) (hs : s.size ≤ 140737488351232) :
    Calls Try.prog 28 #[.pointer (some ⟨r, 0, none⟩)] w fun e w' => e = .returned (.int .i64 (if a < s.size then 2 else 0)) ∧ Rd w w' r s a (if a < s.size then 2 else 0) := by
  have hb := boxed1_below w r
  have hr0 := boxed1_rd h
  have hc0 := boxed1_r w r
  have h1 : (boxed1 w r).cell? ⟨r, 1, none⟩ = some (.int .i64 a) := hr0.cell 1
  have h2 : (boxed1 w r).cell? ⟨r, 2, none⟩ = some (.int .i64 0) := hr0.cell 2
  have HC := Lib.hid (End1_any r s a (boxed1 w r) w.heap.size hr0 ha hs hc0)
  have hmf := mf
  clear h hr0
  generalize decide (s.size ≤ a) = v at HC
  generalize (if a < s.size then (2 : Int) else 0) = c at HC ⊢
  unfold boxed1 at *
  by_cases hc : c = 0
  · subst hc
    go_enter Try.func28, Try.ntmps28
    go_wp2_with (first | (go_at_call 59; refine HC.out.mono ?_; rintro e w1 ⟨rfl, k1, hr1, hk1, hk2⟩; have HK := Lib.hid hk2; clear hk2; dsimp only) | go_in)
    go_ret
    exact ⟨rfl, rd_at_eq (rd_ext hb hr1) (HK.out trivial)⟩
  · have hne : (c != 0) = true := by rw [bne_iff_ne]; exact hc
    clear hc
    go_enter Try.func28, Try.ntmps28
    go_wp2_with (first | (go_at_call 59; refine HC.out.mono ?_; rintro e w1 ⟨rfl, k1, hr1, hk1, hk2⟩; clear hk2; dsimp only; obtain ⟨q1, q2, q3, q4⟩ := rd_cells hr1.1) | go_in)
    go_ret
    exact ⟨rfl, rd_stop (rd_ext hb hr1)⟩
set_option maxHeartbeats 800000 in
theorem End_stopped (r : Nat) (s : ByteArray) (a : Nat) (c : Int) (w : World) (h : RdAt w r s a c) (hc : c ≠ 0) :
    Calls Try.prog 28 #[.pointer (some ⟨r, 0, none⟩)] w fun e w' => e = .returned (.int .i64 c) ∧ Rd w w' r s a c := by
  have hb := boxed1_below w r
  have hr0 := boxed1_rd h
  have hc0 := boxed1_r w r
  have h2 : (boxed1 w r).cell? ⟨r, 2, none⟩ = some (.int .i64 c) := hr0.cell 2
  have hne : (c != 0) = true := by rw [bne_iff_ne]; exact hc
  have hmf := mf
  clear hc
  unfold boxed1 at *
  go_enter Try.func28, Try.ntmps28
  go_wp2
  go_quiet (fail)
  go_wp2
  go_ret
  exact ⟨rfl, rd_ext hb (rd_drewN hr0 _)⟩
end Go.Proofs.Yteendimoopmakaa
