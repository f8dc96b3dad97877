/- A reader's Little, Signed, String: a live reader's call and a stopped one's. For a reader whose place lies in its string. -/
import Derived.Test.YteendimoopmakaaT19
import Derived.Test.YteendimoopmakaaT20
namespace Go.Proofs.Yteendimoopmakaa
open Go.RowKit

set_option maxHeartbeats 1600000 in
theorem Little_live (n : Int) (r : Nat) (s : ByteArray) (a : Nat) (w : World) (h : RdAt w r s a 0) (ha : a ≤ s.size) (hs : s.size ≤ 140737488351232) :
    Calls Try.prog 44 #[.pointer (some ⟨r, 0, none⟩), .int .i64 n] w (RdCall w r s (Value.int .i64 (ltV s a n)) (.int .i64 0) a (ltC s a n) (a + n.toNat)) := by
  have hb := boxed_below w r n
  have hr0 := boxed_rd n h
  have hc0 := boxed_r w r n
  have hc1 := boxed_n w r n
  have h1 : (boxed w r n).cell? ⟨r, 1, none⟩ = some (.int .i64 a) := hr0.cell 1
  have h2 : (boxed w r n).cell? ⟨r, 2, none⟩ = some (.int .i64 0) := hr0.cell 2
  have HC := Lib.hid (Little1_any n r s a (boxed w r n) w.heap.size (w.heap.size + 1) hr0 ha hs hc0 hc1)
  have hmf := mf
  clear h hr0
  generalize (Value.int .i64 (ltV s a n)) = v at HC ⊢
  generalize (a + n.toNat) = k at HC ⊢
  generalize (ltC s a n) = c at HC ⊢
  unfold boxed at *
  unfold RdCall
  by_cases hc : c = 0
  · subst hc
    simp only [if_true]
    go_enter Try.func44, Try.ntmps44
    go_wp2_with (first | (go_at_call 71; refine HC.out.mono ?_; rintro e w1 ⟨rfl, k1, hr1, hk1, hk2⟩; have HK := Lib.hid hk2; clear hk2; dsimp only) | go_in)
    go_ret2
    exact ⟨rfl, rd_at_eq (rd_ext hb hr1) (HK.out trivial)⟩
  · have hne : (c != 0) = true := by rw [bne_iff_ne]; exact hc
    rw [if_neg hc, if_neg hc]
    clear hc
    go_enter Try.func44, Try.ntmps44
    go_wp2_with (first | (go_at_call 71; refine HC.out.mono ?_; rintro e w1 ⟨rfl, k1, hr1, hk1, hk2⟩; clear hk2; dsimp only; obtain ⟨q1, q2, q3, q4⟩ := rd_cells hr1.1) | go_in)
    go_ret2
    exact ⟨rfl, rd_stop (rd_ext hb hr1)⟩
set_option maxHeartbeats 800000 in
theorem Little_stopped (n : Int) (r : Nat) (s : ByteArray) (a : Nat) (c : Int) (w : World) (h : RdAt w r s a c) (hc : c ≠ 0) :
    Calls Try.prog 44 #[.pointer (some ⟨r, 0, none⟩), .int .i64 n] w fun e w' => e = .returned (.tuple #[(.int .i64 0), .int .i64 c]) ∧ Rd w w' r s a c := by
  have hb := boxed_below w r n
  have hr0 := boxed_rd n h
  have hc0 := boxed_r w r n
  have h2 : (boxed w r n).cell? ⟨r, 2, none⟩ = some (.int .i64 c) := hr0.cell 2
  have hne : (c != 0) = true := by rw [bne_iff_ne]; exact hc
  have hmf := mf
  clear hc
  unfold boxed at *
  go_enter Try.func44, Try.ntmps44
  go_wp2
  go_quiet (fail)
  go_wp2
  go_ret2
  exact ⟨rfl, rd_ext hb (rd_drewN hr0 _)⟩

set_option maxHeartbeats 1600000 in
theorem Signed_live (n : Int) (r : Nat) (s : ByteArray) (a : Nat) (w : World) (h : RdAt w r s a 0) (ha : a ≤ s.size) (hs : s.size ≤ 140737488351232) :
    Calls Try.prog 45 #[.pointer (some ⟨r, 0, none⟩), .int .i64 n] w (RdCall w r s (Value.int .i64 (sgV s a n)) (.int .i64 0) a (rlC s a n) (a + n.toNat)) := by
  have hb := boxed_below w r n
  have hr0 := boxed_rd n h
  have hc0 := boxed_r w r n
  have hc1 := boxed_n w r n
  have h1 : (boxed w r n).cell? ⟨r, 1, none⟩ = some (.int .i64 a) := hr0.cell 1
  have h2 : (boxed w r n).cell? ⟨r, 2, none⟩ = some (.int .i64 0) := hr0.cell 2
  have HC := Lib.hid (Signed1_any n r s a (boxed w r n) w.heap.size (w.heap.size + 1) hr0 ha hs hc0 hc1 (by have := Blk.lt h; omega))
  have hmf := mf
  clear h hr0
  generalize (Value.int .i64 (sgV s a n)) = v at HC ⊢
  generalize (a + n.toNat) = k at HC ⊢
  generalize (rlC s a n) = c at HC ⊢
  unfold boxed at *
  unfold RdCall
  by_cases hc : c = 0
  · subst hc
    simp only [if_true]
    go_enter Try.func45, Try.ntmps45
    go_wp2_with (first | (go_at_call 73; refine HC.out.mono ?_; rintro e w1 ⟨rfl, k1, hr1, hk1, hk2⟩; have HK := Lib.hid hk2; clear hk2; dsimp only) | go_in)
    go_ret2
    exact ⟨rfl, rd_at_eq (rd_ext hb hr1) (HK.out trivial)⟩
  · have hne : (c != 0) = true := by rw [bne_iff_ne]; exact hc
    rw [if_neg hc, if_neg hc]
    clear hc
    go_enter Try.func45, Try.ntmps45
    go_wp2_with (first | (go_at_call 73; refine HC.out.mono ?_; rintro e w1 ⟨rfl, k1, hr1, hk1, hk2⟩; clear hk2; dsimp only; obtain ⟨q1, q2, q3, q4⟩ := rd_cells hr1.1) | go_in)
    go_ret2
    exact ⟨rfl, rd_stop (rd_ext hb hr1)⟩
set_option maxHeartbeats 800000 in
theorem Signed_stopped (n : Int) (r : Nat) (s : ByteArray) (a : Nat) (c : Int) (w : World) (h : RdAt w r s a c) (hc : c ≠ 0) :
    Calls Try.prog 45 #[.pointer (some ⟨r, 0, none⟩), .int .i64 n] w fun e w' => e = .returned (.tuple #[(.int .i64 0), .int .i64 c]) ∧ Rd w w' r s a c := by
  have hb := boxed_below w r n
  have hr0 := boxed_rd n h
  have hc0 := boxed_r w r n
  have h2 : (boxed w r n).cell? ⟨r, 2, none⟩ = some (.int .i64 c) := hr0.cell 2
  have hne : (c != 0) = true := by rw [bne_iff_ne]; exact hc
  have hmf := mf
  clear hc
  unfold boxed at *
  go_enter Try.func45, Try.ntmps45
  go_wp2
  go_quiet (fail)
  go_wp2
  go_ret2
  exact ⟨rfl, rd_ext hb (rd_drewN hr0 _)⟩

set_option maxHeartbeats 1600000 in
theorem String_live (n : Int) (r : Nat) (s : ByteArray) (a : Nat) (w : World) (h : RdAt w r s a 0) (ha : a ≤ s.size) (hs : s.size ≤ 140737488351232) :
    Calls Try.prog 46 #[.pointer (some ⟨r, 0, none⟩), .int .i64 n] w (RdCall w r s (stV s a n) (.string ⟨#[]⟩) a (stC s a n) (stK s a n)) := by
  have hb := boxed_below w r n
  have hr0 := boxed_rd n h
  have hc0 := boxed_r w r n
  have hc1 := boxed_n w r n
  have h1 : (boxed w r n).cell? ⟨r, 1, none⟩ = some (.int .i64 a) := hr0.cell 1
  have h2 : (boxed w r n).cell? ⟨r, 2, none⟩ = some (.int .i64 0) := hr0.cell 2
  have HC := Lib.hid (String1_any n r s a (boxed w r n) w.heap.size (w.heap.size + 1) hr0 ha hs hc0 hc1 (by have := Blk.lt h; omega))
  have hmf := mf
  clear h hr0
  generalize (stV s a n) = v at HC ⊢
  generalize (stK s a n) = k at HC ⊢
  generalize (stC s a n) = c at HC ⊢
  unfold boxed at *
  unfold RdCall
  by_cases hc : c = 0
  · subst hc
    simp only [if_true]
    go_enter Try.func46, Try.ntmps46
    go_wp2_with (first | (go_at_call 74; refine HC.out.mono ?_; rintro e w1 ⟨rfl, k1, hr1, hk1, hk2⟩; have HK := Lib.hid hk2; clear hk2; dsimp only) | go_in)
    go_ret2
    exact ⟨rfl, rd_at_eq (rd_ext hb hr1) (HK.out trivial)⟩
  · have hne : (c != 0) = true := by rw [bne_iff_ne]; exact hc
    rw [if_neg hc, if_neg hc]
    clear hc
    go_enter Try.func46, Try.ntmps46
    go_wp2_with (first | (go_at_call 74; refine HC.out.mono ?_; rintro e w1 ⟨rfl, k1, hr1, hk1, hk2⟩; clear hk2; dsimp only; obtain ⟨q1, q2, q3, q4⟩ := rd_cells hr1.1) | go_in)
    go_ret2
    exact ⟨rfl, rd_stop (rd_ext hb hr1)⟩
set_option maxHeartbeats 800000 in
theorem String_stopped (n : Int) (r : Nat) (s : ByteArray) (a : Nat) (c : Int) (w : World) (h : RdAt w r s a c) (hc : c ≠ 0) :
    Calls Try.prog 46 #[.pointer (some ⟨r, 0, none⟩), .int .i64 n] w fun e w' => e = .returned (.tuple #[(.string ⟨#[]⟩), .int .i64 c]) ∧ Rd w w' r s a c := by
  have hb := boxed_below w r n
  have hr0 := boxed_rd n h
  have hc0 := boxed_r w r n
  have h2 : (boxed w r n).cell? ⟨r, 2, none⟩ = some (.int .i64 c) := hr0.cell 2
  have hne : (c != 0) = true := by rw [bne_iff_ne]; exact hc
  have hmf := mf
  clear hc
  unfold boxed at *
  go_enter Try.func46, Try.ntmps46
  go_wp2
  go_quiet (fail)
  go_wp2
  go_ret2
  exact ⟨rfl, rd_ext hb (rd_drewN hr0 _)⟩
end Go.Proofs.Yteendimoopmakaa
