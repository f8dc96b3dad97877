/- The reference's ReadLittle, ReadSigned, ReadRaw, ReadEnd give the same error, place and value as the reader's methods. For a place that lies in the string. -/
import Derived.Test.YteendimoopmakaaT27
namespace Go.Proofs.Yteendimoopmakaa
open Go.RowKit

theorem fin_below2 {w w1 : World} {s : ByteArray} {a c : Int} (hb : Below (two w s a c).heap.size (two w s a c) w1) (q k e : Value) (o : Obj) :
    Below w.heap.size w ((((w1.setCell ⟨w.heap.size + 1, 0, none⟩ q).setCell ⟨w.heap.size + 1, 1, none⟩ k).setCell ⟨w.heap.size + 1, 2, none⟩ e).alloc o).drew :=
  ((fin_below hb q k e).alloc (by have := hb.size; rw [two_size] at this; simp [World.setCell]; omega) _).drew
theorem stop_fin {w w1 w3 : World} {s q : ByteArray} {a c : Int} {o : Obj} (hb : Below (two w s a c).heap.size (two w s a c) w1) (hb3 : Below (w1.alloc o).heap.size (w1.alloc o) w3) (k e : Int) :
    Blk (((w3.setCell ⟨w.heap.size + 1, 0, none⟩ (.string q)).setCell ⟨w.heap.size + 1, 1, none⟩ (.int .i64 k)).setCell ⟨w.heap.size + 1, 2, none⟩ (.int .i64 e)) (w.heap.size + 1) 43 [.string q, .int .i64 k, .int .i64 e] :=
  fin_blk ((hb.alloc (Nat.le_trans (Nat.le_refl _) hb.size) o).trans (hb3.mono (by have := hb.size; simp; omega))) k e
theorem stop_below {w w1 w3 : World} {s : ByteArray} {a c : Int} {o : Obj} (hb : Below (two w s a c).heap.size (two w s a c) w1) (hb3 : Below (w1.alloc o).heap.size (w1.alloc o) w3) (q k e : Value) :
    Below w.heap.size w (((w3.setCell ⟨w.heap.size + 1, 0, none⟩ q).setCell ⟨w.heap.size + 1, 1, none⟩ k).setCell ⟨w.heap.size + 1, 2, none⟩ e) :=
  fin_below ((hb.alloc (Nat.le_trans (Nat.le_refl _) hb.size) o).trans (hb3.mono (by have := hb.size; simp; omega))) q k e

set_option maxHeartbeats 800000 in
theorem rLittle_stopped (s : ByteArray) (a : Nat) (c n : Int) (w : World) (hc : c ≠ 0) : Calls Try.prog 49 #[.agg #[.string s, .int .i64 a, .int .i64 c], .int .i64 n] w (RefGot w s (.int .i64 0) a c) := by
  have hne : (c != 0) = true := by rw [bne_iff_ne]; exact hc
  clear hc
  go_enter Try.func49, Try.ntmps49
  go_wp2
  go_region
  go_wp2
  exact bodyPost_ret (rr_res2 rfl _ _ (w.heap.size + 1) s a c _ rfl rfl (blk_drew (blk_new1 _ _ 43 [_, _, _]))) rfl ⟨rfl, ((((Below.refl _ _).alloc (Nat.le_refl _) _).alloc (by simp) _).drew)⟩

set_option maxHeartbeats 800000 in
theorem rLittle_bad (s : ByteArray) (a : Nat) (n : Int) (w : World) (hm : sized n = false) : Calls Try.prog 49 #[.agg #[.string s, .int .i64 a, .int .i64 0], .int .i64 n] w (RefGot w s (.int .i64 0) a 1) := by
  go_enter Try.func49, Try.ntmps49
  go_wp2_with (first | (go_at_call 69; refine (refSized_any n _).mono ?_; rintro e w1 ⟨rfl, rfl⟩; rw [hm]) | (go_at_call 57; refine (stop_open s a 0 1 _).mono ?_; rintro e w1 ⟨rfl, hb1⟩; obtain ⟨hc, hf⟩ := bcell hb1))
  exact bodyPost_ret (rr_res2 rfl _ _ (w.heap.size + 1) s a 1 _ rfl rfl (fin_blk hb1 _ _)) rfl ⟨rfl, fin_below hb1 _ _ _⟩

set_option maxHeartbeats 1600000 in
theorem rLittle_short (s : ByteArray) (a : Nat) (n : Int) (w : World) (ha : a ≤ s.size) (hs : s.size ≤ 140737488351232) (hm : sized n = true) (hlt : (s.size : Int) - a < n) : Calls Try.prog 49 #[.agg #[.string s, .int .i64 a, .int .i64 0], .int .i64 n] w (RefGot w s (.int .i64 0) a 16) := by
  have HT := Lib.hid (fun w' => rtake_end s a n w' ha hs hlt)
  clear hlt ha hs
  go_enter Try.func49, Try.ntmps49
  go_wp2_with (first | (go_at_call 69; refine (refSized_any n _).mono ?_; rintro e w1 ⟨rfl, rfl⟩; rw [hm]) | (go_at_call 80; refine (HT.out _).mono ?_; rintro e w1 ⟨rfl, hb1⟩; obtain ⟨hc, hf⟩ := bcell hb1; have hz : w.heap.size + 1 < w1.heap.size := (by have := hb1.size; simp at this; omega); have hz0 : w.heap.size < w1.heap.size := (by omega)))
  go_region
  go_wp2
  exact bodyPost_ret (rr_res2 rfl _ _ (w.heap.size + 1) s a 16 _ rfl rfl (blk_drew ((fin_blk hb1 _ _).alloc _))) rfl ⟨rfl, fin_below2 hb1 _ _ _ _⟩

set_option maxHeartbeats 1600000 in
theorem rLittle_ok (s : ByteArray) (a m : Nat) (w : World) (ha : a + m ≤ s.size) (hs : s.size ≤ 140737488351232) (hm : sized m = true) (hU : leN (s.extract a (a + m)).data.toList < 9223372036854775808) : Calls Try.prog 49 #[.agg #[.string s, .int .i64 a, .int .i64 0], .int .i64 m] w (RefGot w s (.int .i64 (leN (s.extract a (a + m)).data.toList)) (a + m : Nat) 0) := by
  have hm8 := sized_iff.1 hm
  have hq : (s.extract a (a + m)).size ≤ 8 := by rw [ByteArray.size_extract]; omega
  have HT := Lib.hid (fun w' => rtake_ok s a m w' ha hs)
  have HV := Lib.hid (fun w' => value_any (s.extract a (a + m)) w' hq)
  clear hm8 hq
  generalize s.extract a (a + m) = q at *
  generalize leN q.data.toList = U at *
  have hw := w64_small U hU
  have hlt : decide (9223372036854775808 ≤ (U : Int)) = false := by rw [decide_eq_false_iff_not]; omega
  clear ha hs
  go_enter Try.func49, Try.ntmps49
  go_wp2_with (first | (go_at_call 69; refine (refSized_any m _).mono ?_; rintro e w1 ⟨rfl, rfl⟩; rw [hm]) | (go_at_call 80; refine (HT.out _).mono ?_; rintro e w1 ⟨rfl, hb1⟩; obtain ⟨hc, hf⟩ := bcell hb1; have hz : w.heap.size + 1 < w1.heap.size := (by have := hb1.size; simp at this; omega); have hz0 : w.heap.size < w1.heap.size := (by omega)) | (go_at_call 81; refine (HV.out _).mono ?_; rintro e w2 ⟨rfl, rfl⟩))
  go_region
  go_wp2
  exact bodyPost_ret (rr_res2 rfl _ _ (w.heap.size + 1) s (↑a + ↑m) 0 _ rfl rfl (blk_drew ((fin_blk hb1 _ _).alloc _))) rfl ⟨rfl, fin_below2 hb1 _ _ _ _⟩

set_option maxHeartbeats 1600000 in
theorem rLittle_big (s : ByteArray) (a m : Nat) (w : World) (ha : a + m ≤ s.size) (hs : s.size ≤ 140737488351232) (hm : sized m = true) (hU : 9223372036854775808 ≤ leN (s.extract a (a + m)).data.toList) : Calls Try.prog 49 #[.agg #[.string s, .int .i64 a, .int .i64 0], .int .i64 m] w (RefGot w s (.int .i64 0) a 11) := by
  have hm8 := sized_iff.1 hm
  have hq : (s.extract a (a + m)).size ≤ 8 := by rw [ByteArray.size_extract]; omega
  have HT := Lib.hid (fun w' => rtake_ok s a m w' ha hs)
  have HV := Lib.hid (fun w' => value_any (s.extract a (a + m)) w' hq)
  clear hm8 hq
  generalize s.extract a (a + m) = q at *
  generalize leN q.data.toList = U at *
  have hlt : decide (9223372036854775808 ≤ (U : Int)) = true := by rw [decide_eq_true_iff]; omega
  clear ha hs hU
  go_enter Try.func49, Try.ntmps49
  go_wp2_with (first | (go_at_call 69; refine (refSized_any m _).mono ?_; rintro e w1 ⟨rfl, rfl⟩; rw [hm]) | (go_at_call 80; refine (HT.out _).mono ?_; rintro e w1 ⟨rfl, hb1⟩; obtain ⟨hc, hf⟩ := bcell hb1; have hz : w.heap.size + 1 < w1.heap.size := (by have := hb1.size; simp at this; omega); have hz0 : w.heap.size < w1.heap.size := (by omega)) | (go_at_call 81; refine (HV.out _).mono ?_; rintro e w2 ⟨rfl, rfl⟩) | (go_at_call 57; refine (stop_open s a 0 11 _).mono ?_; rintro e w3 ⟨rfl, hb3⟩; obtain ⟨hc3, hf3⟩ := bcell hb3))
  exact bodyPost_ret (rr_res2 rfl _ _ (w.heap.size + 1) s a 11 _ rfl rfl (stop_fin hb1 hb3 _ _)) rfl ⟨rfl, stop_below hb1 hb3 _ _ _⟩

theorem rlC_bad {s : ByteArray} {a : Nat} {n : Int} (hm : sized n = false) : rlC s a n = 1 := by unfold rlC; rw [if_pos hm]
theorem rlC_short {s : ByteArray} {a : Nat} {n : Int} (hm : sized n = true) (hlt : (s.size : Int) - a < n) : rlC s a n = 16 := by unfold rlC; rw [if_neg (by rw [hm]; simp), if_pos hlt]
theorem rlC_ok {s : ByteArray} {a : Nat} {n : Int} (hm : sized n = true) (hlt : ¬ (s.size : Int) - a < n) : rlC s a n = 0 := by unfold rlC; rw [if_neg (by rw [hm]; simp), if_neg hlt]
theorem rLittle_any (s : ByteArray) (a : Nat) (n : Int) (w : World) (ha : a ≤ s.size) (hs : s.size ≤ 140737488351232) :
    Calls Try.prog 49 #[.agg #[.string s, .int .i64 a, .int .i64 0], .int .i64 n] w (RefGot w s (.int .i64 (if ltC s a n = 0 then ltV s a n else 0)) ((if ltC s a n = 0 then a + n.toNat else a : Nat) : Int) (ltC s a n)) := by
  unfold ltC ltV rlV
  cases hm : sized n with
  | false => rw [rlC_bad hm]; exact rLittle_bad s a n w hm
  | true =>
    by_cases hlt : (s.size : Int) - a < n
    · rw [rlC_short hm hlt]
      exact rLittle_short s a n w ha hs hm hlt
    · obtain ⟨m, rfl⟩ : ∃ m : Nat, n = m := by
        have := sized_iff.1 hm
        exact ⟨n.toNat, by omega⟩
      simp only [rlC_ok hm hlt, true_and, if_true, Int.toNat_natCast]
      by_cases hU : 9223372036854775808 ≤ leN (s.extract a (a + m)).data.toList
      · simp only [if_pos hU]
        exact rLittle_big s a m w (by omega) hs hm hU
      · simp only [if_neg hU]
        exact rLittle_ok s a m w (by omega) hs hm (by omega)

set_option maxHeartbeats 800000 in
theorem rSigned_stopped (s : ByteArray) (a : Nat) (c n : Int) (w : World) (hc : c ≠ 0) : Calls Try.prog 50 #[.agg #[.string s, .int .i64 a, .int .i64 c], .int .i64 n] w (RefGot w s (.int .i64 0) a c) := by
  have hne : (c != 0) = true := by rw [bne_iff_ne]; exact hc
  clear hc
  go_enter Try.func50, Try.ntmps50
  go_wp2
  go_region
  go_wp2
  exact bodyPost_ret (rr_res2 rfl _ _ (w.heap.size + 1) s a c _ rfl rfl (blk_drew (blk_new1 _ _ 43 [_, _, _]))) rfl ⟨rfl, ((((Below.refl _ _).alloc (Nat.le_refl _) _).alloc (by simp) _).drew)⟩

set_option maxHeartbeats 800000 in
theorem rSigned_bad (s : ByteArray) (a : Nat) (n : Int) (w : World) (hm : sized n = false) : Calls Try.prog 50 #[.agg #[.string s, .int .i64 a, .int .i64 0], .int .i64 n] w (RefGot w s (.int .i64 0) a 1) := by
  go_enter Try.func50, Try.ntmps50
  go_wp2_with (first | (go_at_call 69; refine (refSized_any n _).mono ?_; rintro e w1 ⟨rfl, rfl⟩; rw [hm]) | (go_at_call 57; refine (stop_open s a 0 1 _).mono ?_; rintro e w1 ⟨rfl, hb1⟩; obtain ⟨hc, hf⟩ := bcell hb1))
  exact bodyPost_ret (rr_res2 rfl _ _ (w.heap.size + 1) s a 1 _ rfl rfl (fin_blk hb1 _ _)) rfl ⟨rfl, fin_below hb1 _ _ _⟩

set_option maxHeartbeats 1600000 in
theorem rSigned_short (s : ByteArray) (a : Nat) (n : Int) (w : World) (ha : a ≤ s.size) (hs : s.size ≤ 140737488351232) (hm : sized n = true) (hlt : (s.size : Int) - a < n) : Calls Try.prog 50 #[.agg #[.string s, .int .i64 a, .int .i64 0], .int .i64 n] w (RefGot w s (.int .i64 0) a 16) := by
  have HT := Lib.hid (fun w' => rtake_end s a n w' ha hs hlt)
  clear hlt ha hs
  go_enter Try.func50, Try.ntmps50
  go_wp2_with (first | (go_at_call 69; refine (refSized_any n _).mono ?_; rintro e w1 ⟨rfl, rfl⟩; rw [hm]) | (go_at_call 80; refine (HT.out _).mono ?_; rintro e w1 ⟨rfl, hb1⟩; obtain ⟨hc, hf⟩ := bcell hb1; have hz : w.heap.size + 1 < w1.heap.size := (by have := hb1.size; simp at this; omega); have hz0 : w.heap.size < w1.heap.size := (by omega)))
  go_region
  go_wp2
  exact bodyPost_ret (rr_res2 rfl _ _ (w.heap.size + 1) s a 16 _ rfl rfl (blk_drew ((fin_blk hb1 _ _).alloc _))) rfl ⟨rfl, fin_below2 hb1 _ _ _ _⟩

set_option maxHeartbeats 1600000 in
theorem rSigned_pos1 (s : ByteArray) (a : Nat) (w : World) (ha : a + 1 ≤ s.size) (hs : s.size ≤ 140737488351232) (hU : leN (s.extract a (a + 1)).data.toList < 128) : Calls Try.prog 50 #[.agg #[.string s, .int .i64 a, .int .i64 0], .int .i64 1] w (RefGot w s (.int .i64 (leN (s.extract a (a + 1)).data.toList)) (a + 1 : Nat) 0) := by
  have hm : sized 1 = true := by decide
  have hq : (s.extract a (a + 1)).size ≤ 8 := by rw [ByteArray.size_extract]; omega
  have HT := Lib.hid (fun w' => rtake_ok s a 1 w' ha hs)
  have HV := Lib.hid (fun w' => value_any (s.extract a (a + 1)) w' hq)
  clear hq
  generalize s.extract a (a + 1) = q at *
  generalize leN q.data.toList = U at *
  have hw := w64_small U (by omega)
  have hlt : decide (128 ≤ (U : Int)) = false := by rw [decide_eq_false_iff_not]; omega
  clear ha hs
  go_enter Try.func50, Try.ntmps50
  go_wp2_with (first | (go_at_call 69; refine (refSized_any 1 _).mono ?_; rintro e w1 ⟨rfl, rfl⟩; rw [hm]) | (go_at_call 80; refine (HT.out _).mono ?_; rintro e w1 ⟨rfl, hb1⟩; obtain ⟨hc, hf⟩ := bcell hb1; have hz : w.heap.size + 1 < w1.heap.size := (by have := hb1.size; simp at this; omega); have hz0 : w.heap.size < w1.heap.size := (by omega)) | (go_at_call 81; refine (HV.out _).mono ?_; rintro e w2 ⟨rfl, rfl⟩))
  go_region
  go_wp2
  exact bodyPost_ret (rr_res2 rfl _ _ (w.heap.size + 1) s (↑a + 1) 0 _ rfl rfl (blk_drew ((fin_blk hb1 _ _).alloc _))) rfl ⟨rfl, fin_below2 hb1 _ _ _ _⟩

set_option maxHeartbeats 1600000 in
theorem rSigned_neg1 (s : ByteArray) (a : Nat) (w : World) (ha : a + 1 ≤ s.size) (hs : s.size ≤ 140737488351232) (hU : 128 ≤ leN (s.extract a (a + 1)).data.toList) (hU2 : leN (s.extract a (a + 1)).data.toList < 256) : Calls Try.prog 50 #[.agg #[.string s, .int .i64 a, .int .i64 0], .int .i64 1] w (RefGot w s (.int .i64 ((leN (s.extract a (a + 1)).data.toList : Int) - 256)) (a + 1 : Nat) 0) := by
  have hm : sized 1 = true := by decide
  have hq : (s.extract a (a + 1)).size ≤ 8 := by rw [ByteArray.size_extract]; omega
  have HT := Lib.hid (fun w' => rtake_ok s a 1 w' ha hs)
  have HV := Lib.hid (fun w' => value_any (s.extract a (a + 1)) w' hq)
  clear hq
  generalize s.extract a (a + 1) = q at *
  generalize leN q.data.toList = U at *
  have hw := w64_small U (by omega)
  have hlt : decide (128 ≤ (U : Int)) = true := by rw [decide_eq_true_iff]; omega
  have hw2 : IntKind.i64.wrap ((U : Int) - 256) = (U : Int) - 256 := IntWalk.i64_in _ (by omega)
  clear ha hs
  go_enter Try.func50, Try.ntmps50
  go_wp2_with (first | (go_at_call 69; refine (refSized_any 1 _).mono ?_; rintro e w1 ⟨rfl, rfl⟩; rw [hm]) | (go_at_call 80; refine (HT.out _).mono ?_; rintro e w1 ⟨rfl, hb1⟩; obtain ⟨hc, hf⟩ := bcell hb1; have hz : w.heap.size + 1 < w1.heap.size := (by have := hb1.size; simp at this; omega); have hz0 : w.heap.size < w1.heap.size := (by omega)) | (go_at_call 81; refine (HV.out _).mono ?_; rintro e w2 ⟨rfl, rfl⟩))
  go_region
  go_wp2
  exact bodyPost_ret (rr_res2 rfl _ _ (w.heap.size + 1) s (↑a + 1) 0 _ rfl rfl (blk_drew ((fin_blk hb1 _ _).alloc _))) rfl ⟨rfl, fin_below2 hb1 _ _ _ _⟩

set_option maxHeartbeats 1600000 in
theorem rSigned_pos2 (s : ByteArray) (a : Nat) (w : World) (ha : a + 2 ≤ s.size) (hs : s.size ≤ 140737488351232) (hU : leN (s.extract a (a + 2)).data.toList < 32768) : Calls Try.prog 50 #[.agg #[.string s, .int .i64 a, .int .i64 0], .int .i64 2] w (RefGot w s (.int .i64 (leN (s.extract a (a + 2)).data.toList)) (a + 2 : Nat) 0) := by
  have hm : sized 2 = true := by decide
  have hq : (s.extract a (a + 2)).size ≤ 8 := by rw [ByteArray.size_extract]; omega
  have HT := Lib.hid (fun w' => rtake_ok s a 2 w' ha hs)
  have HV := Lib.hid (fun w' => value_any (s.extract a (a + 2)) w' hq)
  clear hq
  generalize s.extract a (a + 2) = q at *
  generalize leN q.data.toList = U at *
  have hw := w64_small U (by omega)
  have hlt : decide (32768 ≤ (U : Int)) = false := by rw [decide_eq_false_iff_not]; omega
  clear ha hs
  go_enter Try.func50, Try.ntmps50
  go_wp2_with (first | (go_at_call 69; refine (refSized_any 2 _).mono ?_; rintro e w1 ⟨rfl, rfl⟩; rw [hm]) | (go_at_call 80; refine (HT.out _).mono ?_; rintro e w1 ⟨rfl, hb1⟩; obtain ⟨hc, hf⟩ := bcell hb1; have hz : w.heap.size + 1 < w1.heap.size := (by have := hb1.size; simp at this; omega); have hz0 : w.heap.size < w1.heap.size := (by omega)) | (go_at_call 81; refine (HV.out _).mono ?_; rintro e w2 ⟨rfl, rfl⟩))
  go_region
  go_wp2
  exact bodyPost_ret (rr_res2 rfl _ _ (w.heap.size + 1) s (↑a + 2) 0 _ rfl rfl (blk_drew ((fin_blk hb1 _ _).alloc _))) rfl ⟨rfl, fin_below2 hb1 _ _ _ _⟩

set_option maxHeartbeats 1600000 in
theorem rSigned_neg2 (s : ByteArray) (a : Nat) (w : World) (ha : a + 2 ≤ s.size) (hs : s.size ≤ 140737488351232) (hU : 32768 ≤ leN (s.extract a (a + 2)).data.toList) (hU2 : leN (s.extract a (a + 2)).data.toList < 65536) : Calls Try.prog 50 #[.agg #[.string s, .int .i64 a, .int .i64 0], .int .i64 2] w (RefGot w s (.int .i64 ((leN (s.extract a (a + 2)).data.toList : Int) - 65536)) (a + 2 : Nat) 0) := by
  have hm : sized 2 = true := by decide
  have hq : (s.extract a (a + 2)).size ≤ 8 := by rw [ByteArray.size_extract]; omega
  have HT := Lib.hid (fun w' => rtake_ok s a 2 w' ha hs)
  have HV := Lib.hid (fun w' => value_any (s.extract a (a + 2)) w' hq)
  clear hq
  generalize s.extract a (a + 2) = q at *
  generalize leN q.data.toList = U at *
  have hw := w64_small U (by omega)
  have hlt : decide (32768 ≤ (U : Int)) = true := by rw [decide_eq_true_iff]; omega
  have hw2 : IntKind.i64.wrap ((U : Int) - 65536) = (U : Int) - 65536 := IntWalk.i64_in _ (by omega)
  clear ha hs
  go_enter Try.func50, Try.ntmps50
  go_wp2_with (first | (go_at_call 69; refine (refSized_any 2 _).mono ?_; rintro e w1 ⟨rfl, rfl⟩; rw [hm]) | (go_at_call 80; refine (HT.out _).mono ?_; rintro e w1 ⟨rfl, hb1⟩; obtain ⟨hc, hf⟩ := bcell hb1; have hz : w.heap.size + 1 < w1.heap.size := (by have := hb1.size; simp at this; omega); have hz0 : w.heap.size < w1.heap.size := (by omega)) | (go_at_call 81; refine (HV.out _).mono ?_; rintro e w2 ⟨rfl, rfl⟩))
  go_region
  go_wp2
  exact bodyPost_ret (rr_res2 rfl _ _ (w.heap.size + 1) s (↑a + 2) 0 _ rfl rfl (blk_drew ((fin_blk hb1 _ _).alloc _))) rfl ⟨rfl, fin_below2 hb1 _ _ _ _⟩

set_option maxHeartbeats 1600000 in
theorem rSigned_pos4 (s : ByteArray) (a : Nat) (w : World) (ha : a + 4 ≤ s.size) (hs : s.size ≤ 140737488351232) (hU : leN (s.extract a (a + 4)).data.toList < 2147483648) : Calls Try.prog 50 #[.agg #[.string s, .int .i64 a, .int .i64 0], .int .i64 4] w (RefGot w s (.int .i64 (leN (s.extract a (a + 4)).data.toList)) (a + 4 : Nat) 0) := by
  have hm : sized 4 = true := by decide
  have hq : (s.extract a (a + 4)).size ≤ 8 := by rw [ByteArray.size_extract]; omega
  have HT := Lib.hid (fun w' => rtake_ok s a 4 w' ha hs)
  have HV := Lib.hid (fun w' => value_any (s.extract a (a + 4)) w' hq)
  clear hq
  generalize s.extract a (a + 4) = q at *
  generalize leN q.data.toList = U at *
  have hw := w64_small U (by omega)
  have hlt : decide (2147483648 ≤ (U : Int)) = false := by rw [decide_eq_false_iff_not]; omega
  clear ha hs
  go_enter Try.func50, Try.ntmps50
  go_wp2_with (first | (go_at_call 69; refine (refSized_any 4 _).mono ?_; rintro e w1 ⟨rfl, rfl⟩; rw [hm]) | (go_at_call 80; refine (HT.out _).mono ?_; rintro e w1 ⟨rfl, hb1⟩; obtain ⟨hc, hf⟩ := bcell hb1; have hz : w.heap.size + 1 < w1.heap.size := (by have := hb1.size; simp at this; omega); have hz0 : w.heap.size < w1.heap.size := (by omega)) | (go_at_call 81; refine (HV.out _).mono ?_; rintro e w2 ⟨rfl, rfl⟩))
  go_region
  go_wp2
  exact bodyPost_ret (rr_res2 rfl _ _ (w.heap.size + 1) s (↑a + 4) 0 _ rfl rfl (blk_drew ((fin_blk hb1 _ _).alloc _))) rfl ⟨rfl, fin_below2 hb1 _ _ _ _⟩

set_option maxHeartbeats 1600000 in
theorem rSigned_neg4 (s : ByteArray) (a : Nat) (w : World) (ha : a + 4 ≤ s.size) (hs : s.size ≤ 140737488351232) (hU : 2147483648 ≤ leN (s.extract a (a + 4)).data.toList) (hU2 : leN (s.extract a (a + 4)).data.toList < 4294967296) : Calls Try.prog 50 #[.agg #[.string s, .int .i64 a, .int .i64 0], .int .i64 4] w (RefGot w s (.int .i64 ((leN (s.extract a (a + 4)).data.toList : Int) - 4294967296)) (a + 4 : Nat) 0) := by
  have hm : sized 4 = true := by decide
  have hq : (s.extract a (a + 4)).size ≤ 8 := by rw [ByteArray.size_extract]; omega
  have HT := Lib.hid (fun w' => rtake_ok s a 4 w' ha hs)
  have HV := Lib.hid (fun w' => value_any (s.extract a (a + 4)) w' hq)
  clear hq
  generalize s.extract a (a + 4) = q at *
  generalize leN q.data.toList = U at *
  have hw := w64_small U (by omega)
  have hlt : decide (2147483648 ≤ (U : Int)) = true := by rw [decide_eq_true_iff]; omega
  have hw2 : IntKind.i64.wrap ((U : Int) - 4294967296) = (U : Int) - 4294967296 := IntWalk.i64_in _ (by omega)
  clear ha hs
  go_enter Try.func50, Try.ntmps50
  go_wp2_with (first | (go_at_call 69; refine (refSized_any 4 _).mono ?_; rintro e w1 ⟨rfl, rfl⟩; rw [hm]) | (go_at_call 80; refine (HT.out _).mono ?_; rintro e w1 ⟨rfl, hb1⟩; obtain ⟨hc, hf⟩ := bcell hb1; have hz : w.heap.size + 1 < w1.heap.size := (by have := hb1.size; simp at this; omega); have hz0 : w.heap.size < w1.heap.size := (by omega)) | (go_at_call 81; refine (HV.out _).mono ?_; rintro e w2 ⟨rfl, rfl⟩))
  go_region
  go_wp2
  exact bodyPost_ret (rr_res2 rfl _ _ (w.heap.size + 1) s (↑a + 4) 0 _ rfl rfl (blk_drew ((fin_blk hb1 _ _).alloc _))) rfl ⟨rfl, fin_below2 hb1 _ _ _ _⟩

set_option maxHeartbeats 1600000 in
theorem rSigned_all8 (s : ByteArray) (a : Nat) (w : World) (ha : a + 8 ≤ s.size) (hs : s.size ≤ 140737488351232) : Calls Try.prog 50 #[.agg #[.string s, .int .i64 a, .int .i64 0], .int .i64 8] w (RefGot w s (.int .i64 (wrap64 (leN (s.extract a (a + 8)).data.toList))) (a + 8 : Nat) 0) := by
  have hm : sized 8 = true := by decide
  have hq : (s.extract a (a + 8)).size ≤ 8 := by rw [ByteArray.size_extract]; omega
  have HT := Lib.hid (fun w' => rtake_ok s a 8 w' ha hs)
  have HV := Lib.hid (fun w' => value_any (s.extract a (a + 8)) w' hq)
  clear hq
  generalize s.extract a (a + 8) = q at *
  generalize leN q.data.toList = U at *
  clear ha hs
  go_enter Try.func50, Try.ntmps50
  go_wp2_with (first | (go_at_call 69; refine (refSized_any 8 _).mono ?_; rintro e w1 ⟨rfl, rfl⟩; rw [hm]) | (go_at_call 80; refine (HT.out _).mono ?_; rintro e w1 ⟨rfl, hb1⟩; obtain ⟨hc, hf⟩ := bcell hb1; have hz : w.heap.size + 1 < w1.heap.size := (by have := hb1.size; simp at this; omega); have hz0 : w.heap.size < w1.heap.size := (by omega)) | (go_at_call 81; refine (HV.out _).mono ?_; rintro e w2 ⟨rfl, rfl⟩))
  go_region
  go_wp2
  exact bodyPost_ret (rr_res2 rfl _ _ (w.heap.size + 1) s (↑a + 8) 0 _ rfl rfl (blk_drew ((fin_blk hb1 _ _).alloc _))) rfl ⟨rfl, fin_below2 hb1 _ _ _ _⟩

theorem rSigned_any (s : ByteArray) (a : Nat) (n : Int) (w : World) (ha : a ≤ s.size) (hs : s.size ≤ 140737488351232) :
    Calls Try.prog 50 #[.agg #[.string s, .int .i64 a, .int .i64 0], .int .i64 n] w (RefGot w s (.int .i64 (if rlC s a n = 0 then sgV s a n else 0)) ((if rlC s a n = 0 then a + n.toNat else a : Nat) : Int) (rlC s a n)) := by
  unfold sgV rlV
  cases hm : sized n with
  | false => rw [rlC_bad hm]; exact rSigned_bad s a n w hm
  | true =>
    by_cases hlt : (s.size : Int) - a < n
    · rw [rlC_short hm hlt]
      exact rSigned_short s a n w ha hs hm hlt
    · have hll : (s.extract a (a + n.toNat)).data.toList.length = n.toNat := by
        have := sized_iff.1 hm
        rw [Array.length_toList]
        show (s.extract a (a + n.toNat)).size = _
        rw [ByteArray.size_extract]; omega
      have hL := leN_lt (s.extract a (a + n.toNat)).data.toList
      rw [hll] at hL
      rw [rlC_ok hm hlt, if_pos rfl, if_pos rfl]
      rcases sized_iff.1 hm with rfl | rfl | rfl | rfl
      · have hL' : leN (s.extract a (a + 1)).data.toList < 256 := hL
        by_cases hU : leN (s.extract a (a + 1)).data.toList < 128
        · have := rSigned_pos1 s a w (by omega) hs hU
          rw [show (leN (s.extract a (a + 1)).data.toList : Int) = sgn (8 * ((1 : Int)).toNat) (leN (s.extract a (a + 1)).data.toList) by show _ = sgn 8 _; unfold sgn; split <;> omega] at this
          exact this
        · have := rSigned_neg1 s a w (by omega) hs (by omega) hL'
          rw [show (leN (s.extract a (a + 1)).data.toList : Int) - 256 = sgn (8 * ((1 : Int)).toNat) (leN (s.extract a (a + 1)).data.toList) by show _ = sgn 8 _; unfold sgn; split <;> omega] at this
          exact this
      · have hL' : leN (s.extract a (a + 2)).data.toList < 65536 := hL
        by_cases hU : leN (s.extract a (a + 2)).data.toList < 32768
        · have := rSigned_pos2 s a w (by omega) hs hU
          rw [show (leN (s.extract a (a + 2)).data.toList : Int) = sgn (8 * ((2 : Int)).toNat) (leN (s.extract a (a + 2)).data.toList) by show _ = sgn 16 _; unfold sgn; split <;> omega] at this
          exact this
        · have := rSigned_neg2 s a w (by omega) hs (by omega) hL'
          rw [show (leN (s.extract a (a + 2)).data.toList : Int) - 65536 = sgn (8 * ((2 : Int)).toNat) (leN (s.extract a (a + 2)).data.toList) by show _ = sgn 16 _; unfold sgn; split <;> omega] at this
          exact this
      · have hL' : leN (s.extract a (a + 4)).data.toList < 4294967296 := hL
        by_cases hU : leN (s.extract a (a + 4)).data.toList < 2147483648
        · have := rSigned_pos4 s a w (by omega) hs hU
          rw [show (leN (s.extract a (a + 4)).data.toList : Int) = sgn (8 * ((4 : Int)).toNat) (leN (s.extract a (a + 4)).data.toList) by show _ = sgn 32 _; unfold sgn; split <;> omega] at this
          exact this
        · have := rSigned_neg4 s a w (by omega) hs (by omega) hL'
          rw [show (leN (s.extract a (a + 4)).data.toList : Int) - 4294967296 = sgn (8 * ((4 : Int)).toNat) (leN (s.extract a (a + 4)).data.toList) by show _ = sgn 32 _; unfold sgn; split <;> omega] at this
          exact this
      · have hL' : leN (s.extract a (a + 8)).data.toList < 18446744073709551616 := hL
        have := rSigned_all8 s a w (by omega) hs
        rw [show wrap64 (leN (s.extract a (a + 8)).data.toList : Int) = sgn (8 * ((8 : Int)).toNat) (leN (s.extract a (a + 8)).data.toList) by show _ = sgn 64 _; unfold wrap64 sgn; split <;> omega] at this
        exact this

set_option maxHeartbeats 800000 in
theorem rRaw_stopped (s : ByteArray) (a : Nat) (c n : Int) (w : World) (hc : c ≠ 0) : Calls Try.prog 55 #[.agg #[.string s, .int .i64 a, .int .i64 c], .int .i64 n] w (RefGot w s (.string ⟨#[]⟩) a c) := by
  have hne : (c != 0) = true := by rw [bne_iff_ne]; exact hc
  clear hc
  go_enter Try.func55, Try.ntmps55
  go_wp2
  go_region
  go_wp2
  exact bodyPost_ret (rr_res2 rfl _ _ (w.heap.size + 1) s a c _ rfl rfl (blk_drew (blk_new1 _ _ 43 [_, _, _]))) rfl ⟨rfl, ((((Below.refl _ _).alloc (Nat.le_refl _) _).alloc (by simp) _).drew)⟩

set_option maxHeartbeats 1600000 in
theorem rRaw_any (s : ByteArray) (a : Nat) (n : Int) (w : World) (ha : a ≤ s.size) (hs : s.size ≤ 140737488351232) :
    Calls Try.prog 55 #[.agg #[.string s, .int .i64 a, .int .i64 0], .int .i64 n] w (RefGot w s (if n < 0 then .string ⟨#[]⟩ else takeV s a n) ((if (if n < 0 then 11 else takeC s a n) = 0 then a + n.toNat else a : Nat) : Int) (if n < 0 then 11 else takeC s a n)) := by
  by_cases hn : n < 0
  · simp only [if_pos hn]
    rw [if_neg (by decide)]
    go_enter Try.func55, Try.ntmps55
    go_wp2_with (go_at_call 57; refine (stop_open s a 0 11 _).mono ?_; rintro e w1 ⟨rfl, hb1⟩; obtain ⟨hc, hf⟩ := bcell hb1)
    exact bodyPost_ret (rr_res2 rfl _ _ (w.heap.size + 1) s a 11 _ rfl rfl (fin_blk hb1 _ _)) rfl ⟨rfl, fin_below hb1 _ _ _⟩
  · simp only [if_neg hn]
    have HT := Lib.hid (fun w' => rtake_any s a n w' ha hs (by omega))
    generalize takeV s a n = v at *
    generalize takeC s a n = c at *
    generalize (if c = 0 then a + n.toNat else a) = k at *
    clear ha hs
    go_enter Try.func55, Try.ntmps55
    go_wp2_with (go_at_call 80; refine (HT.out _).mono ?_; rintro e w1 ⟨rfl, hb1⟩; obtain ⟨hc, hf⟩ := bcell hb1)
    exact bodyPost_ret (rr_res2 rfl _ _ (w.heap.size + 1) s k c _ rfl rfl (fin_blk hb1 _ _)) rfl ⟨rfl, fin_below hb1 _ _ _⟩
set_option maxHeartbeats 800000 in
theorem rEnd_any (s : ByteArray) (a : Nat) (c : Int) (w : World) :
    Calls Try.prog 27 #[.agg #[.string s, .int .i64 a, .int .i64 c]] w fun e w' => e = .returned (.agg #[.string s, .int .i64 a, .int .i64 (if c = 0 then (if a < s.size then 2 else 0) else c)]) ∧ Below w.heap.size w w' := by
  by_cases hc : c = 0
  · subst hc
    rw [if_pos rfl]
    by_cases hlt : a < s.size
    · rw [if_pos hlt]
      go_enter Try.func27, Try.ntmps27
      go_wp2_with (go_at_call 57; refine (stop_open s a 0 2 _).mono ?_; rintro e w1 ⟨rfl, hb1⟩; obtain ⟨hc, hf⟩ := bcell hb1)
      exact bodyPost_ret (rr_res1 rfl _ _ (w.heap.size + 1) s a 2 rfl (fin_blk hb1 _ _)) rfl ⟨rfl, fin_below hb1 _ _ _⟩
    · rw [if_neg hlt]
      go_enter Try.func27, Try.ntmps27
      go_wp2
      exact bodyPost_ret (rr_res1 rfl _ _ (w.heap.size + 1) s a 0 rfl (blk_new1 _ _ 43 [_, _, _])) rfl ⟨rfl, ((Below.refl _ _).alloc (Nat.le_refl _) _).alloc (by simp) _⟩
  · rw [if_neg hc]
    have hne : (c == 0) = false := by rw [beq_eq_false_iff_ne]; exact hc
    clear hc
    go_enter Try.func27, Try.ntmps27
    go_wp2
    exact bodyPost_ret (rr_res1 rfl _ _ (w.heap.size + 1) s a c rfl (blk_new1 _ _ 43 [_, _, _])) rfl ⟨rfl, ((Below.refl _ _).alloc (Nat.le_refl _) _).alloc (by simp) _⟩
end Go.Proofs.Yteendimoopmakaa
