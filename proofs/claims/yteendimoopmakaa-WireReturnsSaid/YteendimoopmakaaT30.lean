/- The reference's ReadCount and ReadString give the same error, place and value as the reader's methods. For a place that lies in the string. -/
import Derived.Test.YteendimoopmakaaT29
import Derived.Test.YteendimoopmakaaT24
namespace Go.Proofs.Yteendimoopmakaa
open Go.RowKit

theorem bel_step {B : Nat} {w w1 w2 : World} {o : Obj} (h : Below B w w1) (hB : B ≤ w1.heap.size) (h2 : Below (w1.alloc o).heap.size (w1.alloc o) w2) : Below B w w2 := (h.alloc hB o).trans (h2.mono (by simp; omega))
/-- what a walk needs of a struct of three cells -/
theorem cells3 {w : World} {g : Nat} {t : TypeId} {x y z : Value} (h : Blk w g t [x, y, z]) :
    w.cell? ⟨g, 0, none⟩ = some x ∧ w.cell? ⟨g, 1, none⟩ = some y ∧ w.cell? ⟨g, 2, none⟩ = some z ∧ w.frozen? ⟨g, 0, none⟩ = false ∧ w.frozen? ⟨g, 1, none⟩ = false ∧ w.frozen? ⟨g, 2, none⟩ = false :=
  ⟨h.cell 0, h.cell 1, h.cell 2, h.frozen 0, h.frozen 1, h.frozen 2⟩

set_option maxRecDepth 100000 in
set_option maxHeartbeats 1600000 in
theorem rCount_err (s : ByteArray) (a : Nat) (most n k c0 c : Int) (w : World) (hN : ∀ W, Calls Try.prog 51 #[.agg #[.string s, .int .i64 a, .int .i64 c0]] W (RefGot W s (.int .i64 n) k c)) (hc : c ≠ 0) :
    Calls Try.prog 54 #[.agg #[.string s, .int .i64 a, .int .i64 c0], .int .i64 most] w (RefGot w s (.int .i64 0) k c) := by
  have hne : (c != 0) = true := by rw [bne_iff_ne]; exact hc
  clear hc
  have HN := Lib.hid hN
  clear hN
  go_enter Try.func54, Try.ntmps54
  go_wp2_with (go_at_call 51; refine (HN.out _).mono ?_; rintro e w1 ⟨rfl, hb1⟩; obtain ⟨hc1, hf1⟩ := bcell hb1; have hz : w.heap.size + 1 < w1.heap.size := (by have := hb1.size; simp at this; omega); have hz0 : w.heap.size < w1.heap.size := (by omega))
  go_region
  go_wp2
  exact bodyPost_ret (rr_res2 rfl _ _ (w.heap.size + 1) s k c _ rfl rfl (blk_drew ((fin_blk hb1 _ _).alloc _))) rfl ⟨rfl, fin_below2 hb1 _ _ _ _⟩

set_option maxRecDepth 100000 in
set_option maxHeartbeats 1600000 in
theorem rCount_neg (s : ByteArray) (a : Nat) (most n k c0 c : Int) (w : World) (hN : ∀ W, Calls Try.prog 51 #[.agg #[.string s, .int .i64 a, .int .i64 c0]] W (RefGot W s (.int .i64 n) k c)) (hc : c = 0) (h1 : n < 0) :
    Calls Try.prog 54 #[.agg #[.string s, .int .i64 a, .int .i64 c0], .int .i64 most] w (RefGot w s (.int .i64 0) a 11) := by
  subst hc
  have HN := Lib.hid hN
  clear hN
  go_enter Try.func54, Try.ntmps54
  go_wp2_with (first | (go_at_call 51; refine (HN.out _).mono ?_; rintro e w1 ⟨rfl, hb1⟩; obtain ⟨hc1, hf1⟩ := bcell hb1; have hz : w.heap.size + 1 < w1.heap.size := (by have := hb1.size; simp at this; omega); have hz0 : w.heap.size < w1.heap.size := (by omega)) | (go_at_call 57; refine (stop_open s a c0 11 _).mono ?_; rintro e w3 ⟨rfl, hb3⟩; obtain ⟨hc3, hf3⟩ := bcell hb3))
  exact bodyPost_ret (rr_res2 rfl _ _ (w.heap.size + 1) s a 11 _ rfl rfl (stop_fin hb1 hb3 _ _)) rfl ⟨rfl, stop_below hb1 hb3 _ _ _⟩

set_option maxRecDepth 100000 in
set_option maxHeartbeats 1600000 in
theorem rCount_lim (s : ByteArray) (a : Nat) (most n k c0 c : Int) (w : World) (hN : ∀ W, Calls Try.prog 51 #[.agg #[.string s, .int .i64 a, .int .i64 c0]] W (RefGot W s (.int .i64 n) k c)) (hc : c = 0) (h1 : ¬ n < 0) (h2 : most < n) :
    Calls Try.prog 54 #[.agg #[.string s, .int .i64 a, .int .i64 c0], .int .i64 most] w (RefGot w s (.int .i64 0) a 3) := by
  subst hc
  have HN := Lib.hid hN
  clear hN
  go_enter Try.func54, Try.ntmps54
  go_wp2_with (first | (go_at_call 51; refine (HN.out _).mono ?_; rintro e w1 ⟨rfl, hb1⟩; obtain ⟨hc1, hf1⟩ := bcell hb1; have hz : w.heap.size + 1 < w1.heap.size := (by have := hb1.size; simp at this; omega); have hz0 : w.heap.size < w1.heap.size := (by omega)) | (go_at_call 57; refine (stop_open s a c0 3 _).mono ?_; rintro e w3 ⟨rfl, hb3⟩; obtain ⟨hc3, hf3⟩ := bcell hb3))
  exact bodyPost_ret (rr_res2 rfl _ _ (w.heap.size + 1) s a 3 _ rfl rfl (stop_fin hb1 hb3 _ _)) rfl ⟨rfl, stop_below hb1 hb3 _ _ _⟩

set_option maxRecDepth 100000 in
set_option maxHeartbeats 1600000 in
theorem rCount_ok (s : ByteArray) (a : Nat) (most n k c0 c : Int) (w : World) (hN : ∀ W, Calls Try.prog 51 #[.agg #[.string s, .int .i64 a, .int .i64 c0]] W (RefGot W s (.int .i64 n) k c)) (hc : c = 0) (h1 : ¬ n < 0) (h2 : ¬ most < n) :
    Calls Try.prog 54 #[.agg #[.string s, .int .i64 a, .int .i64 c0], .int .i64 most] w (RefGot w s (.int .i64 n) k 0) := by
  subst hc
  have HN := Lib.hid hN
  clear hN
  go_enter Try.func54, Try.ntmps54
  go_wp2_with (go_at_call 51; refine (HN.out _).mono ?_; rintro e w1 ⟨rfl, hb1⟩; obtain ⟨hc1, hf1⟩ := bcell hb1; have hz : w.heap.size + 1 < w1.heap.size := (by have := hb1.size; simp at this; omega); have hz0 : w.heap.size < w1.heap.size := (by omega))
  go_region
  go_wp2
  exact bodyPost_ret (rr_res2 rfl _ _ (w.heap.size + 1) s k 0 _ rfl rfl (blk_drew ((fin_blk hb1 _ _).alloc _))) rfl ⟨rfl, fin_below2 hb1 _ _ _ _⟩

theorem rCount_live (s : ByteArray) (a : Nat) (most : Int) (w : World) (ha : a ≤ s.size) (hs : s.size ≤ 140737488351232) :
    Calls Try.prog 54 #[.agg #[.string s, .int .i64 a, .int .i64 0], .int .i64 most] w (RefGot w s (.int .i64 (rdCount s a most).1) ((rdCount s a most).2.2 : Nat) (rdCount s a most).2.1) := by
  have HN := fun W => rNum_live s a W ha hs
  unfold outAt at HN
  unfold rdCount
  generalize rdNumber s a = x at *
  obtain ⟨n, c, k⟩ := x
  dsimp only at *
  by_cases hc : c ≠ 0
  · rw [if_pos hc]
    simp only [if_neg hc] at HN
    exact rCount_err s a most 0 a 0 c w HN hc
  · have hc0 : c = 0 := by omega
    rw [if_neg hc]
    simp only [hc0, if_true] at HN
    by_cases h1 : n < 0
    · rw [if_pos h1]
      exact rCount_neg s a most n k 0 0 w HN rfl h1
    · rw [if_neg h1]
      by_cases h2 : most < n
      · rw [if_pos h2]
        exact rCount_lim s a most n k 0 0 w HN rfl h1 h2
      · rw [if_neg h2]
        exact rCount_ok s a most n k 0 0 w HN rfl h1 h2
theorem rCount_stopped (s : ByteArray) (a : Nat) (most c : Int) (w : World) (hc : c ≠ 0) : Calls Try.prog 54 #[.agg #[.string s, .int .i64 a, .int .i64 c], .int .i64 most] w (RefGot w s (.int .i64 0) a c) :=
  rCount_err s a most 0 a c c w (fun W => rNum_stopped s a c W hc) hc

set_option maxRecDepth 100000 in
set_option maxHeartbeats 1600000 in
theorem rString_err (s : ByteArray) (a : Nat) (most c0 c : Int) (n k : Nat) (w : World) (hN : ∀ W, Calls Try.prog 54 #[.agg #[.string s, .int .i64 a, .int .i64 c0], .int .i64 (min most 1048576)] W (RefGot W s (.int .i64 n) k c)) (hc : c ≠ 0) :
    Calls Try.prog 52 #[.agg #[.string s, .int .i64 a, .int .i64 c0], .int .i64 most] w (RefGot w s (.string ⟨#[]⟩) k c) := by
  have hmin : (if 1048576 < most then 1048576 else most) = min most 1048576 := by omega
  generalize min most 1048576 = mm at *
  have hne : (c != 0) = true := by rw [bne_iff_ne]; exact hc
  clear hc
  have HN := Lib.hid hN
  clear hN
  go_enter Try.func52, Try.ntmps52
  go_wp2_with (go_at_call 54; (try rw [hmin]); refine (HN.out _).mono ?_; rintro e w1 ⟨rfl, hb1⟩; obtain ⟨hc1, hf1⟩ := bcell hb1; have hz : w.heap.size + 1 < w1.heap.size := (by have := hb1.size; simp at this; omega); have hz0 : w.heap.size < w1.heap.size := (by omega))
  go_region
  go_wp2
  exact bodyPost_ret (rr_res2 rfl _ _ (w.heap.size + 1) s k c _ rfl rfl (blk_drew ((fin_blk hb1 _ _).alloc _))) rfl ⟨rfl, fin_below2 hb1 _ _ _ _⟩

set_option maxRecDepth 100000 in
set_option maxHeartbeats 1600000 in
theorem rString_short (s : ByteArray) (a : Nat) (most c0 c : Int) (n k : Nat) (w : World) (hN : ∀ W, Calls Try.prog 54 #[.agg #[.string s, .int .i64 a, .int .i64 c0], .int .i64 (min most 1048576)] W (RefGot W s (.int .i64 n) k c)) (hc : c = 0) (hk : k ≤ s.size) (hs : s.size ≤ 140737488351232) (hfit : s.size < k + n) :
    Calls Try.prog 52 #[.agg #[.string s, .int .i64 a, .int .i64 c0], .int .i64 most] w (RefGot w s (.string ⟨#[]⟩) a 16) := by
  have hmin : (if 1048576 < most then 1048576 else most) = min most 1048576 := by omega
  generalize min most 1048576 = mm at *
  subst hc
  have HT := Lib.hid (fun w' => rtake_end s k n w' hk hs (by omega))
  clear hk hs hfit
  have HN := Lib.hid hN
  clear hN
  go_enter Try.func52, Try.ntmps52
  go_wp2_with (first | (go_at_call 54; (try rw [hmin]); refine (HN.out _).mono ?_; rintro e w1 ⟨rfl, hb1⟩; obtain ⟨hc1, hf1⟩ := bcell hb1; have hz : w.heap.size + 1 < w1.heap.size := (by have := hb1.size; simp at this; omega); have hz0 : w.heap.size < w1.heap.size := (by omega)) | (go_at_call 80; refine (HT.out _).mono ?_; rintro e w2 ⟨rfl, hb2⟩; have hq2 := hb2.size; have hz2 : w1.heap.size < w2.heap.size := (by simp at hq2; omega); have hz3 : w.heap.size < w2.heap.size := (by omega); have hz4 : w.heap.size + 1 < w2.heap.size := (by omega); clear hc1 hf1 hq2; have hb12 := bel_step hb1 (Nat.le_trans (Nat.le_refl _) hb1.size) hb2; obtain ⟨p0, p1, p2, _, _, _⟩ := cells3 (Blk.below (two_box w s a c0) hb12 (by simp only [World.size_alloc]; omega)); obtain ⟨q0, q1, q2, q3, q4, q5⟩ := cells3 (Blk.below (two_res w s a c0) hb12 (by simp only [World.size_alloc]; omega))) | (go_at_call 57; refine (stop_open s a c0 16 _).mono ?_; rintro e w3 ⟨rfl, hb3⟩; obtain ⟨hc3, hf3⟩ := bcell hb3))
  exact bodyPost_ret (rr_res2 rfl _ _ (w.heap.size + 1) s a 16 _ rfl rfl (stop_fin hb12 hb3 _ _)) rfl ⟨rfl, stop_below hb12 hb3 _ _ _⟩

set_option maxRecDepth 100000 in
set_option maxHeartbeats 1600000 in
theorem rString_ok (s : ByteArray) (a : Nat) (most c0 c : Int) (n k : Nat) (w : World) (hN : ∀ W, Calls Try.prog 54 #[.agg #[.string s, .int .i64 a, .int .i64 c0], .int .i64 (min most 1048576)] W (RefGot W s (.int .i64 n) k c)) (hc : c = 0) (hs : s.size ≤ 140737488351232) (hfit : k + n ≤ s.size) :
    Calls Try.prog 52 #[.agg #[.string s, .int .i64 a, .int .i64 c0], .int .i64 most] w (RefGot w s (.string (s.extract k (k + n))) (k + n : Nat) 0) := by
  have hmin : (if 1048576 < most then 1048576 else most) = min most 1048576 := by omega
  generalize min most 1048576 = mm at *
  subst hc
  have HT := Lib.hid (fun w' => rtake_ok s k n w' hfit hs)
  clear hs hfit
  generalize s.extract k (k + n) = q at *
  have HN := Lib.hid hN
  clear hN
  go_enter Try.func52, Try.ntmps52
  go_wp2_with (first | (go_at_call 54; (try rw [hmin]); refine (HN.out _).mono ?_; rintro e w1 ⟨rfl, hb1⟩; obtain ⟨hc1, hf1⟩ := bcell hb1; have hz : w.heap.size + 1 < w1.heap.size := (by have := hb1.size; simp at this; omega); have hz0 : w.heap.size < w1.heap.size := (by omega)) | (go_at_call 80; refine (HT.out _).mono ?_; rintro e w2 ⟨rfl, hb2⟩; have hq2 := hb2.size; have hz2 : w1.heap.size < w2.heap.size := (by simp at hq2; omega); have hz3 : w.heap.size < w2.heap.size := (by omega); have hz4 : w.heap.size + 1 < w2.heap.size := (by omega); clear hc1 hf1 hq2; have hb12 := bel_step hb1 (Nat.le_trans (Nat.le_refl _) hb1.size) hb2; obtain ⟨p0, p1, p2, _, _, _⟩ := cells3 (Blk.below (two_box w s a c0) hb12 (by simp only [World.size_alloc]; omega)); obtain ⟨q0, q1, q2, q3, q4, q5⟩ := cells3 (Blk.below (two_res w s a c0) hb12 (by simp only [World.size_alloc]; omega))))
  go_region
  go_wp2
  exact bodyPost_ret (rr_res2 rfl _ _ (w.heap.size + 1) s (↑k + ↑n) 0 _ rfl rfl (blk_drew ((fin_blk hb12 _ _).alloc _))) rfl ⟨rfl, fin_below2 hb12 _ _ _ _⟩

theorem rString_live (s : ByteArray) (a : Nat) (most : Int) (w : World) (ha : a ≤ s.size) (hs : s.size ≤ 140737488351232) :
    Calls Try.prog 52 #[.agg #[.string s, .int .i64 a, .int .i64 0], .int .i64 most] w (RefGot w s (.string (if stC s a most = 0 then stS s a most else ⟨#[]⟩)) ((if stC s a most = 0 then stK s a most else a : Nat) : Int) (stC s a most)) := by
  have HN := fun W => rCount_live s a (min most 1048576) W ha hs
  have hnn := rdCount_nn s a (min most 1048576)
  have hle := rdCount_le2 s a (min most 1048576)
  have herr : (rdCount s a (min most 1048576)).2.1 ≠ 0 → (rdCount s a (min most 1048576)).2.2 = a ∧ (rdCount s a (min most 1048576)).1 = 0 := by
    unfold rdCount
    intro h
    split
    · exact ⟨rfl, rfl⟩
    · split
      · exact ⟨rfl, rfl⟩
      · split
        · exact ⟨rfl, rfl⟩
        · rename_i h1 h2 h3
          rw [if_neg h1, if_neg h2, if_neg h3] at h
          exact absurd rfl h
  unfold stC stS stK
  generalize rdCount s a (min most 1048576) = x at *
  obtain ⟨n, c, k⟩ := x
  dsimp only at *
  obtain ⟨m, rfl⟩ := Int.eq_ofNat_of_zero_le hnn
  by_cases hc : c = 0
  · simp only [if_pos hc, Int.toNat_natCast]
    have hk := hle hc
    unfold takeC takeS
    by_cases hlt : (s.size : Int) - k < m
    · simp only [if_pos hlt]
      exact rString_short s a most 0 c m k w HN hc hk.2 hs (by omega)
    · simp only [if_neg hlt, Int.toNat_natCast]
      exact rString_ok s a most 0 c m k w HN hc hs (by omega)
  · simp only [if_neg hc]
    obtain ⟨rfl, hm⟩ := herr hc
    exact rString_err s k most 0 c m k w HN hc
theorem rString_stopped (s : ByteArray) (a : Nat) (most c : Int) (w : World) (hc : c ≠ 0) : Calls Try.prog 52 #[.agg #[.string s, .int .i64 a, .int .i64 c], .int .i64 most] w (RefGot w s (.string ⟨#[]⟩) a c) :=
  rString_err s a most c c 0 a w (fun W => rCount_stopped s a (min most 1048576) c W hc) hc
end Go.Proofs.Yteendimoopmakaa
