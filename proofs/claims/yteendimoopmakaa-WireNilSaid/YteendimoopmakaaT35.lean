/- The law's write to a nil writer and read from a nil reader give ErrState and zero values. -/
import Derived.Test.YteendimoopmakaaT26
import Derived.Test.YteendimoopmakaaT25
import Derived.Test.YteendimoopmakaaT15
namespace Go.Proofs.Yteendimoopmakaa
open Go.RowKit

set_option maxHeartbeats 800000 in
theorem wnil_k0 (size n : Int) (s : ByteArray) (so : Option Addr) (ls cs : Nat) (w : World) :
    Calls Try.prog 19 #[.pointer none, .agg #[.int .i64 0, .int .i64 size, .int .i64 n, .string s, .slice so ls cs]] w fun e w' => e = .returned (.int .i64 6) ∧ Below w.heap.size w w' := by
  have hb0 : Below w.heap.size w (w.alloc (.cells #[.int .i64 0, .int .i64 size, .int .i64 n, .string s, .slice so ls cs] 35)) := (Below.refl _ _).alloc (Nat.le_refl _) _
  go_enter Try.func19, Try.ntmps19
  go_wp2_with (go_at_call 41; refine (Little_nil n size _).mono ?_; rintro e w1 ⟨rfl, rfl⟩)
  go_ret
  exact ⟨rfl, hb0⟩
set_option maxHeartbeats 800000 in
theorem wnil_k1 (size n : Int) (s : ByteArray) (so : Option Addr) (ls cs : Nat) (w : World) :
    Calls Try.prog 19 #[.pointer none, .agg #[.int .i64 1, .int .i64 size, .int .i64 n, .string s, .slice so ls cs]] w fun e w' => e = .returned (.int .i64 6) ∧ Below w.heap.size w w' := by
  have hb0 : Below w.heap.size w (w.alloc (.cells #[.int .i64 1, .int .i64 size, .int .i64 n, .string s, .slice so ls cs] 35)) := (Below.refl _ _).alloc (Nat.le_refl _) _
  go_enter Try.func19, Try.ntmps19
  go_wp2_with (go_at_call 31; refine (Signed_nil n size _).mono ?_; rintro e w1 ⟨rfl, rfl⟩)
  go_ret
  exact ⟨rfl, hb0⟩
set_option maxHeartbeats 800000 in
theorem wnil_k2 (size n : Int) (s : ByteArray) (so : Option Addr) (ls cs : Nat) (w : World) :
    Calls Try.prog 19 #[.pointer none, .agg #[.int .i64 2, .int .i64 size, .int .i64 n, .string s, .slice so ls cs]] w fun e w' => e = .returned (.int .i64 6) ∧ Below w.heap.size w w' := by
  have hb0 : Below w.heap.size w (w.alloc (.cells #[.int .i64 2, .int .i64 size, .int .i64 n, .string s, .slice so ls cs] 35)) := (Below.refl _ _).alloc (Nat.le_refl _) _
  go_enter Try.func19, Try.ntmps19
  go_wp2_with (go_at_call 12; refine (number_nil n _).mono ?_; rintro e w1 ⟨rfl, rfl⟩)
  go_ret
  exact ⟨rfl, hb0⟩
set_option maxHeartbeats 800000 in
theorem wnil_k6 (size n : Int) (s : ByteArray) (so : Option Addr) (ls cs : Nat) (w : World) :
    Calls Try.prog 19 #[.pointer none, .agg #[.int .i64 6, .int .i64 size, .int .i64 n, .string s, .slice so ls cs]] w fun e w' => e = .returned (.int .i64 6) ∧ Below w.heap.size w w' := by
  have hb0 : Below w.heap.size w (w.alloc (.cells #[.int .i64 6, .int .i64 size, .int .i64 n, .string s, .slice so ls cs] 35)) := (Below.refl _ _).alloc (Nat.le_refl _) _
  go_enter Try.func19, Try.ntmps19
  go_wp2_with (go_at_call 12; refine (number_nil n _).mono ?_; rintro e w1 ⟨rfl, rfl⟩)
  go_ret
  exact ⟨rfl, hb0⟩
set_option maxHeartbeats 800000 in
theorem wnil_k3 (size n : Int) (s : ByteArray) (so : Option Addr) (ls cs : Nat) (w : World) :
    Calls Try.prog 19 #[.pointer none, .agg #[.int .i64 3, .int .i64 size, .int .i64 n, .string s, .slice so ls cs]] w fun e w' => e = .returned (.int .i64 6) ∧ Below w.heap.size w w' := by
  have hb0 : Below w.heap.size w (w.alloc (.cells #[.int .i64 3, .int .i64 size, .int .i64 n, .string s, .slice so ls cs] 35)) := (Below.refl _ _).alloc (Nat.le_refl _) _
  go_enter Try.func19, Try.ntmps19
  go_wp2_with (go_at_call 42; refine (String_nil s _).mono ?_; rintro e w1 ⟨rfl, rfl⟩)
  go_ret
  exact ⟨rfl, hb0⟩
set_option maxHeartbeats 800000 in
theorem wnil_k4 (size n : Int) (s : ByteArray) (so : Option Addr) (ls cs : Nat) (w : World) :
    Calls Try.prog 19 #[.pointer none, .agg #[.int .i64 4, .int .i64 size, .int .i64 n, .string s, .slice so ls cs]] w fun e w' => e = .returned (.int .i64 6) ∧ Below w.heap.size w w' := by
  have hb0 : Below w.heap.size w (w.alloc (.cells #[.int .i64 4, .int .i64 size, .int .i64 n, .string s, .slice so ls cs] 35)) := (Below.refl _ _).alloc (Nat.le_refl _) _
  go_enter Try.func19, Try.ntmps19
  go_wp2_with (go_at_call 30; refine (Bits_nilw _ _).mono ?_; rintro e w1 ⟨rfl, hb1⟩)
  go_ret
  exact ⟨rfl, hb0.trans (hb1.mono hb0.size)⟩
set_option maxHeartbeats 800000 in
theorem wnil_raw (kind size n : Int) (s : ByteArray) (so : Option Addr) (ls cs : Nat) (hk : kind ≠ 0 ∧ kind ≠ 1 ∧ kind ≠ 2 ∧ kind ≠ 6 ∧ kind ≠ 3 ∧ kind ≠ 4) (w : World) :
    Calls Try.prog 19 #[.pointer none, .agg #[.int .i64 kind, .int .i64 size, .int .i64 n, .string s, .slice so ls cs]] w fun e w' => e = .returned (.int .i64 6) ∧ Below w.heap.size w w' := by
  have hb0 : Below w.heap.size w (w.alloc (.cells #[.int .i64 kind, .int .i64 size, .int .i64 n, .string s, .slice so ls cs] 35)) := (Below.refl _ _).alloc (Nat.le_refl _) _
  obtain ⟨k0, k1, k2, k6, k3, k4⟩ := hk
  have e0 : (kind == 0) = false := by rw [beq_eq_false_iff_ne]; exact k0
  have e1 : (kind == 1) = false := by rw [beq_eq_false_iff_ne]; exact k1
  have e2 : (kind == 2) = false := by rw [beq_eq_false_iff_ne]; exact k2
  have e6 : (kind == 6) = false := by rw [beq_eq_false_iff_ne]; exact k6
  have e3 : (kind == 3) = false := by rw [beq_eq_false_iff_ne]; exact k3
  have e4 : (kind == 4) = false := by rw [beq_eq_false_iff_ne]; exact k4
  clear k0 k1 k2 k6 k3 k4
  go_enter Try.func19, Try.ntmps19
  go_wp2_with (go_at_call 43; refine (Raw_nil s _).mono ?_; rintro e w1 ⟨rfl, rfl⟩)
  go_ret
  exact ⟨rfl, hb0⟩
theorem wnil_any (kind size n : Int) (s : ByteArray) (so : Option Addr) (ls cs : Nat) (w : World) :
    Calls Try.prog 19 #[.pointer none, .agg #[.int .i64 kind, .int .i64 size, .int .i64 n, .string s, .slice so ls cs]] w fun e w' => e = .returned (.int .i64 6) ∧ Below w.heap.size w w' := by
  by_cases k0 : kind = 0
  · subst k0; exact wnil_k0 size n s so ls cs w
  by_cases k1 : kind = 1
  · subst k1; exact wnil_k1 size n s so ls cs w
  by_cases k2 : kind = 2
  · subst k2; exact wnil_k2 size n s so ls cs w
  by_cases k6 : kind = 6
  · subst k6; exact wnil_k6 size n s so ls cs w
  by_cases k3 : kind = 3
  · subst k3; exact wnil_k3 size n s so ls cs w
  by_cases k4 : kind = 4
  · subst k4; exact wnil_k4 size n s so ls cs w
  exact wnil_raw kind size n s so ls cs ⟨k0, k1, k2, k6, k3, k4⟩ w

def NilPost (w : World) (v : Value) (e : Ending) (w' : World) : Prop := e = .returned (.tuple #[v, .int .i64 6]) ∧ Below w.heap.size w w'

set_option maxRecDepth 100000 in
set_option maxHeartbeats 3200000 in
theorem rnil_k0 (n : Int) (w : World)
    (hC : ∀ W : World, Calls Try.prog 44 #[.pointer none, .int .i64 n] W (fun e w' => e = .returned (.tuple #[.int .i64 0, .int .i64 6]) ∧ Below W.heap.size W w')) :
    Calls Try.prog 21 #[.pointer none, .agg #[.int .i64 0, .int .i64 n]] w (NilPost w zeroItem) := by
  have HC := Lib.hid hC
  have HBW := Lib.hid (rdW_below w 0 n)
  have HB1 := Lib.hid (rdW_1 w 0 n)
  have HB2 := Lib.hid (rdW_2 w 0 n)
  clear hC
  go_enter Try.func21, Try.ntmps21
  go_wp2_with fail
  refine (HC.out _).mono ?_
  rintro e w1 ⟨rfl, hb1⟩
  have hfb : Blk w1 (w.heap.size + 1) 35 zcells := Blk.below HB1.out hb1 (by simp only [World.size_alloc]; omega)
  have hdb : Blk w1 (w.heap.size + 1 + 1) 35 zcells := Blk.below HB2.out hb1 (by simp only [World.size_alloc]; omega)
  have HBB := Lib.hid (HBW.out.trans (hb1.mono (by simp only [World.size_alloc]; omega)))
  clear hb1
  have f0 : w1.cell? ⟨w.heap.size + 1, 0, none⟩ = some (.int .i64 0) := hfb.cell 0
  have fz0 : w1.frozen? ⟨w.heap.size + 1, 0, none⟩ = false := hfb.frozen 0
  have f1 : w1.cell? ⟨w.heap.size + 1, 1, none⟩ = some (.int .i64 0) := hfb.cell 1
  have fz1 : w1.frozen? ⟨w.heap.size + 1, 1, none⟩ = false := hfb.frozen 1
  have f2 : w1.cell? ⟨w.heap.size + 1, 2, none⟩ = some (.int .i64 0) := hfb.cell 2
  have fz2 : w1.frozen? ⟨w.heap.size + 1, 2, none⟩ = false := hfb.frozen 2
  have f3 : w1.cell? ⟨w.heap.size + 1, 3, none⟩ = some (.string ⟨#[]⟩) := hfb.cell 3
  have fz3 : w1.frozen? ⟨w.heap.size + 1, 3, none⟩ = false := hfb.frozen 3
  have f4 : w1.cell? ⟨w.heap.size + 1, 4, none⟩ = some (.slice none 0 0) := hfb.cell 4
  have fz4 : w1.frozen? ⟨w.heap.size + 1, 4, none⟩ = false := hfb.frozen 4
  have d0 : w1.cell? ⟨w.heap.size + 1 + 1, 0, none⟩ = some (.int .i64 0) := hdb.cell 0
  have dz0 : w1.frozen? ⟨w.heap.size + 1 + 1, 0, none⟩ = false := hdb.frozen 0
  have d1 : w1.cell? ⟨w.heap.size + 1 + 1, 1, none⟩ = some (.int .i64 0) := hdb.cell 1
  have dz1 : w1.frozen? ⟨w.heap.size + 1 + 1, 1, none⟩ = false := hdb.frozen 1
  have d2 : w1.cell? ⟨w.heap.size + 1 + 1, 2, none⟩ = some (.int .i64 0) := hdb.cell 2
  have dz2 : w1.frozen? ⟨w.heap.size + 1 + 1, 2, none⟩ = false := hdb.frozen 2
  have d3 : w1.cell? ⟨w.heap.size + 1 + 1, 3, none⟩ = some (.string ⟨#[]⟩) := hdb.cell 3
  have dz3 : w1.frozen? ⟨w.heap.size + 1 + 1, 3, none⟩ = false := hdb.frozen 3
  have d4 : w1.cell? ⟨w.heap.size + 1 + 1, 4, none⟩ = some (.slice none 0 0) := hdb.cell 4
  have dz4 : w1.frozen? ⟨w.heap.size + 1 + 1, 4, none⟩ = false := hdb.frozen 4
  go_wp2_with fail
  (try simp only [Exit.inBlock, Exit.then])
  exact bodyPost_ret (f21_results _ _ (w.heap.size + 1) _ _ _ _ _ _ rfl rfl ((((((hfb.far (p := ⟨w.heap.size + 1 + 1, 2, none⟩) (by simp) _).set_ 0 _).set_ 1 _).set_ 2 _).set_ 3 _).set_ 4 _)) rfl ⟨rfl, ((((((HBB.out.setCell (by simp; omega) _).setCell (by simp) _).setCell (by simp) _).setCell (by simp) _).setCell (by simp) _).setCell (by simp) _)⟩

set_option maxRecDepth 100000 in
set_option maxHeartbeats 3200000 in
theorem rnil_k1 (n : Int) (w : World)
    (hC : ∀ W : World, Calls Try.prog 45 #[.pointer none, .int .i64 n] W (fun e w' => e = .returned (.tuple #[.int .i64 0, .int .i64 6]) ∧ Below W.heap.size W w')) :
    Calls Try.prog 21 #[.pointer none, .agg #[.int .i64 1, .int .i64 n]] w (NilPost w zeroItem) := by
  have HC := Lib.hid hC
  have HBW := Lib.hid (rdW_below w 1 n)
  have HB1 := Lib.hid (rdW_1 w 1 n)
  have HB2 := Lib.hid (rdW_2 w 1 n)
  clear hC
  go_enter Try.func21, Try.ntmps21
  go_wp2_with fail
  refine (HC.out _).mono ?_
  rintro e w1 ⟨rfl, hb1⟩
  have hfb : Blk w1 (w.heap.size + 1) 35 zcells := Blk.below HB1.out hb1 (by simp only [World.size_alloc]; omega)
  have hdb : Blk w1 (w.heap.size + 1 + 1) 35 zcells := Blk.below HB2.out hb1 (by simp only [World.size_alloc]; omega)
  have HBB := Lib.hid (HBW.out.trans (hb1.mono (by simp only [World.size_alloc]; omega)))
  clear hb1
  have f0 : w1.cell? ⟨w.heap.size + 1, 0, none⟩ = some (.int .i64 0) := hfb.cell 0
  have fz0 : w1.frozen? ⟨w.heap.size + 1, 0, none⟩ = false := hfb.frozen 0
  have f1 : w1.cell? ⟨w.heap.size + 1, 1, none⟩ = some (.int .i64 0) := hfb.cell 1
  have fz1 : w1.frozen? ⟨w.heap.size + 1, 1, none⟩ = false := hfb.frozen 1
  have f2 : w1.cell? ⟨w.heap.size + 1, 2, none⟩ = some (.int .i64 0) := hfb.cell 2
  have fz2 : w1.frozen? ⟨w.heap.size + 1, 2, none⟩ = false := hfb.frozen 2
  have f3 : w1.cell? ⟨w.heap.size + 1, 3, none⟩ = some (.string ⟨#[]⟩) := hfb.cell 3
  have fz3 : w1.frozen? ⟨w.heap.size + 1, 3, none⟩ = false := hfb.frozen 3
  have f4 : w1.cell? ⟨w.heap.size + 1, 4, none⟩ = some (.slice none 0 0) := hfb.cell 4
  have fz4 : w1.frozen? ⟨w.heap.size + 1, 4, none⟩ = false := hfb.frozen 4
  have d0 : w1.cell? ⟨w.heap.size + 1 + 1, 0, none⟩ = some (.int .i64 0) := hdb.cell 0
  have dz0 : w1.frozen? ⟨w.heap.size + 1 + 1, 0, none⟩ = false := hdb.frozen 0
  have d1 : w1.cell? ⟨w.heap.size + 1 + 1, 1, none⟩ = some (.int .i64 0) := hdb.cell 1
  have dz1 : w1.frozen? ⟨w.heap.size + 1 + 1, 1, none⟩ = false := hdb.frozen 1
  have d2 : w1.cell? ⟨w.heap.size + 1 + 1, 2, none⟩ = some (.int .i64 0) := hdb.cell 2
  have dz2 : w1.frozen? ⟨w.heap.size + 1 + 1, 2, none⟩ = false := hdb.frozen 2
  have d3 : w1.cell? ⟨w.heap.size + 1 + 1, 3, none⟩ = some (.string ⟨#[]⟩) := hdb.cell 3
  have dz3 : w1.frozen? ⟨w.heap.size + 1 + 1, 3, none⟩ = false := hdb.frozen 3
  have d4 : w1.cell? ⟨w.heap.size + 1 + 1, 4, none⟩ = some (.slice none 0 0) := hdb.cell 4
  have dz4 : w1.frozen? ⟨w.heap.size + 1 + 1, 4, none⟩ = false := hdb.frozen 4
  go_wp2_with fail
  (try simp only [Exit.inBlock, Exit.then])
  exact bodyPost_ret (f21_results _ _ (w.heap.size + 1) _ _ _ _ _ _ rfl rfl ((((((hfb.far (p := ⟨w.heap.size + 1 + 1, 2, none⟩) (by simp) _).set_ 0 _).set_ 1 _).set_ 2 _).set_ 3 _).set_ 4 _)) rfl ⟨rfl, ((((((HBB.out.setCell (by simp; omega) _).setCell (by simp) _).setCell (by simp) _).setCell (by simp) _).setCell (by simp) _).setCell (by simp) _)⟩

set_option maxRecDepth 100000 in
set_option maxHeartbeats 3200000 in
theorem rnil_k2 (n : Int) (w : World)
    (hC : ∀ W : World, Calls Try.prog 32 #[.pointer none] W (fun e w' => e = .returned (.tuple #[.int .i64 0, .int .i64 6]) ∧ Below W.heap.size W w')) :
    Calls Try.prog 21 #[.pointer none, .agg #[.int .i64 2, .int .i64 n]] w (NilPost w zeroItem) := by
  have HC := Lib.hid hC
  have HBW := Lib.hid (rdW_below w 2 n)
  have HB1 := Lib.hid (rdW_1 w 2 n)
  have HB2 := Lib.hid (rdW_2 w 2 n)
  clear hC
  go_enter Try.func21, Try.ntmps21
  go_wp2_with fail
  refine (HC.out _).mono ?_
  rintro e w1 ⟨rfl, hb1⟩
  have hfb : Blk w1 (w.heap.size + 1) 35 zcells := Blk.below HB1.out hb1 (by simp only [World.size_alloc]; omega)
  have hdb : Blk w1 (w.heap.size + 1 + 1) 35 zcells := Blk.below HB2.out hb1 (by simp only [World.size_alloc]; omega)
  have HBB := Lib.hid (HBW.out.trans (hb1.mono (by simp only [World.size_alloc]; omega)))
  clear hb1
  have f0 : w1.cell? ⟨w.heap.size + 1, 0, none⟩ = some (.int .i64 0) := hfb.cell 0
  have fz0 : w1.frozen? ⟨w.heap.size + 1, 0, none⟩ = false := hfb.frozen 0
  have f1 : w1.cell? ⟨w.heap.size + 1, 1, none⟩ = some (.int .i64 0) := hfb.cell 1
  have fz1 : w1.frozen? ⟨w.heap.size + 1, 1, none⟩ = false := hfb.frozen 1
  have f2 : w1.cell? ⟨w.heap.size + 1, 2, none⟩ = some (.int .i64 0) := hfb.cell 2
  have fz2 : w1.frozen? ⟨w.heap.size + 1, 2, none⟩ = false := hfb.frozen 2
  have f3 : w1.cell? ⟨w.heap.size + 1, 3, none⟩ = some (.string ⟨#[]⟩) := hfb.cell 3
  have fz3 : w1.frozen? ⟨w.heap.size + 1, 3, none⟩ = false := hfb.frozen 3
  have f4 : w1.cell? ⟨w.heap.size + 1, 4, none⟩ = some (.slice none 0 0) := hfb.cell 4
  have fz4 : w1.frozen? ⟨w.heap.size + 1, 4, none⟩ = false := hfb.frozen 4
  have d0 : w1.cell? ⟨w.heap.size + 1 + 1, 0, none⟩ = some (.int .i64 0) := hdb.cell 0
  have dz0 : w1.frozen? ⟨w.heap.size + 1 + 1, 0, none⟩ = false := hdb.frozen 0
  have d1 : w1.cell? ⟨w.heap.size + 1 + 1, 1, none⟩ = some (.int .i64 0) := hdb.cell 1
  have dz1 : w1.frozen? ⟨w.heap.size + 1 + 1, 1, none⟩ = false := hdb.frozen 1
  have d2 : w1.cell? ⟨w.heap.size + 1 + 1, 2, none⟩ = some (.int .i64 0) := hdb.cell 2
  have dz2 : w1.frozen? ⟨w.heap.size + 1 + 1, 2, none⟩ = false := hdb.frozen 2
  have d3 : w1.cell? ⟨w.heap.size + 1 + 1, 3, none⟩ = some (.string ⟨#[]⟩) := hdb.cell 3
  have dz3 : w1.frozen? ⟨w.heap.size + 1 + 1, 3, none⟩ = false := hdb.frozen 3
  have d4 : w1.cell? ⟨w.heap.size + 1 + 1, 4, none⟩ = some (.slice none 0 0) := hdb.cell 4
  have dz4 : w1.frozen? ⟨w.heap.size + 1 + 1, 4, none⟩ = false := hdb.frozen 4
  go_wp2_with fail
  (try simp only [Exit.inBlock, Exit.then])
  exact bodyPost_ret (f21_results _ _ (w.heap.size + 1) _ _ _ _ _ _ rfl rfl ((((((hfb.far (p := ⟨w.heap.size + 1 + 1, 2, none⟩) (by simp) _).set_ 0 _).set_ 1 _).set_ 2 _).set_ 3 _).set_ 4 _)) rfl ⟨rfl, ((((((HBB.out.setCell (by simp; omega) _).setCell (by simp) _).setCell (by simp) _).setCell (by simp) _).setCell (by simp) _).setCell (by simp) _)⟩

set_option maxRecDepth 100000 in
set_option maxHeartbeats 3200000 in
theorem rnil_k3 (n : Int) (w : World)
    (hC : ∀ W : World, Calls Try.prog 46 #[.pointer none, .int .i64 n] W (fun e w' => e = .returned (.tuple #[.string ⟨#[]⟩, .int .i64 6]) ∧ Below W.heap.size W w')) :
    Calls Try.prog 21 #[.pointer none, .agg #[.int .i64 3, .int .i64 n]] w (NilPost w zeroItem) := by
  have HC := Lib.hid hC
  have HBW := Lib.hid (rdW_below w 3 n)
  have HB1 := Lib.hid (rdW_1 w 3 n)
  have HB2 := Lib.hid (rdW_2 w 3 n)
  clear hC
  go_enter Try.func21, Try.ntmps21
  go_wp2_with fail
  refine (HC.out _).mono ?_
  rintro e w1 ⟨rfl, hb1⟩
  have hfb : Blk w1 (w.heap.size + 1) 35 zcells := Blk.below HB1.out hb1 (by simp only [World.size_alloc]; omega)
  have hdb : Blk w1 (w.heap.size + 1 + 1) 35 zcells := Blk.below HB2.out hb1 (by simp only [World.size_alloc]; omega)
  have HBB := Lib.hid (HBW.out.trans (hb1.mono (by simp only [World.size_alloc]; omega)))
  clear hb1
  have f0 : w1.cell? ⟨w.heap.size + 1, 0, none⟩ = some (.int .i64 0) := hfb.cell 0
  have fz0 : w1.frozen? ⟨w.heap.size + 1, 0, none⟩ = false := hfb.frozen 0
  have f1 : w1.cell? ⟨w.heap.size + 1, 1, none⟩ = some (.int .i64 0) := hfb.cell 1
  have fz1 : w1.frozen? ⟨w.heap.size + 1, 1, none⟩ = false := hfb.frozen 1
  have f2 : w1.cell? ⟨w.heap.size + 1, 2, none⟩ = some (.int .i64 0) := hfb.cell 2
  have fz2 : w1.frozen? ⟨w.heap.size + 1, 2, none⟩ = false := hfb.frozen 2
  have f3 : w1.cell? ⟨w.heap.size + 1, 3, none⟩ = some (.string ⟨#[]⟩) := hfb.cell 3
  have fz3 : w1.frozen? ⟨w.heap.size + 1, 3, none⟩ = false := hfb.frozen 3
  have f4 : w1.cell? ⟨w.heap.size + 1, 4, none⟩ = some (.slice none 0 0) := hfb.cell 4
  have fz4 : w1.frozen? ⟨w.heap.size + 1, 4, none⟩ = false := hfb.frozen 4
  have d0 : w1.cell? ⟨w.heap.size + 1 + 1, 0, none⟩ = some (.int .i64 0) := hdb.cell 0
  have dz0 : w1.frozen? ⟨w.heap.size + 1 + 1, 0, none⟩ = false := hdb.frozen 0
  have d1 : w1.cell? ⟨w.heap.size + 1 + 1, 1, none⟩ = some (.int .i64 0) := hdb.cell 1
  have dz1 : w1.frozen? ⟨w.heap.size + 1 + 1, 1, none⟩ = false := hdb.frozen 1
  have d2 : w1.cell? ⟨w.heap.size + 1 + 1, 2, none⟩ = some (.int .i64 0) := hdb.cell 2
  have dz2 : w1.frozen? ⟨w.heap.size + 1 + 1, 2, none⟩ = false := hdb.frozen 2
  have d3 : w1.cell? ⟨w.heap.size + 1 + 1, 3, none⟩ = some (.string ⟨#[]⟩) := hdb.cell 3
  have dz3 : w1.frozen? ⟨w.heap.size + 1 + 1, 3, none⟩ = false := hdb.frozen 3
  have d4 : w1.cell? ⟨w.heap.size + 1 + 1, 4, none⟩ = some (.slice none 0 0) := hdb.cell 4
  have dz4 : w1.frozen? ⟨w.heap.size + 1 + 1, 4, none⟩ = false := hdb.frozen 4
  go_wp2_with fail
  (try simp only [Exit.inBlock, Exit.then])
  exact bodyPost_ret (f21_results _ _ (w.heap.size + 1) _ _ _ _ _ _ rfl rfl ((((((hfb.far (p := ⟨w.heap.size + 1 + 1, 3, none⟩) (by simp) _).set_ 0 _).set_ 1 _).set_ 2 _).set_ 3 _).set_ 4 _)) rfl ⟨rfl, ((((((HBB.out.setCell (by simp; omega) _).setCell (by simp) _).setCell (by simp) _).setCell (by simp) _).setCell (by simp) _).setCell (by simp) _)⟩

set_option maxRecDepth 100000 in
set_option maxHeartbeats 3200000 in
theorem rnil_k6 (n : Int) (w : World)
    (hC : ∀ W : World, Calls Try.prog 48 #[.pointer none, .int .i64 n] W (fun e w' => e = .returned (.tuple #[.int .i64 0, .int .i64 6]) ∧ Below W.heap.size W w')) :
    Calls Try.prog 21 #[.pointer none, .agg #[.int .i64 6, .int .i64 n]] w (NilPost w zeroItem) := by
  have HC := Lib.hid hC
  have HBW := Lib.hid (rdW_below w 6 n)
  have HB1 := Lib.hid (rdW_1 w 6 n)
  have HB2 := Lib.hid (rdW_2 w 6 n)
  clear hC
  go_enter Try.func21, Try.ntmps21
  go_wp2_with fail
  refine (HC.out _).mono ?_
  rintro e w1 ⟨rfl, hb1⟩
  have hfb : Blk w1 (w.heap.size + 1) 35 zcells := Blk.below HB1.out hb1 (by simp only [World.size_alloc]; omega)
  have hdb : Blk w1 (w.heap.size + 1 + 1) 35 zcells := Blk.below HB2.out hb1 (by simp only [World.size_alloc]; omega)
  have HBB := Lib.hid (HBW.out.trans (hb1.mono (by simp only [World.size_alloc]; omega)))
  clear hb1
  have f0 : w1.cell? ⟨w.heap.size + 1, 0, none⟩ = some (.int .i64 0) := hfb.cell 0
  have fz0 : w1.frozen? ⟨w.heap.size + 1, 0, none⟩ = false := hfb.frozen 0
  have f1 : w1.cell? ⟨w.heap.size + 1, 1, none⟩ = some (.int .i64 0) := hfb.cell 1
  have fz1 : w1.frozen? ⟨w.heap.size + 1, 1, none⟩ = false := hfb.frozen 1
  have f2 : w1.cell? ⟨w.heap.size + 1, 2, none⟩ = some (.int .i64 0) := hfb.cell 2
  have fz2 : w1.frozen? ⟨w.heap.size + 1, 2, none⟩ = false := hfb.frozen 2
  have f3 : w1.cell? ⟨w.heap.size + 1, 3, none⟩ = some (.string ⟨#[]⟩) := hfb.cell 3
  have fz3 : w1.frozen? ⟨w.heap.size + 1, 3, none⟩ = false := hfb.frozen 3
  have f4 : w1.cell? ⟨w.heap.size + 1, 4, none⟩ = some (.slice none 0 0) := hfb.cell 4
  have fz4 : w1.frozen? ⟨w.heap.size + 1, 4, none⟩ = false := hfb.frozen 4
  have d0 : w1.cell? ⟨w.heap.size + 1 + 1, 0, none⟩ = some (.int .i64 0) := hdb.cell 0
  have dz0 : w1.frozen? ⟨w.heap.size + 1 + 1, 0, none⟩ = false := hdb.frozen 0
  have d1 : w1.cell? ⟨w.heap.size + 1 + 1, 1, none⟩ = some (.int .i64 0) := hdb.cell 1
  have dz1 : w1.frozen? ⟨w.heap.size + 1 + 1, 1, none⟩ = false := hdb.frozen 1
  have d2 : w1.cell? ⟨w.heap.size + 1 + 1, 2, none⟩ = some (.int .i64 0) := hdb.cell 2
  have dz2 : w1.frozen? ⟨w.heap.size + 1 + 1, 2, none⟩ = false := hdb.frozen 2
  have d3 : w1.cell? ⟨w.heap.size + 1 + 1, 3, none⟩ = some (.string ⟨#[]⟩) := hdb.cell 3
  have dz3 : w1.frozen? ⟨w.heap.size + 1 + 1, 3, none⟩ = false := hdb.frozen 3
  have d4 : w1.cell? ⟨w.heap.size + 1 + 1, 4, none⟩ = some (.slice none 0 0) := hdb.cell 4
  have dz4 : w1.frozen? ⟨w.heap.size + 1 + 1, 4, none⟩ = false := hdb.frozen 4
  go_wp2_with fail
  (try simp only [Exit.inBlock, Exit.then])
  exact bodyPost_ret (f21_results _ _ (w.heap.size + 1) _ _ _ _ _ _ rfl rfl ((((((hfb.far (p := ⟨w.heap.size + 1 + 1, 2, none⟩) (by simp) _).set_ 0 _).set_ 1 _).set_ 2 _).set_ 3 _).set_ 4 _)) rfl ⟨rfl, ((((((HBB.out.setCell (by simp; omega) _).setCell (by simp) _).setCell (by simp) _).setCell (by simp) _).setCell (by simp) _).setCell (by simp) _)⟩

set_option maxRecDepth 100000 in
set_option maxHeartbeats 3200000 in
theorem rnil_k4 (n : Int) (w : World)
    (hC : ∀ W : World, Calls Try.prog 47 #[.pointer none, .int .i64 n] W (fun e w' => e = .returned (.tuple #[.slice none 0 0, .int .i64 6]) ∧ Below W.heap.size W w')) :
    Calls Try.prog 21 #[.pointer none, .agg #[.int .i64 4, .int .i64 n]] w (NilPost w zeroItem) := by
  have HC := Lib.hid hC
  have HBW := Lib.hid (rdW_below w 4 n)
  have HB1 := Lib.hid (rdW_1 w 4 n)
  have HB2 := Lib.hid (rdW_2 w 4 n)
  clear hC
  go_enter Try.func21, Try.ntmps21
  go_wp2_with fail
  refine (HC.out _).mono ?_
  rintro e w1 ⟨rfl, hb1⟩
  have hfb : Blk w1 (w.heap.size + 1) 35 zcells := Blk.below HB1.out hb1 (by simp only [World.size_alloc]; omega)
  have hdb : Blk w1 (w.heap.size + 1 + 1) 35 zcells := Blk.below HB2.out hb1 (by simp only [World.size_alloc]; omega)
  have HBB := Lib.hid (HBW.out.trans (hb1.mono (by simp only [World.size_alloc]; omega)))
  clear hb1
  have f0 : w1.cell? ⟨w.heap.size + 1, 0, none⟩ = some (.int .i64 0) := hfb.cell 0
  have fz0 : w1.frozen? ⟨w.heap.size + 1, 0, none⟩ = false := hfb.frozen 0
  have f1 : w1.cell? ⟨w.heap.size + 1, 1, none⟩ = some (.int .i64 0) := hfb.cell 1
  have fz1 : w1.frozen? ⟨w.heap.size + 1, 1, none⟩ = false := hfb.frozen 1
  have f2 : w1.cell? ⟨w.heap.size + 1, 2, none⟩ = some (.int .i64 0) := hfb.cell 2
  have fz2 : w1.frozen? ⟨w.heap.size + 1, 2, none⟩ = false := hfb.frozen 2
  have f3 : w1.cell? ⟨w.heap.size + 1, 3, none⟩ = some (.string ⟨#[]⟩) := hfb.cell 3
  have fz3 : w1.frozen? ⟨w.heap.size + 1, 3, none⟩ = false := hfb.frozen 3
  have f4 : w1.cell? ⟨w.heap.size + 1, 4, none⟩ = some (.slice none 0 0) := hfb.cell 4
  have fz4 : w1.frozen? ⟨w.heap.size + 1, 4, none⟩ = false := hfb.frozen 4
  have d0 : w1.cell? ⟨w.heap.size + 1 + 1, 0, none⟩ = some (.int .i64 0) := hdb.cell 0
  have dz0 : w1.frozen? ⟨w.heap.size + 1 + 1, 0, none⟩ = false := hdb.frozen 0
  have d1 : w1.cell? ⟨w.heap.size + 1 + 1, 1, none⟩ = some (.int .i64 0) := hdb.cell 1
  have dz1 : w1.frozen? ⟨w.heap.size + 1 + 1, 1, none⟩ = false := hdb.frozen 1
  have d2 : w1.cell? ⟨w.heap.size + 1 + 1, 2, none⟩ = some (.int .i64 0) := hdb.cell 2
  have dz2 : w1.frozen? ⟨w.heap.size + 1 + 1, 2, none⟩ = false := hdb.frozen 2
  have d3 : w1.cell? ⟨w.heap.size + 1 + 1, 3, none⟩ = some (.string ⟨#[]⟩) := hdb.cell 3
  have dz3 : w1.frozen? ⟨w.heap.size + 1 + 1, 3, none⟩ = false := hdb.frozen 3
  have d4 : w1.cell? ⟨w.heap.size + 1 + 1, 4, none⟩ = some (.slice none 0 0) := hdb.cell 4
  have dz4 : w1.frozen? ⟨w.heap.size + 1 + 1, 4, none⟩ = false := hdb.frozen 4
  go_wp2_with fail
  (try simp only [Exit.inBlock, Exit.then])
  exact bodyPost_ret (f21_results _ _ (w.heap.size + 1) _ _ _ _ _ _ rfl rfl ((((((hfb.far (p := ⟨w.heap.size + 1 + 1, 4, none⟩) (by simp) _).set_ 0 _).set_ 1 _).set_ 2 _).set_ 3 _).set_ 4 _)) rfl ⟨rfl, ((((((HBB.out.setCell (by simp; omega) _).setCell (by simp) _).setCell (by simp) _).setCell (by simp) _).setCell (by simp) _).setCell (by simp) _)⟩

set_option maxRecDepth 100000 in
set_option maxHeartbeats 3200000 in
theorem rnil_raw (kind : Int) (hkd : kind ≠ 0 ∧ kind ≠ 1 ∧ kind ≠ 2 ∧ kind ≠ 3 ∧ kind ≠ 4 ∧ kind ≠ 6) (n : Int) (w : World)
    (hC : ∀ W : World, Calls Try.prog 29 #[.pointer none, .int .i64 n] W (fun e w' => e = .returned (.tuple #[.string ⟨#[]⟩, .int .i64 6]) ∧ Below W.heap.size W w')) :
    Calls Try.prog 21 #[.pointer none, .agg #[.int .i64 kind, .int .i64 n]] w (NilPost w zeroItem) := by
  have HC := Lib.hid hC
  have HBW := Lib.hid (rdW_below w kind n)
  have HB1 := Lib.hid (rdW_1 w kind n)
  have HB2 := Lib.hid (rdW_2 w kind n)
  obtain ⟨q0, q1, q2, q3, q4, q6⟩ := hkd
  have g0 : (kind == 0) = false := by rw [beq_eq_false_iff_ne]; exact q0
  have g1 : (kind == 1) = false := by rw [beq_eq_false_iff_ne]; exact q1
  have g2 : (kind == 2) = false := by rw [beq_eq_false_iff_ne]; exact q2
  have g3 : (kind == 3) = false := by rw [beq_eq_false_iff_ne]; exact q3
  have g4 : (kind == 4) = false := by rw [beq_eq_false_iff_ne]; exact q4
  have g6 : (kind == 6) = false := by rw [beq_eq_false_iff_ne]; exact q6
  clear q0 q1 q2 q3 q4 q6
  clear hC
  go_enter Try.func21, Try.ntmps21
  go_wp2_with fail
  refine (HC.out _).mono ?_
  rintro e w1 ⟨rfl, hb1⟩
  have hfb : Blk w1 (w.heap.size + 1) 35 zcells := Blk.below HB1.out hb1 (by simp only [World.size_alloc]; omega)
  have hdb : Blk w1 (w.heap.size + 1 + 1) 35 zcells := Blk.below HB2.out hb1 (by simp only [World.size_alloc]; omega)
  have HBB := Lib.hid (HBW.out.trans (hb1.mono (by simp only [World.size_alloc]; omega)))
  clear hb1
  have f0 : w1.cell? ⟨w.heap.size + 1, 0, none⟩ = some (.int .i64 0) := hfb.cell 0
  have fz0 : w1.frozen? ⟨w.heap.size + 1, 0, none⟩ = false := hfb.frozen 0
  have f1 : w1.cell? ⟨w.heap.size + 1, 1, none⟩ = some (.int .i64 0) := hfb.cell 1
  have fz1 : w1.frozen? ⟨w.heap.size + 1, 1, none⟩ = false := hfb.frozen 1
  have f2 : w1.cell? ⟨w.heap.size + 1, 2, none⟩ = some (.int .i64 0) := hfb.cell 2
  have fz2 : w1.frozen? ⟨w.heap.size + 1, 2, none⟩ = false := hfb.frozen 2
  have f3 : w1.cell? ⟨w.heap.size + 1, 3, none⟩ = some (.string ⟨#[]⟩) := hfb.cell 3
  have fz3 : w1.frozen? ⟨w.heap.size + 1, 3, none⟩ = false := hfb.frozen 3
  have f4 : w1.cell? ⟨w.heap.size + 1, 4, none⟩ = some (.slice none 0 0) := hfb.cell 4
  have fz4 : w1.frozen? ⟨w.heap.size + 1, 4, none⟩ = false := hfb.frozen 4
  have d0 : w1.cell? ⟨w.heap.size + 1 + 1, 0, none⟩ = some (.int .i64 0) := hdb.cell 0
  have dz0 : w1.frozen? ⟨w.heap.size + 1 + 1, 0, none⟩ = false := hdb.frozen 0
  have d1 : w1.cell? ⟨w.heap.size + 1 + 1, 1, none⟩ = some (.int .i64 0) := hdb.cell 1
  have dz1 : w1.frozen? ⟨w.heap.size + 1 + 1, 1, none⟩ = false := hdb.frozen 1
  have d2 : w1.cell? ⟨w.heap.size + 1 + 1, 2, none⟩ = some (.int .i64 0) := hdb.cell 2
  have dz2 : w1.frozen? ⟨w.heap.size + 1 + 1, 2, none⟩ = false := hdb.frozen 2
  have d3 : w1.cell? ⟨w.heap.size + 1 + 1, 3, none⟩ = some (.string ⟨#[]⟩) := hdb.cell 3
  have dz3 : w1.frozen? ⟨w.heap.size + 1 + 1, 3, none⟩ = false := hdb.frozen 3
  have d4 : w1.cell? ⟨w.heap.size + 1 + 1, 4, none⟩ = some (.slice none 0 0) := hdb.cell 4
  have dz4 : w1.frozen? ⟨w.heap.size + 1 + 1, 4, none⟩ = false := hdb.frozen 4
  go_wp2_with fail
  (try simp only [Exit.inBlock, Exit.then])
  exact bodyPost_ret (f21_results _ _ (w.heap.size + 1) _ _ _ _ _ _ rfl rfl ((((((hfb.far (p := ⟨w.heap.size + 1 + 1, 3, none⟩) (by simp) _).set_ 0 _).set_ 1 _).set_ 2 _).set_ 3 _).set_ 4 _)) rfl ⟨rfl, ((((((HBB.out.setCell (by simp; omega) _).setCell (by simp) _).setCell (by simp) _).setCell (by simp) _).setCell (by simp) _).setCell (by simp) _)⟩

theorem rnil_any (kind n : Int) (w : World) : Calls Try.prog 21 #[.pointer none, .agg #[.int .i64 kind, .int .i64 n]] w (NilPost w zeroItem) := by
  by_cases q0 : kind = 0
  · subst q0; exact rnil_k0 n w fun W => Little_rnil n W
  by_cases q1 : kind = 1
  · subst q1; exact rnil_k1 n w fun W => Signed_rnil n W
  by_cases q2 : kind = 2
  · subst q2; exact rnil_k2 n w fun W => Number_rnil W
  by_cases q3 : kind = 3
  · subst q3; exact rnil_k3 n w fun W => String_rnil n W
  by_cases q6 : kind = 6
  · subst q6; exact rnil_k6 n w fun W => Count_rnil n W
  by_cases q4 : kind = 4
  · subst q4; exact rnil_k4 n w fun W => Bits_rnil n W
  exact rnil_raw kind ⟨q0, q1, q2, q3, q4, q6⟩ n w fun W => Raw_rnil n W
end Go.Proofs.Yteendimoopmakaa
