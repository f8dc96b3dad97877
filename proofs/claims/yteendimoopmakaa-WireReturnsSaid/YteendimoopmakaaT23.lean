/- The law's read of one value: error, place, value. For a reader whose place lies in its string. -/
import Derived.Test.YteendimoopmakaaT22
import Derived.Test.YteendimoopmakaaT21
import Derived.Laws.ResultCell
import Derived.Laws.Rows
namespace Go.Proofs.Yteendimoopmakaa
open Go.RowKit

/-- What a call of a reader leaves, live or stopped: value, error, place. -/
def Got (w : World) (r : Nat) (s : ByteArray) (v : Value) (c : Int) (k : Nat) (e : Ending) (w' : World) : Prop := e = .returned (.tuple #[v, .int .i64 c]) ∧ Rd w w' r s k c
theorem got_live {w w' : World} {r : Nat} {s : ByteArray} {v z : Value} {a k : Nat} {c : Int} {e : Ending} (h : RdCall w r s v z a c k e w') : Got w r s (if c = 0 then v else z) c (if c = 0 then k else a) e w' := h
def zero35 : Obj := .cells #[.int .i64 0, .int .i64 0, .int .i64 0, .string ⟨#[]⟩, .slice none 0 0] 35
def zcells : List Value := [.int .i64 0, .int .i64 0, .int .i64 0, .string ⟨#[]⟩, .slice none 0 0]
def rdW (w : World) (kind n : Int) : World := ((w.alloc (.cells #[.int .i64 kind, .int .i64 n] 45)).alloc zero35).alloc zero35
theorem rdW_below (w : World) (kind n : Int) : Below w.heap.size w (rdW w kind n) := (((Below.refl _ _).alloc (Nat.le_refl _) _).alloc (by simp) _).alloc (by simp; omega) _
theorem rdW_1 (w : World) (kind n : Int) : Blk (rdW w kind n) (w.heap.size + 1) 35 zcells := by
  have := (Blk.new (w.alloc (.cells #[.int .i64 kind, .int .i64 n] 45)) 35 zcells).alloc zero35
  rw [show (w.alloc (.cells #[.int .i64 kind, .int .i64 n] 45)).heap.size = w.heap.size + 1 by simp] at this
  exact this
theorem rdW_2 (w : World) (kind n : Int) : Blk (rdW w kind n) (w.heap.size + 1 + 1) 35 zcells := by
  have := (Blk.new ((w.alloc (.cells #[.int .i64 kind, .int .i64 n] 45)).alloc zero35) 35 zcells)
  rw [show ((w.alloc (.cells #[.int .i64 kind, .int .i64 n] 45)).alloc zero35).heap.size = w.heap.size + 1 + 1 by simp] at this
  exact this
theorem blk_kept {W w1 : World} {b t r : Nat} {cs : List Value} (h : Blk W b t cs) (hg : W.grownBy w1 (some r)) (hne : b ≠ r) : Blk w1 b t cs := by
  unfold Blk at *
  rw [hg.block b (Array.getElem?_eq_some_iff.1 h).1 (by simpa using hne)]
  exact h
theorem rd_over {w w1 w2 : World} {r : Nat} {s : ByteArray} {k : Nat} {c : Int} (h : Rd w w1 r s k c) (hb : Below w.heap.size w1 w2) (hr : r < w.heap.size) : Rd w w2 r s k c := by
  have hg : w1.grownBy w2 none → True := fun _ => trivial
  refine ⟨Blk.below h.1 hb hr, ⟨hb.os.trans h.2.os, hb.tape.trans h.2.tape, hb.output.trans h.2.output, Nat.le_trans h.2.size hb.size, fun i hi hne => (hb.block i hi).trans (h.2.block i hi hne)⟩⟩
theorem f21_results (tmps : Array Value) (w : World) (g : Nat) (c0 c1 c2 c3 c4 x : Value) (h4 : tmps.getD 4 undef = .pointer (some ⟨g, 0, none⟩)) (h5 : tmps.getD 5 undef = x) (hB : Blk w g 35 [c0, c1, c2, c3, c4]) :
    (results Try.f21 tmps).run Try.prog w = .ok (.tuple #[.agg #[c0, c1, c2, c3, c4], x]) w := by
  rw [results_cell_tmp (p := 4) (u := 5) (ty := 35) rfl, h4, h5]
  have := run_loadVar_row (P := Try.prog) w g 35 35 #[c0, c1, c2, c3, c4] (0, 0) _ hB Try.underlying35 rfl (by kernel_rfl)
  simp [asAddr, this, Result.andThen]


set_option maxRecDepth 100000 in
set_option maxHeartbeats 3200000 in
theorem read_k0 (n : Int) (r : Nat) (s : ByteArray) (a k : Nat) (c0 c : Int) (N : Int) (w : World) (h : RdAt w r s a c0)
    (hC : ∀ W, RdAt W r s a c0 → Calls Try.prog 44 #[.pointer (some ⟨r, 0, none⟩), .int .i64 n] W (Got W r s (.int .i64 N) c k)) :
    Calls Try.prog 21 #[.pointer (some ⟨r, 0, none⟩), .agg #[.int .i64 0, .int .i64 n]] w (Got w r s (.agg #[.int .i64 0, .int .i64 0, .int .i64 N, .string ⟨#[]⟩, .slice none 0 0]) c k) := by
  have HC := Lib.hid hC
  have HBW := Lib.hid (rdW_below w 0 n)
  have HR := Lib.hid (Blk.below h (rdW_below w 0 n) (Blk.lt h))
  have hlt := Blk.lt h
  have HB1 := Lib.hid (rdW_1 w 0 n)
  have HB2 := Lib.hid (rdW_2 w 0 n)
  clear hC
  go_enter Try.func21, Try.ntmps21
  go_wp2_with fail
  refine (HC.out _ (by exact HR.out)).mono ?_
  rintro e w1 ⟨rfl, hr1⟩
  have hfb : Blk w1 (w.heap.size + 1) 35 zcells := blk_kept HB1.out hr1.2 (by omega)
  have hdb : Blk w1 (w.heap.size + 1 + 1) 35 zcells := blk_kept HB2.out hr1.2 (by omega)
  have f0 : w1.cell? ⟨w.heap.size + 1, 0, none⟩ = some (.int .i64 0) := hfb.cell 0
  have fz0 : w1.frozen? ⟨w.heap.size + 1, 0, none⟩ = false := hfb.frozen 0
  have f1 : w1.cell? ⟨w.heap.size + 1, 1, none⟩ = some (.int .i64 0) := hfb.cell 1
  have fz1 : w1.frozen? ⟨w.heap.size + 1, 1, none⟩ = false := hfb.frozen 1
  have f2 : w1.cell? ⟨w.heap.size + 1, 2, none⟩ = some (.int .i64 0) := hfb.cell 2
  have fz2 : w1.frozen? ⟨w.heap.size + 1, 2, none⟩ = false := hfb.frozen 2
  have f3 : w1.cell? ⟨w.heap.size + 1, 3, none⟩ = some (.string ⟨#[]⟩) := hfb.cell 3
  have fz3 : w1.frozen? ⟨w.heap.size + 1, 3, none⟩ = false := hfb.frozen 3
  have f4 : w1.cell? ⟨w.heap.size + 1, 4, none⟩ = some (.slice none 0 0) := hfb.cell 4
  have fz4 : w1.frozen? ⟨w.heap.size + 1, 4, none⟩ = false := hfb.frozen 4
  have d0 : w1.cell? ⟨w.heap.size + 1 + 1, 0, none⟩ = some (.int .i64 0) := hdb.cell 0
  have dz0 : w1.frozen? ⟨w.heap.size + 1 + 1, 0, none⟩ = false := hdb.frozen 0
  have d1 : w1.cell? ⟨w.heap.size + 1 + 1, 1, none⟩ = some (.int .i64 0) := hdb.cell 1
  have dz1 : w1.frozen? ⟨w.heap.size + 1 + 1, 1, none⟩ = false := hdb.frozen 1
  have d2 : w1.cell? ⟨w.heap.size + 1 + 1, 2, none⟩ = some (.int .i64 0) := hdb.cell 2
  have dz2 : w1.frozen? ⟨w.heap.size + 1 + 1, 2, none⟩ = false := hdb.frozen 2
  have d3 : w1.cell? ⟨w.heap.size + 1 + 1, 3, none⟩ = some (.string ⟨#[]⟩) := hdb.cell 3
  have dz3 : w1.frozen? ⟨w.heap.size + 1 + 1, 3, none⟩ = false := hdb.frozen 3
  have d4 : w1.cell? ⟨w.heap.size + 1 + 1, 4, none⟩ = some (.slice none 0 0) := hdb.cell 4
  have dz4 : w1.frozen? ⟨w.heap.size + 1 + 1, 4, none⟩ = false := hdb.frozen 4
  go_wp2_with fail
  (try simp only [Exit.inBlock, Exit.then])
  refine bodyPost_ret (f21_results _ _ (w.heap.size + 1) _ _ _ _ _ _ rfl rfl ((((((hfb.far (p := ⟨w.heap.size + 1 + 1, 2, none⟩) (by simp) _).set_ 0 _).set_ 1 _).set_ 2 _).set_ 3 _).set_ 4 _)) rfl ⟨rfl, ?_⟩
  exact rd_over (rd_ext HBW.out (by exact hr1)) ((((((((Below.refl _ _).setCell (by simp; omega) _).setCell (by simp) _).setCell (by simp) _).setCell (by simp) _).setCell (by simp) _).setCell (by simp) _)) hlt


set_option maxRecDepth 100000 in
set_option maxHeartbeats 3200000 in
theorem read_k1 (n : Int) (r : Nat) (s : ByteArray) (a k : Nat) (c0 c : Int) (N : Int) (w : World) (h : RdAt w r s a c0)
    (hC : ∀ W, RdAt W r s a c0 → Calls Try.prog 45 #[.pointer (some ⟨r, 0, none⟩), .int .i64 n] W (Got W r s (.int .i64 N) c k)) :
    Calls Try.prog 21 #[.pointer (some ⟨r, 0, none⟩), .agg #[.int .i64 1, .int .i64 n]] w (Got w r s (.agg #[.int .i64 0, .int .i64 0, .int .i64 N, .string ⟨#[]⟩, .slice none 0 0]) c k) := by
  have HC := Lib.hid hC
  have HBW := Lib.hid (rdW_below w 1 n)
  have HR := Lib.hid (Blk.below h (rdW_below w 1 n) (Blk.lt h))
  have hlt := Blk.lt h
  have HB1 := Lib.hid (rdW_1 w 1 n)
  have HB2 := Lib.hid (rdW_2 w 1 n)
  clear hC
  go_enter Try.func21, Try.ntmps21
  go_wp2_with fail
  refine (HC.out _ (by exact HR.out)).mono ?_
  rintro e w1 ⟨rfl, hr1⟩
  have hfb : Blk w1 (w.heap.size + 1) 35 zcells := blk_kept HB1.out hr1.2 (by omega)
  have hdb : Blk w1 (w.heap.size + 1 + 1) 35 zcells := blk_kept HB2.out hr1.2 (by omega)
  have f0 : w1.cell? ⟨w.heap.size + 1, 0, none⟩ = some (.int .i64 0) := hfb.cell 0
  have fz0 : w1.frozen? ⟨w.heap.size + 1, 0, none⟩ = false := hfb.frozen 0
  have f1 : w1.cell? ⟨w.heap.size + 1, 1, none⟩ = some (.int .i64 0) := hfb.cell 1
  have fz1 : w1.frozen? ⟨w.heap.size + 1, 1, none⟩ = false := hfb.frozen 1
  have f2 : w1.cell? ⟨w.heap.size + 1, 2, none⟩ = some (.int .i64 0) := hfb.cell 2
  have fz2 : w1.frozen? ⟨w.heap.size + 1, 2, none⟩ = false := hfb.frozen 2
  have f3 : w1.cell? ⟨w.heap.size + 1, 3, none⟩ = some (.string ⟨#[]⟩) := hfb.cell 3
  have fz3 : w1.frozen? ⟨w.heap.size + 1, 3, none⟩ = false := hfb.frozen 3
  have f4 : w1.cell? ⟨w.heap.size + 1, 4, none⟩ = some (.slice none 0 0) := hfb.cell 4
  have fz4 : w1.frozen? ⟨w.heap.size + 1, 4, none⟩ = false := hfb.frozen 4
  have d0 : w1.cell? ⟨w.heap.size + 1 + 1, 0, none⟩ = some (.int .i64 0) := hdb.cell 0
  have dz0 : w1.frozen? ⟨w.heap.size + 1 + 1, 0, none⟩ = false := hdb.frozen 0
  have d1 : w1.cell? ⟨w.heap.size + 1 + 1, 1, none⟩ = some (.int .i64 0) := hdb.cell 1
  have dz1 : w1.frozen? ⟨w.heap.size + 1 + 1, 1, none⟩ = false := hdb.frozen 1
  have d2 : w1.cell? ⟨w.heap.size + 1 + 1, 2, none⟩ = some (.int .i64 0) := hdb.cell 2
  have dz2 : w1.frozen? ⟨w.heap.size + 1 + 1, 2, none⟩ = false := hdb.frozen 2
  have d3 : w1.cell? ⟨w.heap.size + 1 + 1, 3, none⟩ = some (.string ⟨#[]⟩) := hdb.cell 3
  have dz3 : w1.frozen? ⟨w.heap.size + 1 + 1, 3, none⟩ = false := hdb.frozen 3
  have d4 : w1.cell? ⟨w.heap.size + 1 + 1, 4, none⟩ = some (.slice none 0 0) := hdb.cell 4
  have dz4 : w1.frozen? ⟨w.heap.size + 1 + 1, 4, none⟩ = false := hdb.frozen 4
  go_wp2_with fail
  (try simp only [Exit.inBlock, Exit.then])
  refine bodyPost_ret (f21_results _ _ (w.heap.size + 1) _ _ _ _ _ _ rfl rfl ((((((hfb.far (p := ⟨w.heap.size + 1 + 1, 2, none⟩) (by simp) _).set_ 0 _).set_ 1 _).set_ 2 _).set_ 3 _).set_ 4 _)) rfl ⟨rfl, ?_⟩
  exact rd_over (rd_ext HBW.out (by exact hr1)) ((((((((Below.refl _ _).setCell (by simp; omega) _).setCell (by simp) _).setCell (by simp) _).setCell (by simp) _).setCell (by simp) _).setCell (by simp) _)) hlt


set_option maxRecDepth 100000 in
set_option maxHeartbeats 3200000 in
theorem read_k2 (n : Int) (r : Nat) (s : ByteArray) (a k : Nat) (c0 c : Int) (N : Int) (w : World) (h : RdAt w r s a c0)
    (hC : ∀ W, RdAt W r s a c0 → Calls Try.prog 32 #[.pointer (some ⟨r, 0, none⟩)] W (Got W r s (.int .i64 N) c k)) :
    Calls Try.prog 21 #[.pointer (some ⟨r, 0, none⟩), .agg #[.int .i64 2, .int .i64 n]] w (Got w r s (.agg #[.int .i64 0, .int .i64 0, .int .i64 N, .string ⟨#[]⟩, .slice none 0 0]) c k) := by
  have HC := Lib.hid hC
  have HBW := Lib.hid (rdW_below w 2 n)
  have HR := Lib.hid (Blk.below h (rdW_below w 2 n) (Blk.lt h))
  have hlt := Blk.lt h
  have HB1 := Lib.hid (rdW_1 w 2 n)
  have HB2 := Lib.hid (rdW_2 w 2 n)
  clear hC
  go_enter Try.func21, Try.ntmps21
  go_wp2_with fail
  refine (HC.out _ (by exact HR.out)).mono ?_
  rintro e w1 ⟨rfl, hr1⟩
  have hfb : Blk w1 (w.heap.size + 1) 35 zcells := blk_kept HB1.out hr1.2 (by omega)
  have hdb : Blk w1 (w.heap.size + 1 + 1) 35 zcells := blk_kept HB2.out hr1.2 (by omega)
  have f0 : w1.cell? ⟨w.heap.size + 1, 0, none⟩ = some (.int .i64 0) := hfb.cell 0
  have fz0 : w1.frozen? ⟨w.heap.size + 1, 0, none⟩ = false := hfb.frozen 0
  have f1 : w1.cell? ⟨w.heap.size + 1, 1, none⟩ = some (.int .i64 0) := hfb.cell 1
  have fz1 : w1.frozen? ⟨w.heap.size + 1, 1, none⟩ = false := hfb.frozen 1
  have f2 : w1.cell? ⟨w.heap.size + 1, 2, none⟩ = some (.int .i64 0) := hfb.cell 2
  have fz2 : w1.frozen? ⟨w.heap.size + 1, 2, none⟩ = false := hfb.frozen 2
  have f3 : w1.cell? ⟨w.heap.size + 1, 3, none⟩ = some (.string ⟨#[]⟩) := hfb.cell 3
  have fz3 : w1.frozen? ⟨w.heap.size + 1, 3, none⟩ = false := hfb.frozen 3
  have f4 : w1.cell? ⟨w.heap.size + 1, 4, none⟩ = some (.slice none 0 0) := hfb.cell 4
  have fz4 : w1.frozen? ⟨w.heap.size + 1, 4, none⟩ = false := hfb.frozen 4
  have d0 : w1.cell? ⟨w.heap.size + 1 + 1, 0, none⟩ = some (.int .i64 0) := hdb.cell 0
  have dz0 : w1.frozen? ⟨w.heap.size + 1 + 1, 0, none⟩ = false := hdb.frozen 0
  have d1 : w1.cell? ⟨w.heap.size + 1 + 1, 1, none⟩ = some (.int .i64 0) := hdb.cell 1
  have dz1 : w1.frozen? ⟨w.heap.size + 1 + 1, 1, none⟩ = false := hdb.frozen 1
  have d2 : w1.cell? ⟨w.heap.size + 1 + 1, 2, none⟩ = some (.int .i64 0) := hdb.cell 2
  have dz2 : w1.frozen? ⟨w.heap.size + 1 + 1, 2, none⟩ = false := hdb.frozen 2
  have d3 : w1.cell? ⟨w.heap.size + 1 + 1, 3, none⟩ = some (.string ⟨#[]⟩) := hdb.cell 3
  have dz3 : w1.frozen? ⟨w.heap.size + 1 + 1, 3, none⟩ = false := hdb.frozen 3
  have d4 : w1.cell? ⟨w.heap.size + 1 + 1, 4, none⟩ = some (.slice none 0 0) := hdb.cell 4
  have dz4 : w1.frozen? ⟨w.heap.size + 1 + 1, 4, none⟩ = false := hdb.frozen 4
  go_wp2_with fail
  (try simp only [Exit.inBlock, Exit.then])
  refine bodyPost_ret (f21_results _ _ (w.heap.size + 1) _ _ _ _ _ _ rfl rfl ((((((hfb.far (p := ⟨w.heap.size + 1 + 1, 2, none⟩) (by simp) _).set_ 0 _).set_ 1 _).set_ 2 _).set_ 3 _).set_ 4 _)) rfl ⟨rfl, ?_⟩
  exact rd_over (rd_ext HBW.out (by exact hr1)) ((((((((Below.refl _ _).setCell (by simp; omega) _).setCell (by simp) _).setCell (by simp) _).setCell (by simp) _).setCell (by simp) _).setCell (by simp) _)) hlt


set_option maxRecDepth 100000 in
set_option maxHeartbeats 3200000 in
theorem read_k3 (n : Int) (r : Nat) (s : ByteArray) (a k : Nat) (c0 c : Int) (S : ByteArray) (w : World) (h : RdAt w r s a c0)
    (hC : ∀ W, RdAt W r s a c0 → Calls Try.prog 46 #[.pointer (some ⟨r, 0, none⟩), .int .i64 n] W (Got W r s (.string S) c k)) :
    Calls Try.prog 21 #[.pointer (some ⟨r, 0, none⟩), .agg #[.int .i64 3, .int .i64 n]] w (Got w r s (.agg #[.int .i64 0, .int .i64 0, .int .i64 0, .string S, .slice none 0 0]) c k) := by
  have HC := Lib.hid hC
  have HBW := Lib.hid (rdW_below w 3 n)
  have HR := Lib.hid (Blk.below h (rdW_below w 3 n) (Blk.lt h))
  have hlt := Blk.lt h
  have HB1 := Lib.hid (rdW_1 w 3 n)
  have HB2 := Lib.hid (rdW_2 w 3 n)
  clear hC
  go_enter Try.func21, Try.ntmps21
  go_wp2_with fail
  refine (HC.out _ (by exact HR.out)).mono ?_
  rintro e w1 ⟨rfl, hr1⟩
  have hfb : Blk w1 (w.heap.size + 1) 35 zcells := blk_kept HB1.out hr1.2 (by omega)
  have hdb : Blk w1 (w.heap.size + 1 + 1) 35 zcells := blk_kept HB2.out hr1.2 (by omega)
  have f0 : w1.cell? ⟨w.heap.size + 1, 0, none⟩ = some (.int .i64 0) := hfb.cell 0
  have fz0 : w1.frozen? ⟨w.heap.size + 1, 0, none⟩ = false := hfb.frozen 0
  have f1 : w1.cell? ⟨w.heap.size + 1, 1, none⟩ = some (.int .i64 0) := hfb.cell 1
  have fz1 : w1.frozen? ⟨w.heap.size + 1, 1, none⟩ = false := hfb.frozen 1
  have f2 : w1.cell? ⟨w.heap.size + 1, 2, none⟩ = some (.int .i64 0) := hfb.cell 2
  have fz2 : w1.frozen? ⟨w.heap.size + 1, 2, none⟩ = false := hfb.frozen 2
  have f3 : w1.cell? ⟨w.heap.size + 1, 3, none⟩ = some (.string ⟨#[]⟩) := hfb.cell 3
  have fz3 : w1.frozen? ⟨w.heap.size + 1, 3, none⟩ = false := hfb.frozen 3
  have f4 : w1.cell? ⟨w.heap.size + 1, 4, none⟩ = some (.slice none 0 0) := hfb.cell 4
  have fz4 : w1.frozen? ⟨w.heap.size + 1, 4, none⟩ = false := hfb.frozen 4
  have d0 : w1.cell? ⟨w.heap.size + 1 + 1, 0, none⟩ = some (.int .i64 0) := hdb.cell 0
  have dz0 : w1.frozen? ⟨w.heap.size + 1 + 1, 0, none⟩ = false := hdb.frozen 0
  have d1 : w1.cell? ⟨w.heap.size + 1 + 1, 1, none⟩ = some (.int .i64 0) := hdb.cell 1
  have dz1 : w1.frozen? ⟨w.heap.size + 1 + 1, 1, none⟩ = false := hdb.frozen 1
  have d2 : w1.cell? ⟨w.heap.size + 1 + 1, 2, none⟩ = some (.int .i64 0) := hdb.cell 2
  have dz2 : w1.frozen? ⟨w.heap.size + 1 + 1, 2, none⟩ = false := hdb.frozen 2
  have d3 : w1.cell? ⟨w.heap.size + 1 + 1, 3, none⟩ = some (.string ⟨#[]⟩) := hdb.cell 3
  have dz3 : w1.frozen? ⟨w.heap.size + 1 + 1, 3, none⟩ = false := hdb.frozen 3
  have d4 : w1.cell? ⟨w.heap.size + 1 + 1, 4, none⟩ = some (.slice none 0 0) := hdb.cell 4
  have dz4 : w1.frozen? ⟨w.heap.size + 1 + 1, 4, none⟩ = false := hdb.frozen 4
  go_wp2_with fail
  (try simp only [Exit.inBlock, Exit.then])
  refine bodyPost_ret (f21_results _ _ (w.heap.size + 1) _ _ _ _ _ _ rfl rfl ((((((hfb.far (p := ⟨w.heap.size + 1 + 1, 3, none⟩) (by simp) _).set_ 0 _).set_ 1 _).set_ 2 _).set_ 3 _).set_ 4 _)) rfl ⟨rfl, ?_⟩
  exact rd_over (rd_ext HBW.out (by exact hr1)) ((((((((Below.refl _ _).setCell (by simp; omega) _).setCell (by simp) _).setCell (by simp) _).setCell (by simp) _).setCell (by simp) _).setCell (by simp) _)) hlt


set_option maxRecDepth 100000 in
set_option maxHeartbeats 3200000 in
theorem read_k6 (n : Int) (r : Nat) (s : ByteArray) (a k : Nat) (c0 c : Int) (N : Int) (w : World) (h : RdAt w r s a c0)
    (hC : ∀ W, RdAt W r s a c0 → Calls Try.prog 48 #[.pointer (some ⟨r, 0, none⟩), .int .i64 n] W (Got W r s (.int .i64 N) c k)) :
    Calls Try.prog 21 #[.pointer (some ⟨r, 0, none⟩), .agg #[.int .i64 6, .int .i64 n]] w (Got w r s (.agg #[.int .i64 0, .int .i64 0, .int .i64 N, .string ⟨#[]⟩, .slice none 0 0]) c k) := by
  have HC := Lib.hid hC
  have HBW := Lib.hid (rdW_below w 6 n)
  have HR := Lib.hid (Blk.below h (rdW_below w 6 n) (Blk.lt h))
  have hlt := Blk.lt h
  have HB1 := Lib.hid (rdW_1 w 6 n)
  have HB2 := Lib.hid (rdW_2 w 6 n)
  clear hC
  go_enter Try.func21, Try.ntmps21
  go_wp2_with fail
  refine (HC.out _ (by exact HR.out)).mono ?_
  rintro e w1 ⟨rfl, hr1⟩
  have hfb : Blk w1 (w.heap.size + 1) 35 zcells := blk_kept HB1.out hr1.2 (by omega)
  have hdb : Blk w1 (w.heap.size + 1 + 1) 35 zcells := blk_kept HB2.out hr1.2 (by omega)
  have f0 : w1.cell? ⟨w.heap.size + 1, 0, none⟩ = some (.int .i64 0) := hfb.cell 0
  have fz0 : w1.frozen? ⟨w.heap.size + 1, 0, none⟩ = false := hfb.frozen 0
  have f1 : w1.cell? ⟨w.heap.size + 1, 1, none⟩ = some (.int .i64 0) := hfb.cell 1
  have fz1 : w1.frozen? ⟨w.heap.size + 1, 1, none⟩ = false := hfb.frozen 1
  have f2 : w1.cell? ⟨w.heap.size + 1, 2, none⟩ = some (.int .i64 0) := hfb.cell 2
  have fz2 : w1.frozen? ⟨w.heap.size + 1, 2, none⟩ = false := hfb.frozen 2
  have f3 : w1.cell? ⟨w.heap.size + 1, 3, none⟩ = some (.string ⟨#[]⟩) := hfb.cell 3
  have fz3 : w1.frozen? ⟨w.heap.size + 1, 3, none⟩ = false := hfb.frozen 3
  have f4 : w1.cell? ⟨w.heap.size + 1, 4, none⟩ = some (.slice none 0 0) := hfb.cell 4
  have fz4 : w1.frozen? ⟨w.heap.size + 1, 4, none⟩ = false := hfb.frozen 4
  have d0 : w1.cell? ⟨w.heap.size + 1 + 1, 0, none⟩ = some (.int .i64 0) := hdb.cell 0
  have dz0 : w1.frozen? ⟨w.heap.size + 1 + 1, 0, none⟩ = false := hdb.frozen 0
  have d1 : w1.cell? ⟨w.heap.size + 1 + 1, 1, none⟩ = some (.int .i64 0) := hdb.cell 1
  have dz1 : w1.frozen? ⟨w.heap.size + 1 + 1, 1, none⟩ = false := hdb.frozen 1
  have d2 : w1.cell? ⟨w.heap.size + 1 + 1, 2, none⟩ = some (.int .i64 0) := hdb.cell 2
  have dz2 : w1.frozen? ⟨w.heap.size + 1 + 1, 2, none⟩ = false := hdb.frozen 2
  have d3 : w1.cell? ⟨w.heap.size + 1 + 1, 3, none⟩ = some (.string ⟨#[]⟩) := hdb.cell 3
  have dz3 : w1.frozen? ⟨w.heap.size + 1 + 1, 3, none⟩ = false := hdb.frozen 3
  have d4 : w1.cell? ⟨w.heap.size + 1 + 1, 4, none⟩ = some (.slice none 0 0) := hdb.cell 4
  have dz4 : w1.frozen? ⟨w.heap.size + 1 + 1, 4, none⟩ = false := hdb.frozen 4
  go_wp2_with fail
  (try simp only [Exit.inBlock, Exit.then])
  refine bodyPost_ret (f21_results _ _ (w.heap.size + 1) _ _ _ _ _ _ rfl rfl ((((((hfb.far (p := ⟨w.heap.size + 1 + 1, 2, none⟩) (by simp) _).set_ 0 _).set_ 1 _).set_ 2 _).set_ 3 _).set_ 4 _)) rfl ⟨rfl, ?_⟩
  exact rd_over (rd_ext HBW.out (by exact hr1)) ((((((((Below.refl _ _).setCell (by simp; omega) _).setCell (by simp) _).setCell (by simp) _).setCell (by simp) _).setCell (by simp) _).setCell (by simp) _)) hlt


set_option maxRecDepth 100000 in
set_option maxHeartbeats 3200000 in
theorem read_raw (kind : Int) (hkd : kind ≠ 0 ∧ kind ≠ 1 ∧ kind ≠ 2 ∧ kind ≠ 3 ∧ kind ≠ 4 ∧ kind ≠ 6) (n : Int) (r : Nat) (s : ByteArray) (a k : Nat) (c0 c : Int) (S : ByteArray) (w : World) (h : RdAt w r s a c0)
    (hC : ∀ W, RdAt W r s a c0 → Calls Try.prog 29 #[.pointer (some ⟨r, 0, none⟩), .int .i64 n] W (Got W r s (.string S) c k)) :
    Calls Try.prog 21 #[.pointer (some ⟨r, 0, none⟩), .agg #[.int .i64 kind, .int .i64 n]] w (Got w r s (.agg #[.int .i64 0, .int .i64 0, .int .i64 0, .string S, .slice none 0 0]) c k) := by
  have HC := Lib.hid hC
  have HBW := Lib.hid (rdW_below w kind n)
  have HR := Lib.hid (Blk.below h (rdW_below w kind n) (Blk.lt h))
  have hlt := Blk.lt h
  have HB1 := Lib.hid (rdW_1 w kind n)
  have HB2 := Lib.hid (rdW_2 w kind n)
  obtain ⟨q0, q1, q2, q3, q4, q6⟩ := hkd
  have g0 : (kind == 0) = false := by rw [beq_eq_false_iff_ne]; exact q0
  have g1 : (kind == 1) = false := by rw [beq_eq_false_iff_ne]; exact q1
  have g2 : (kind == 2) = false := by rw [beq_eq_false_iff_ne]; exact q2
  have g3 : (kind == 3) = false := by rw [beq_eq_false_iff_ne]; exact q3
  have g4 : (kind == 4) = false := by rw [beq_eq_false_iff_ne]; exact q4
  have g6 : (kind == 6) = false := by rw [beq_eq_false_iff_ne]; exact q6
  clear q0 q1 q2 q3 q4 q6
  clear hC
  go_enter Try.func21, Try.ntmps21
  go_wp2_with fail
  refine (HC.out _ (by exact HR.out)).mono ?_
  rintro e w1 ⟨rfl, hr1⟩
  have hfb : Blk w1 (w.heap.size + 1) 35 zcells := blk_kept HB1.out hr1.2 (by omega)
  have hdb : Blk w1 (w.heap.size + 1 + 1) 35 zcells := blk_kept HB2.out hr1.2 (by omega)
  have f0 : w1.cell? ⟨w.heap.size + 1, 0, none⟩ = some (.int .i64 0) := hfb.cell 0
  have fz0 : w1.frozen? ⟨w.heap.size + 1, 0, none⟩ = false := hfb.frozen 0
  have f1 : w1.cell? ⟨w.heap.size + 1, 1, none⟩ = some (.int .i64 0) := hfb.cell 1
  have fz1 : w1.frozen? ⟨w.heap.size + 1, 1, none⟩ = false := hfb.frozen 1
  have f2 : w1.cell? ⟨w.heap.size + 1, 2, none⟩ = some (.int .i64 0) := hfb.cell 2
  have fz2 : w1.frozen? ⟨w.heap.size + 1, 2, none⟩ = false := hfb.frozen 2
  have f3 : w1.cell? ⟨w.heap.size + 1, 3, none⟩ = some (.string ⟨#[]⟩) := hfb.cell 3
  have fz3 : w1.frozen? ⟨w.heap.size + 1, 3, none⟩ = false := hfb.frozen 3
  have f4 : w1.cell? ⟨w.heap.size + 1, 4, none⟩ = some (.slice none 0 0) := hfb.cell 4
  have fz4 : w1.frozen? ⟨w.heap.size + 1, 4, none⟩ = false := hfb.frozen 4
  have d0 : w1.cell? ⟨w.heap.size + 1 + 1, 0, none⟩ = some (.int .i64 0) := hdb.cell 0
  have dz0 : w1.frozen? ⟨w.heap.size + 1 + 1, 0, none⟩ = false := hdb.frozen 0
  have d1 : w1.cell? ⟨w.heap.size + 1 + 1, 1, none⟩ = some (.int .i64 0) := hdb.cell 1
  have dz1 : w1.frozen? ⟨w.heap.size + 1 + 1, 1, none⟩ = false := hdb.frozen 1
  have d2 : w1.cell? ⟨w.heap.size + 1 + 1, 2, none⟩ = some (.int .i64 0) := hdb.cell 2
  have dz2 : w1.frozen? ⟨w.heap.size + 1 + 1, 2, none⟩ = false := hdb.frozen 2
  have d3 : w1.cell? ⟨w.heap.size + 1 + 1, 3, none⟩ = some (.string ⟨#[]⟩) := hdb.cell 3
  have dz3 : w1.frozen? ⟨w.heap.size + 1 + 1, 3, none⟩ = false := hdb.frozen 3
  have d4 : w1.cell? ⟨w.heap.size + 1 + 1, 4, none⟩ = some (.slice none 0 0) := hdb.cell 4
  have dz4 : w1.frozen? ⟨w.heap.size + 1 + 1, 4, none⟩ = false := hdb.frozen 4
  go_wp2_with fail
  (try simp only [Exit.inBlock, Exit.then])
  refine bodyPost_ret (f21_results _ _ (w.heap.size + 1) _ _ _ _ _ _ rfl rfl ((((((hfb.far (p := ⟨w.heap.size + 1 + 1, 3, none⟩) (by simp) _).set_ 0 _).set_ 1 _).set_ 2 _).set_ 3 _).set_ 4 _)) rfl ⟨rfl, ?_⟩
  exact rd_over (rd_ext HBW.out (by exact hr1)) ((((((((Below.refl _ _).setCell (by simp; omega) _).setCell (by simp) _).setCell (by simp) _).setCell (by simp) _).setCell (by simp) _).setCell (by simp) _)) hlt


set_option maxRecDepth 100000 in
set_option maxHeartbeats 3200000 in
theorem read_k4 (n : Int) (r : Nat) (s : ByteArray) (a k : Nat) (c0 c : Int) (K : Option Addr → Nat → Nat → Prop) (w : World) (h : RdAt w r s a c0)
    (hC : ∀ W, RdAt W r s a c0 → Calls Try.prog 47 #[.pointer (some ⟨r, 0, none⟩), .int .i64 n] W (fun e W' => ∃ so ls cs, Got W r s (.slice so ls cs) c k e W' ∧ K so ls cs)) :
    Calls Try.prog 21 #[.pointer (some ⟨r, 0, none⟩), .agg #[.int .i64 4, .int .i64 n]] w (fun e w' => ∃ so ls cs, Got w r s (.agg #[.int .i64 0, .int .i64 0, .int .i64 0, .string ⟨#[]⟩, .slice so ls cs]) c k e w' ∧ K so ls cs) := by
  have HC := Lib.hid hC
  have HBW := Lib.hid (rdW_below w 4 n)
  have HR := Lib.hid (Blk.below h (rdW_below w 4 n) (Blk.lt h))
  have hlt := Blk.lt h
  have HB1 := Lib.hid (rdW_1 w 4 n)
  have HB2 := Lib.hid (rdW_2 w 4 n)
  clear hC
  go_enter Try.func21, Try.ntmps21
  go_wp2_with fail
  refine (HC.out _ (by exact HR.out)).mono ?_
  rintro e w1 ⟨so, ls, cs, ⟨rfl, hr1⟩, hK⟩
  have hfb : Blk w1 (w.heap.size + 1) 35 zcells := blk_kept HB1.out hr1.2 (by omega)
  have hdb : Blk w1 (w.heap.size + 1 + 1) 35 zcells := blk_kept HB2.out hr1.2 (by omega)
  have f0 : w1.cell? ⟨w.heap.size + 1, 0, none⟩ = some (.int .i64 0) := hfb.cell 0
  have fz0 : w1.frozen? ⟨w.heap.size + 1, 0, none⟩ = false := hfb.frozen 0
  have f1 : w1.cell? ⟨w.heap.size + 1, 1, none⟩ = some (.int .i64 0) := hfb.cell 1
  have fz1 : w1.frozen? ⟨w.heap.size + 1, 1, none⟩ = false := hfb.frozen 1
  have f2 : w1.cell? ⟨w.heap.size + 1, 2, none⟩ = some (.int .i64 0) := hfb.cell 2
  have fz2 : w1.frozen? ⟨w.heap.size + 1, 2, none⟩ = false := hfb.frozen 2
  have f3 : w1.cell? ⟨w.heap.size + 1, 3, none⟩ = some (.string ⟨#[]⟩) := hfb.cell 3
  have fz3 : w1.frozen? ⟨w.heap.size + 1, 3, none⟩ = false := hfb.frozen 3
  have f4 : w1.cell? ⟨w.heap.size + 1, 4, none⟩ = some (.slice none 0 0) := hfb.cell 4
  have fz4 : w1.frozen? ⟨w.heap.size + 1, 4, none⟩ = false := hfb.frozen 4
  have d0 : w1.cell? ⟨w.heap.size + 1 + 1, 0, none⟩ = some (.int .i64 0) := hdb.cell 0
  have dz0 : w1.frozen? ⟨w.heap.size + 1 + 1, 0, none⟩ = false := hdb.frozen 0
  have d1 : w1.cell? ⟨w.heap.size + 1 + 1, 1, none⟩ = some (.int .i64 0) := hdb.cell 1
  have dz1 : w1.frozen? ⟨w.heap.size + 1 + 1, 1, none⟩ = false := hdb.frozen 1
  have d2 : w1.cell? ⟨w.heap.size + 1 + 1, 2, none⟩ = some (.int .i64 0) := hdb.cell 2
  have dz2 : w1.frozen? ⟨w.heap.size + 1 + 1, 2, none⟩ = false := hdb.frozen 2
  have d3 : w1.cell? ⟨w.heap.size + 1 + 1, 3, none⟩ = some (.string ⟨#[]⟩) := hdb.cell 3
  have dz3 : w1.frozen? ⟨w.heap.size + 1 + 1, 3, none⟩ = false := hdb.frozen 3
  have d4 : w1.cell? ⟨w.heap.size + 1 + 1, 4, none⟩ = some (.slice none 0 0) := hdb.cell 4
  have dz4 : w1.frozen? ⟨w.heap.size + 1 + 1, 4, none⟩ = false := hdb.frozen 4
  go_wp2_with fail
  (try simp only [Exit.inBlock, Exit.then])
  refine bodyPost_ret (f21_results _ _ (w.heap.size + 1) _ _ _ _ _ _ rfl rfl ((((((hfb.far (p := ⟨w.heap.size + 1 + 1, 4, none⟩) (by simp) _).set_ 0 _).set_ 1 _).set_ 2 _).set_ 3 _).set_ 4 _)) rfl ⟨so, ls, cs, ⟨rfl, ?_⟩, hK⟩
  exact rd_over (rd_ext HBW.out (by exact hr1)) ((((((((Below.refl _ _).setCell (by simp; omega) _).setCell (by simp) _).setCell (by simp) _).setCell (by simp) _).setCell (by simp) _).setCell (by simp) _)) hlt

end Go.Proofs.Yteendimoopmakaa
