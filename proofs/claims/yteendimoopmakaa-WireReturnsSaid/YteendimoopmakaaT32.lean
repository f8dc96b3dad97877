/- The law's referRead of one value: error, place, value. Conditions stand in each theorem. -/
import Derived.Test.YteendimoopmakaaT31
namespace Go.Proofs.Yteendimoopmakaa
open Go.RowKit

/-- What referRead hands back: value, place, error. -/
def RefItem (w : World) (s : ByteArray) (n : Int) (S : ByteArray) (L : List Bool) (k c : Int) (e : Ending) (w' : World) : Prop :=
  ∃ v, e = .returned (.tuple #[.agg #[.int .i64 0, .int .i64 0, .int .i64 n, .string S, v], .agg #[.string s, .int .i64 k, .int .i64 c]]) ∧ (∃ b, w.heap.size ≤ b ∧ w'.ownsRow b 4 1 v L.length (bools L)) ∧ Below w.heap.size w w'
def zero43 : Obj := .cells #[.string ⟨#[]⟩, .int .i64 0, .int .i64 0] 43
def rfW (w : World) (s : ByteArray) (a c kind n : Int) : World := ((((w.alloc (.cells #[.string s, .int .i64 a, .int .i64 c] 43)).alloc (.cells #[.int .i64 kind, .int .i64 n] 45)).alloc zero35).alloc zero43).alloc zero35
theorem rfW_below (w : World) (s : ByteArray) (a c kind n : Int) : Below w.heap.size w (rfW w s a c kind n) := (((((Below.refl _ _).alloc (Nat.le_refl _) _).alloc (by simp) _).alloc (by simp; omega) _).alloc (by simp; omega) _).alloc (by simp; omega) _
theorem rfW_size (w : World) (s : ByteArray) (a c kind n : Int) : (rfW w s a c kind n).heap.size = w.heap.size + 5 := by simp [rfW]
theorem rfW_0 (w : World) (s : ByteArray) (a c kind n : Int) : Blk (rfW w s a c kind n) w.heap.size 43 [.string s, .int .i64 a, .int .i64 c] := ((((Blk.new w 43 [_, _, _]).alloc _).alloc _).alloc _).alloc _
theorem blk_at {W : World} {g : Nat} (h : W.heap.size = g) (t : TypeId) (cs : List Value) : Blk (W.alloc (.cells cs.toArray t)) g t cs := by subst h; exact Blk.new W t cs
theorem rfW_2 (w : World) (s : ByteArray) (a c kind n : Int) : Blk (rfW w s a c kind n) (w.heap.size + 1 + 1) 35 zcells :=
  ((blk_at (W := (w.alloc (.cells #[.string s, .int .i64 a, .int .i64 c] 43)).alloc (.cells #[.int .i64 kind, .int .i64 n] 45)) (by simp) 35 zcells).alloc _).alloc _
theorem rfW_3 (w : World) (s : ByteArray) (a c kind n : Int) : Blk (rfW w s a c kind n) (w.heap.size + 1 + 1 + 1) 43 [.string ⟨#[]⟩, .int .i64 0, .int .i64 0] :=
  (blk_at (W := ((w.alloc (.cells #[.string s, .int .i64 a, .int .i64 c] 43)).alloc (.cells #[.int .i64 kind, .int .i64 n] 45)).alloc zero35) (by simp) 43 [_, _, _]).alloc _
theorem rfW_4 (w : World) (s : ByteArray) (a c kind n : Int) : Blk (rfW w s a c kind n) (w.heap.size + 1 + 1 + 1 + 1) 35 zcells :=
  blk_at (W := (((w.alloc (.cells #[.string s, .int .i64 a, .int .i64 c] 43)).alloc (.cells #[.int .i64 kind, .int .i64 n] 45)).alloc zero35).alloc zero43) (by simp) 35 zcells
theorem results_cell_cell {fn : Func} {p u : Tmp} {ty ty' : TypeId} (h : fn.results = #[.cell p ty, .cell u ty']) (tmps : Array Value) (P : Program) (w : World) :
    (results fn tmps).run P w =
      ((asAddr (tmps.getD p undef)).run P w).andThen fun a w₁ => ((loadVar ty a).run P w₁).andThen fun v w₂ => ((asAddr (tmps.getD u undef)).run P w₂).andThen fun a' w₃ => ((loadVar ty' a').run P w₃).andThen fun v' w₄ => .ok (.tuple #[v, v']) w₄ := by
  simp only [results, h]
  simp [Sem.run_bind, Result.andThen]
theorem f22_results (tmps : Array Value) (w : World) (g g' : Nat) (c0 c1 c2 c3 c4 : Value) (s : ByteArray) (k c : Int) (h4 : tmps.getD 4 undef = .pointer (some ⟨g, 0, none⟩)) (h5 : tmps.getD 5 undef = .pointer (some ⟨g', 0, none⟩))
    (hB : Blk w g 35 [c0, c1, c2, c3, c4]) (hB' : Blk w g' 43 [.string s, .int .i64 k, .int .i64 c]) :
    (results Try.f22 tmps).run Try.prog w = .ok (.tuple #[.agg #[c0, c1, c2, c3, c4], .agg #[.string s, .int .i64 k, .int .i64 c]]) w := by
  rw [results_cell_cell (p := 4) (u := 5) (ty := 35) (ty' := 43) rfl, h4, h5]
  have := run_loadVar_row (P := Try.prog) w g 35 35 #[c0, c1, c2, c3, c4] (0, 0) _ hB Try.underlying35 rfl (by kernel_rfl)
  have h2 := rr_load w g' s k c hB'
  simp [asAddr, this, h2, Result.andThen]
  rfl
theorem own_shape {w : World} {base e size n : Nat} {v : Value} {xs : List Value} (h : w.ownsRow base e size v n xs) : ∃ so ls cs, v = .slice so ls cs := by
  rcases h.2 with ⟨h1, _⟩ | ⟨g, cap, cur, h1, _⟩
  · exact ⟨_, _, _, h1⟩
  · exact ⟨_, _, _, h1⟩
theorem own_sets {w : World} {base e size n : Nat} {v : Value} {xs : List Value} (h : w.ownsRow base e size v n xs) {g : Nat} (hg : g < base) (i : Nat) (u : Value) : (w.setCell ⟨g, i, none⟩ u).ownsRow base e size v n xs :=
  own_set h (fun e => by have := (h.lt _ e).1; simp at this; omega) u

set_option maxRecDepth 100000 in
set_option maxHeartbeats 3200000 in
theorem rref_k0 (n : Int) (s : ByteArray) (a : Nat) (c0 k c : Int) (N : Int) (w : World)
    (hC : ∀ W, Calls Try.prog 49 #[.agg #[.string s, .int .i64 a, .int .i64 c0], .int .i64 n] W (RefGot W s (.int .i64 N) k c)) :
    Calls Try.prog 22 #[.agg #[.string s, .int .i64 a, .int .i64 c0], .agg #[.int .i64 0, .int .i64 n]] w (RefItem w s N ⟨#[]⟩ [] k c) := by
  have HC := Lib.hid hC
  have HBW := Lib.hid (rfW_below w s a c0 0 n)
  have HB0 := Lib.hid (rfW_0 w s a c0 0 n)
  have HB2 := Lib.hid (rfW_2 w s a c0 0 n)
  have HB3 := Lib.hid (rfW_3 w s a c0 0 n)
  have HB4 := Lib.hid (rfW_4 w s a c0 0 n)
  clear hC
  go_enter Try.func22, Try.ntmps22
  go_wp2_with fail
  refine (HC.out _).mono ?_
  rintro e w1 ⟨rfl, hb1⟩
  have hxb := Blk.below HB0.out hb1 (by simp only [World.size_alloc]; omega)
  have hfb : Blk w1 (w.heap.size + 1 + 1) 35 zcells := Blk.below HB2.out hb1 (by simp only [World.size_alloc]; omega)
  have hrb := Blk.below HB3.out hb1 (by simp only [World.size_alloc]; omega)
  have hdb : Blk w1 (w.heap.size + 1 + 1 + 1 + 1) 35 zcells := Blk.below HB4.out hb1 (by simp only [World.size_alloc]; omega)
  have f0 : w1.cell? ⟨w.heap.size + 1 + 1, 0, none⟩ = some (.int .i64 0) := hfb.cell 0
  have fz0 : w1.frozen? ⟨w.heap.size + 1 + 1, 0, none⟩ = false := hfb.frozen 0
  have f1 : w1.cell? ⟨w.heap.size + 1 + 1, 1, none⟩ = some (.int .i64 0) := hfb.cell 1
  have fz1 : w1.frozen? ⟨w.heap.size + 1 + 1, 1, none⟩ = false := hfb.frozen 1
  have f2 : w1.cell? ⟨w.heap.size + 1 + 1, 2, none⟩ = some (.int .i64 0) := hfb.cell 2
  have fz2 : w1.frozen? ⟨w.heap.size + 1 + 1, 2, none⟩ = false := hfb.frozen 2
  have f3 : w1.cell? ⟨w.heap.size + 1 + 1, 3, none⟩ = some (.string ⟨#[]⟩) := hfb.cell 3
  have fz3 : w1.frozen? ⟨w.heap.size + 1 + 1, 3, none⟩ = false := hfb.frozen 3
  have f4 : w1.cell? ⟨w.heap.size + 1 + 1, 4, none⟩ = some (.slice none 0 0) := hfb.cell 4
  have fz4 : w1.frozen? ⟨w.heap.size + 1 + 1, 4, none⟩ = false := hfb.frozen 4
  have d0 : w1.cell? ⟨w.heap.size + 1 + 1 + 1 + 1, 0, none⟩ = some (.int .i64 0) := hdb.cell 0
  have dz0 : w1.frozen? ⟨w.heap.size + 1 + 1 + 1 + 1, 0, none⟩ = false := hdb.frozen 0
  have d1 : w1.cell? ⟨w.heap.size + 1 + 1 + 1 + 1, 1, none⟩ = some (.int .i64 0) := hdb.cell 1
  have dz1 : w1.frozen? ⟨w.heap.size + 1 + 1 + 1 + 1, 1, none⟩ = false := hdb.frozen 1
  have d2 : w1.cell? ⟨w.heap.size + 1 + 1 + 1 + 1, 2, none⟩ = some (.int .i64 0) := hdb.cell 2
  have dz2 : w1.frozen? ⟨w.heap.size + 1 + 1 + 1 + 1, 2, none⟩ = false := hdb.frozen 2
  have d3 : w1.cell? ⟨w.heap.size + 1 + 1 + 1 + 1, 3, none⟩ = some (.string ⟨#[]⟩) := hdb.cell 3
  have dz3 : w1.frozen? ⟨w.heap.size + 1 + 1 + 1 + 1, 3, none⟩ = false := hdb.frozen 3
  have d4 : w1.cell? ⟨w.heap.size + 1 + 1 + 1 + 1, 4, none⟩ = some (.slice none 0 0) := hdb.cell 4
  have dz4 : w1.frozen? ⟨w.heap.size + 1 + 1 + 1 + 1, 4, none⟩ = false := hdb.frozen 4
  obtain ⟨x0, x1, x2, y0, y1, y2⟩ := cells3 hxb
  obtain ⟨p0, p1, p2, r0, r1, r2⟩ := cells3 hrb
  have HB1 := Lib.hid (HBW.out.trans (hb1.mono (by simp only [World.size_alloc]; omega)))
  have HS1 : w.heap.size ≤ w1.heap.size := HB1.out.size
  go_wp2_with fail
  (try simp only [Exit.inBlock, Exit.then])
  go_region
  go_wp2
  refine bodyPost_ret (f22_results _ _ (w.heap.size + 1 + 1) (w.heap.size + 1 + 1 + 1) _ _ _ _ _ s k c rfl rfl (blk_drew (((((((((((((hfb).far (p := ⟨w.heap.size + 1 + 1 + 1 + 1, 2, none⟩) (by simp <;> omega) _).far (p := ⟨w.heap.size, 0, none⟩) (by simp <;> omega) _).far (p := ⟨w.heap.size, 1, none⟩) (by simp <;> omega) _).far (p := ⟨w.heap.size, 2, none⟩) (by simp <;> omega) _).set_ 0 _).set_ 1 _).set_ 2 _).set_ 3 _).set_ 4 _).far (p := ⟨w.heap.size + 1 + 1 + 1, 0, none⟩) (by simp <;> omega) _).far (p := ⟨w.heap.size + 1 + 1 + 1, 1, none⟩) (by simp <;> omega) _).far (p := ⟨w.heap.size + 1 + 1 + 1, 2, none⟩) (by simp <;> omega) _)) (blk_drew (((((((((((((hrb).far (p := ⟨w.heap.size + 1 + 1 + 1 + 1, 2, none⟩) (by simp <;> omega) _).far (p := ⟨w.heap.size, 0, none⟩) (by simp <;> omega) _).far (p := ⟨w.heap.size, 1, none⟩) (by simp <;> omega) _).far (p := ⟨w.heap.size, 2, none⟩) (by simp <;> omega) _).far (p := ⟨w.heap.size + 1 + 1, 0, none⟩) (by simp <;> omega) _).far (p := ⟨w.heap.size + 1 + 1, 1, none⟩) (by simp <;> omega) _).far (p := ⟨w.heap.size + 1 + 1, 2, none⟩) (by simp <;> omega) _).far (p := ⟨w.heap.size + 1 + 1, 3, none⟩) (by simp <;> omega) _).far (p := ⟨w.heap.size + 1 + 1, 4, none⟩) (by simp <;> omega) _).set_ 0 _).set_ 1 _).set_ 2 _))) rfl ⟨_, rfl, ⟨w.heap.size, Nat.le_refl _, World.ownsRow_nil _ _ _ _⟩, ?_⟩
  exact (((((((((((((HB1.out).setCell (by simp <;> omega) _).setCell (by simp <;> omega) _).setCell (by simp <;> omega) _).setCell (by simp <;> omega) _).setCell (by simp <;> omega) _).setCell (by simp <;> omega) _).setCell (by simp <;> omega) _).setCell (by simp <;> omega) _).setCell (by simp <;> omega) _).setCell (by simp <;> omega) _).setCell (by simp <;> omega) _).setCell (by simp <;> omega) _).drew

set_option maxRecDepth 100000 in
set_option maxHeartbeats 3200000 in
theorem rref_k1 (n : Int) (s : ByteArray) (a : Nat) (c0 k c : Int) (N : Int) (w : World)
    (hC : ∀ W, Calls Try.prog 50 #[.agg #[.string s, .int .i64 a, .int .i64 c0], .int .i64 n] W (RefGot W s (.int .i64 N) k c)) :
    Calls Try.prog 22 #[.agg #[.string s, .int .i64 a, .int .i64 c0], .agg #[.int .i64 1, .int .i64 n]] w (RefItem w s N ⟨#[]⟩ [] k c) := by
  have HC := Lib.hid hC
  have HBW := Lib.hid (rfW_below w s a c0 1 n)
  have HB0 := Lib.hid (rfW_0 w s a c0 1 n)
  have HB2 := Lib.hid (rfW_2 w s a c0 1 n)
  have HB3 := Lib.hid (rfW_3 w s a c0 1 n)
  have HB4 := Lib.hid (rfW_4 w s a c0 1 n)
  clear hC
  go_enter Try.func22, Try.ntmps22
  go_wp2_with fail
  refine (HC.out _).mono ?_
  rintro e w1 ⟨rfl, hb1⟩
  have hxb := Blk.below HB0.out hb1 (by simp only [World.size_alloc]; omega)
  have hfb : Blk w1 (w.heap.size + 1 + 1) 35 zcells := Blk.below HB2.out hb1 (by simp only [World.size_alloc]; omega)
  have hrb := Blk.below HB3.out hb1 (by simp only [World.size_alloc]; omega)
  have hdb : Blk w1 (w.heap.size + 1 + 1 + 1 + 1) 35 zcells := Blk.below HB4.out hb1 (by simp only [World.size_alloc]; omega)
  have f0 : w1.cell? ⟨w.heap.size + 1 + 1, 0, none⟩ = some (.int .i64 0) := hfb.cell 0
  have fz0 : w1.frozen? ⟨w.heap.size + 1 + 1, 0, none⟩ = false := hfb.frozen 0
  have f1 : w1.cell? ⟨w.heap.size + 1 + 1, 1, none⟩ = some (.int .i64 0) := hfb.cell 1
  have fz1 : w1.frozen? ⟨w.heap.size + 1 + 1, 1, none⟩ = false := hfb.frozen 1
  have f2 : w1.cell? ⟨w.heap.size + 1 + 1, 2, none⟩ = some (.int .i64 0) := hfb.cell 2
  have fz2 : w1.frozen? ⟨w.heap.size + 1 + 1, 2, none⟩ = false := hfb.frozen 2
  have f3 : w1.cell? ⟨w.heap.size + 1 + 1, 3, none⟩ = some (.string ⟨#[]⟩) := hfb.cell 3
  have fz3 : w1.frozen? ⟨w.heap.size + 1 + 1, 3, none⟩ = false := hfb.frozen 3
  have f4 : w1.cell? ⟨w.heap.size + 1 + 1, 4, none⟩ = some (.slice none 0 0) := hfb.cell 4
  have fz4 : w1.frozen? ⟨w.heap.size + 1 + 1, 4, none⟩ = false := hfb.frozen 4
  have d0 : w1.cell? ⟨w.heap.size + 1 + 1 + 1 + 1, 0, none⟩ = some (.int .i64 0) := hdb.cell 0
  have dz0 : w1.frozen? ⟨w.heap.size + 1 + 1 + 1 + 1, 0, none⟩ = false := hdb.frozen 0
  have d1 : w1.cell? ⟨w.heap.size + 1 + 1 + 1 + 1, 1, none⟩ = some (.int .i64 0) := hdb.cell 1
  have dz1 : w1.frozen? ⟨w.heap.size + 1 + 1 + 1 + 1, 1, none⟩ = false := hdb.frozen 1
  have d2 : w1.cell? ⟨w.heap.size + 1 + 1 + 1 + 1, 2, none⟩ = some (.int .i64 0) := hdb.cell 2
  have dz2 : w1.frozen? ⟨w.heap.size + 1 + 1 + 1 + 1, 2, none⟩ = false := hdb.frozen 2
  have d3 : w1.cell? ⟨w.heap.size + 1 + 1 + 1 + 1, 3, none⟩ = some (.string ⟨#[]⟩) := hdb.cell 3
  have dz3 : w1.frozen? ⟨w.heap.size + 1 + 1 + 1 + 1, 3, none⟩ = false := hdb.frozen 3
  have d4 : w1.cell? ⟨w.heap.size + 1 + 1 + 1 + 1, 4, none⟩ = some (.slice none 0 0) := hdb.cell 4
  have dz4 : w1.frozen? ⟨w.heap.size + 1 + 1 + 1 + 1, 4, none⟩ = false := hdb.frozen 4
  obtain ⟨x0, x1, x2, y0, y1, y2⟩ := cells3 hxb
  obtain ⟨p0, p1, p2, r0, r1, r2⟩ := cells3 hrb
  have HB1 := Lib.hid (HBW.out.trans (hb1.mono (by simp only [World.size_alloc]; omega)))
  have HS1 : w.heap.size ≤ w1.heap.size := HB1.out.size
  go_wp2_with fail
  (try simp only [Exit.inBlock, Exit.then])
  go_region
  go_wp2
  refine bodyPost_ret (f22_results _ _ (w.heap.size + 1 + 1) (w.heap.size + 1 + 1 + 1) _ _ _ _ _ s k c rfl rfl (blk_drew (((((((((((((hfb).far (p := ⟨w.heap.size + 1 + 1 + 1 + 1, 2, none⟩) (by simp <;> omega) _).far (p := ⟨w.heap.size, 0, none⟩) (by simp <;> omega) _).far (p := ⟨w.heap.size, 1, none⟩) (by simp <;> omega) _).far (p := ⟨w.heap.size, 2, none⟩) (by simp <;> omega) _).set_ 0 _).set_ 1 _).set_ 2 _).set_ 3 _).set_ 4 _).far (p := ⟨w.heap.size + 1 + 1 + 1, 0, none⟩) (by simp <;> omega) _).far (p := ⟨w.heap.size + 1 + 1 + 1, 1, none⟩) (by simp <;> omega) _).far (p := ⟨w.heap.size + 1 + 1 + 1, 2, none⟩) (by simp <;> omega) _)) (blk_drew (((((((((((((hrb).far (p := ⟨w.heap.size + 1 + 1 + 1 + 1, 2, none⟩) (by simp <;> omega) _).far (p := ⟨w.heap.size, 0, none⟩) (by simp <;> omega) _).far (p := ⟨w.heap.size, 1, none⟩) (by simp <;> omega) _).far (p := ⟨w.heap.size, 2, none⟩) (by simp <;> omega) _).far (p := ⟨w.heap.size + 1 + 1, 0, none⟩) (by simp <;> omega) _).far (p := ⟨w.heap.size + 1 + 1, 1, none⟩) (by simp <;> omega) _).far (p := ⟨w.heap.size + 1 + 1, 2, none⟩) (by simp <;> omega) _).far (p := ⟨w.heap.size + 1 + 1, 3, none⟩) (by simp <;> omega) _).far (p := ⟨w.heap.size + 1 + 1, 4, none⟩) (by simp <;> omega) _).set_ 0 _).set_ 1 _).set_ 2 _))) rfl ⟨_, rfl, ⟨w.heap.size, Nat.le_refl _, World.ownsRow_nil _ _ _ _⟩, ?_⟩
  exact (((((((((((((HB1.out).setCell (by simp <;> omega) _).setCell (by simp <;> omega) _).setCell (by simp <;> omega) _).setCell (by simp <;> omega) _).setCell (by simp <;> omega) _).setCell (by simp <;> omega) _).setCell (by simp <;> omega) _).setCell (by simp <;> omega) _).setCell (by simp <;> omega) _).setCell (by simp <;> omega) _).setCell (by simp <;> omega) _).setCell (by simp <;> omega) _).drew

set_option maxRecDepth 100000 in
set_option maxHeartbeats 3200000 in
theorem rref_k2 (n : Int) (s : ByteArray) (a : Nat) (c0 k c : Int) (N : Int) (w : World)
    (hC : ∀ W, Calls Try.prog 51 #[.agg #[.string s, .int .i64 a, .int .i64 c0]] W (RefGot W s (.int .i64 N) k c)) :
    Calls Try.prog 22 #[.agg #[.string s, .int .i64 a, .int .i64 c0], .agg #[.int .i64 2, .int .i64 n]] w (RefItem w s N ⟨#[]⟩ [] k c) := by
  have HC := Lib.hid hC
  have HBW := Lib.hid (rfW_below w s a c0 2 n)
  have HB0 := Lib.hid (rfW_0 w s a c0 2 n)
  have HB2 := Lib.hid (rfW_2 w s a c0 2 n)
  have HB3 := Lib.hid (rfW_3 w s a c0 2 n)
  have HB4 := Lib.hid (rfW_4 w s a c0 2 n)
  clear hC
  go_enter Try.func22, Try.ntmps22
  go_wp2_with fail
  refine (HC.out _).mono ?_
  rintro e w1 ⟨rfl, hb1⟩
  have hxb := Blk.below HB0.out hb1 (by simp only [World.size_alloc]; omega)
  have hfb : Blk w1 (w.heap.size + 1 + 1) 35 zcells := Blk.below HB2.out hb1 (by simp only [World.size_alloc]; omega)
  have hrb := Blk.below HB3.out hb1 (by simp only [World.size_alloc]; omega)
  have hdb : Blk w1 (w.heap.size + 1 + 1 + 1 + 1) 35 zcells := Blk.below HB4.out hb1 (by simp only [World.size_alloc]; omega)
  have f0 : w1.cell? ⟨w.heap.size + 1 + 1, 0, none⟩ = some (.int .i64 0) := hfb.cell 0
  have fz0 : w1.frozen? ⟨w.heap.size + 1 + 1, 0, none⟩ = false := hfb.frozen 0
  have f1 : w1.cell? ⟨w.heap.size + 1 + 1, 1, none⟩ = some (.int .i64 0) := hfb.cell 1
  have fz1 : w1.frozen? ⟨w.heap.size + 1 + 1, 1, none⟩ = false := hfb.frozen 1
  have f2 : w1.cell? ⟨w.heap.size + 1 + 1, 2, none⟩ = some (.int .i64 0) := hfb.cell 2
  have fz2 : w1.frozen? ⟨w.heap.size + 1 + 1, 2, none⟩ = false := hfb.frozen 2
  have f3 : w1.cell? ⟨w.heap.size + 1 + 1, 3, none⟩ = some (.string ⟨#[]⟩) := hfb.cell 3
  have fz3 : w1.frozen? ⟨w.heap.size + 1 + 1, 3, none⟩ = false := hfb.frozen 3
  have f4 : w1.cell? ⟨w.heap.size + 1 + 1, 4, none⟩ = some (.slice none 0 0) := hfb.cell 4
  have fz4 : w1.frozen? ⟨w.heap.size + 1 + 1, 4, none⟩ = false := hfb.frozen 4
  have d0 : w1.cell? ⟨w.heap.size + 1 + 1 + 1 + 1, 0, none⟩ = some (.int .i64 0) := hdb.cell 0
  have dz0 : w1.frozen? ⟨w.heap.size + 1 + 1 + 1 + 1, 0, none⟩ = false := hdb.frozen 0
  have d1 : w1.cell? ⟨w.heap.size + 1 + 1 + 1 + 1, 1, none⟩ = some (.int .i64 0) := hdb.cell 1
  have dz1 : w1.frozen? ⟨w.heap.size + 1 + 1 + 1 + 1, 1, none⟩ = false := hdb.frozen 1
  have d2 : w1.cell? ⟨w.heap.size + 1 + 1 + 1 + 1, 2, none⟩ = some (.int .i64 0) := hdb.cell 2
  have dz2 : w1.frozen? ⟨w.heap.size + 1 + 1 + 1 + 1, 2, none⟩ = false := hdb.frozen 2
  have d3 : w1.cell? ⟨w.heap.size + 1 + 1 + 1 + 1, 3, none⟩ = some (.string ⟨#[]⟩) := hdb.cell 3
  have dz3 : w1.frozen? ⟨w.heap.size + 1 + 1 + 1 + 1, 3, none⟩ = false := hdb.frozen 3
  have d4 : w1.cell? ⟨w.heap.size + 1 + 1 + 1 + 1, 4, none⟩ = some (.slice none 0 0) := hdb.cell 4
  have dz4 : w1.frozen? ⟨w.heap.size + 1 + 1 + 1 + 1, 4, none⟩ = false := hdb.frozen 4
  obtain ⟨x0, x1, x2, y0, y1, y2⟩ := cells3 hxb
  obtain ⟨p0, p1, p2, r0, r1, r2⟩ := cells3 hrb
  have HB1 := Lib.hid (HBW.out.trans (hb1.mono (by simp only [World.size_alloc]; omega)))
  have HS1 : w.heap.size ≤ w1.heap.size := HB1.out.size
  go_wp2_with fail
  (try simp only [Exit.inBlock, Exit.then])
  go_region
  go_wp2
  refine bodyPost_ret (f22_results _ _ (w.heap.size + 1 + 1) (w.heap.size + 1 + 1 + 1) _ _ _ _ _ s k c rfl rfl (blk_drew (((((((((((((hfb).far (p := ⟨w.heap.size + 1 + 1 + 1 + 1, 2, none⟩) (by simp <;> omega) _).far (p := ⟨w.heap.size, 0, none⟩) (by simp <;> omega) _).far (p := ⟨w.heap.size, 1, none⟩) (by simp <;> omega) _).far (p := ⟨w.heap.size, 2, none⟩) (by simp <;> omega) _).set_ 0 _).set_ 1 _).set_ 2 _).set_ 3 _).set_ 4 _).far (p := ⟨w.heap.size + 1 + 1 + 1, 0, none⟩) (by simp <;> omega) _).far (p := ⟨w.heap.size + 1 + 1 + 1, 1, none⟩) (by simp <;> omega) _).far (p := ⟨w.heap.size + 1 + 1 + 1, 2, none⟩) (by simp <;> omega) _)) (blk_drew (((((((((((((hrb).far (p := ⟨w.heap.size + 1 + 1 + 1 + 1, 2, none⟩) (by simp <;> omega) _).far (p := ⟨w.heap.size, 0, none⟩) (by simp <;> omega) _).far (p := ⟨w.heap.size, 1, none⟩) (by simp <;> omega) _).far (p := ⟨w.heap.size, 2, none⟩) (by simp <;> omega) _).far (p := ⟨w.heap.size + 1 + 1, 0, none⟩) (by simp <;> omega) _).far (p := ⟨w.heap.size + 1 + 1, 1, none⟩) (by simp <;> omega) _).far (p := ⟨w.heap.size + 1 + 1, 2, none⟩) (by simp <;> omega) _).far (p := ⟨w.heap.size + 1 + 1, 3, none⟩) (by simp <;> omega) _).far (p := ⟨w.heap.size + 1 + 1, 4, none⟩) (by simp <;> omega) _).set_ 0 _).set_ 1 _).set_ 2 _))) rfl ⟨_, rfl, ⟨w.heap.size, Nat.le_refl _, World.ownsRow_nil _ _ _ _⟩, ?_⟩
  exact (((((((((((((HB1.out).setCell (by simp <;> omega) _).setCell (by simp <;> omega) _).setCell (by simp <;> omega) _).setCell (by simp <;> omega) _).setCell (by simp <;> omega) _).setCell (by simp <;> omega) _).setCell (by simp <;> omega) _).setCell (by simp <;> omega) _).setCell (by simp <;> omega) _).setCell (by simp <;> omega) _).setCell (by simp <;> omega) _).setCell (by simp <;> omega) _).drew

set_option maxRecDepth 100000 in
set_option maxHeartbeats 3200000 in
theorem rref_k3 (n : Int) (s : ByteArray) (a : Nat) (c0 k c : Int) (S : ByteArray) (w : World)
    (hC : ∀ W, Calls Try.prog 52 #[.agg #[.string s, .int .i64 a, .int .i64 c0], .int .i64 n] W (RefGot W s (.string S) k c)) :
    Calls Try.prog 22 #[.agg #[.string s, .int .i64 a, .int .i64 c0], .agg #[.int .i64 3, .int .i64 n]] w (RefItem w s 0 S [] k c) := by
  have HC := Lib.hid hC
  have HBW := Lib.hid (rfW_below w s a c0 3 n)
  have HB0 := Lib.hid (rfW_0 w s a c0 3 n)
  have HB2 := Lib.hid (rfW_2 w s a c0 3 n)
  have HB3 := Lib.hid (rfW_3 w s a c0 3 n)
  have HB4 := Lib.hid (rfW_4 w s a c0 3 n)
  clear hC
  go_enter Try.func22, Try.ntmps22
  go_wp2_with fail
  refine (HC.out _).mono ?_
  rintro e w1 ⟨rfl, hb1⟩
  have hxb := Blk.below HB0.out hb1 (by simp only [World.size_alloc]; omega)
  have hfb : Blk w1 (w.heap.size + 1 + 1) 35 zcells := Blk.below HB2.out hb1 (by simp only [World.size_alloc]; omega)
  have hrb := Blk.below HB3.out hb1 (by simp only [World.size_alloc]; omega)
  have hdb : Blk w1 (w.heap.size + 1 + 1 + 1 + 1) 35 zcells := Blk.below HB4.out hb1 (by simp only [World.size_alloc]; omega)
  have f0 : w1.cell? ⟨w.heap.size + 1 + 1, 0, none⟩ = some (.int .i64 0) := hfb.cell 0
  have fz0 : w1.frozen? ⟨w.heap.size + 1 + 1, 0, none⟩ = false := hfb.frozen 0
  have f1 : w1.cell? ⟨w.heap.size + 1 + 1, 1, none⟩ = some (.int .i64 0) := hfb.cell 1
  have fz1 : w1.frozen? ⟨w.heap.size + 1 + 1, 1, none⟩ = false := hfb.frozen 1
  have f2 : w1.cell? ⟨w.heap.size + 1 + 1, 2, none⟩ = some (.int .i64 0) := hfb.cell 2
  have fz2 : w1.frozen? ⟨w.heap.size + 1 + 1, 2, none⟩ = false := hfb.frozen 2
  have f3 : w1.cell? ⟨w.heap.size + 1 + 1, 3, none⟩ = some (.string ⟨#[]⟩) := hfb.cell 3
  have fz3 : w1.frozen? ⟨w.heap.size + 1 + 1, 3, none⟩ = false := hfb.frozen 3
  have f4 : w1.cell? ⟨w.heap.size + 1 + 1, 4, none⟩ = some (.slice none 0 0) := hfb.cell 4
  have fz4 : w1.frozen? ⟨w.heap.size + 1 + 1, 4, none⟩ = false := hfb.frozen 4
  have d0 : w1.cell? ⟨w.heap.size + 1 + 1 + 1 + 1, 0, none⟩ = some (.int .i64 0) := hdb.cell 0
  have dz0 : w1.frozen? ⟨w.heap.size + 1 + 1 + 1 + 1, 0, none⟩ = false := hdb.frozen 0
  have d1 : w1.cell? ⟨w.heap.size + 1 + 1 + 1 + 1, 1, none⟩ = some (.int .i64 0) := hdb.cell 1
  have dz1 : w1.frozen? ⟨w.heap.size + 1 + 1 + 1 + 1, 1, none⟩ = false := hdb.frozen 1
  have d2 : w1.cell? ⟨w.heap.size + 1 + 1 + 1 + 1, 2, none⟩ = some (.int .i64 0) := hdb.cell 2
  have dz2 : w1.frozen? ⟨w.heap.size + 1 + 1 + 1 + 1, 2, none⟩ = false := hdb.frozen 2
  have d3 : w1.cell? ⟨w.heap.size + 1 + 1 + 1 + 1, 3, none⟩ = some (.string ⟨#[]⟩) := hdb.cell 3
  have dz3 : w1.frozen? ⟨w.heap.size + 1 + 1 + 1 + 1, 3, none⟩ = false := hdb.frozen 3
  have d4 : w1.cell? ⟨w.heap.size + 1 + 1 + 1 + 1, 4, none⟩ = some (.slice none 0 0) := hdb.cell 4
  have dz4 : w1.frozen? ⟨w.heap.size + 1 + 1 + 1 + 1, 4, none⟩ = false := hdb.frozen 4
  obtain ⟨x0, x1, x2, y0, y1, y2⟩ := cells3 hxb
  obtain ⟨p0, p1, p2, r0, r1, r2⟩ := cells3 hrb
  have HB1 := Lib.hid (HBW.out.trans (hb1.mono (by simp only [World.size_alloc]; omega)))
  have HS1 : w.heap.size ≤ w1.heap.size := HB1.out.size
  go_wp2_with fail
  (try simp only [Exit.inBlock, Exit.then])
  go_region
  go_wp2
  refine bodyPost_ret (f22_results _ _ (w.heap.size + 1 + 1) (w.heap.size + 1 + 1 + 1) _ _ _ _ _ s k c rfl rfl (blk_drew (((((((((((((hfb).far (p := ⟨w.heap.size + 1 + 1 + 1 + 1, 3, none⟩) (by simp <;> omega) _).far (p := ⟨w.heap.size, 0, none⟩) (by simp <;> omega) _).far (p := ⟨w.heap.size, 1, none⟩) (by simp <;> omega) _).far (p := ⟨w.heap.size, 2, none⟩) (by simp <;> omega) _).set_ 0 _).set_ 1 _).set_ 2 _).set_ 3 _).set_ 4 _).far (p := ⟨w.heap.size + 1 + 1 + 1, 0, none⟩) (by simp <;> omega) _).far (p := ⟨w.heap.size + 1 + 1 + 1, 1, none⟩) (by simp <;> omega) _).far (p := ⟨w.heap.size + 1 + 1 + 1, 2, none⟩) (by simp <;> omega) _)) (blk_drew (((((((((((((hrb).far (p := ⟨w.heap.size + 1 + 1 + 1 + 1, 3, none⟩) (by simp <;> omega) _).far (p := ⟨w.heap.size, 0, none⟩) (by simp <;> omega) _).far (p := ⟨w.heap.size, 1, none⟩) (by simp <;> omega) _).far (p := ⟨w.heap.size, 2, none⟩) (by simp <;> omega) _).far (p := ⟨w.heap.size + 1 + 1, 0, none⟩) (by simp <;> omega) _).far (p := ⟨w.heap.size + 1 + 1, 1, none⟩) (by simp <;> omega) _).far (p := ⟨w.heap.size + 1 + 1, 2, none⟩) (by simp <;> omega) _).far (p := ⟨w.heap.size + 1 + 1, 3, none⟩) (by simp <;> omega) _).far (p := ⟨w.heap.size + 1 + 1, 4, none⟩) (by simp <;> omega) _).set_ 0 _).set_ 1 _).set_ 2 _))) rfl ⟨_, rfl, ⟨w.heap.size, Nat.le_refl _, World.ownsRow_nil _ _ _ _⟩, ?_⟩
  exact (((((((((((((HB1.out).setCell (by simp <;> omega) _).setCell (by simp <;> omega) _).setCell (by simp <;> omega) _).setCell (by simp <;> omega) _).setCell (by simp <;> omega) _).setCell (by simp <;> omega) _).setCell (by simp <;> omega) _).setCell (by simp <;> omega) _).setCell (by simp <;> omega) _).setCell (by simp <;> omega) _).setCell (by simp <;> omega) _).setCell (by simp <;> omega) _).drew

set_option maxRecDepth 100000 in
set_option maxHeartbeats 3200000 in
theorem rref_k6 (n : Int) (s : ByteArray) (a : Nat) (c0 k c : Int) (N : Int) (w : World)
    (hC : ∀ W, Calls Try.prog 54 #[.agg #[.string s, .int .i64 a, .int .i64 c0], .int .i64 n] W (RefGot W s (.int .i64 N) k c)) :
    Calls Try.prog 22 #[.agg #[.string s, .int .i64 a, .int .i64 c0], .agg #[.int .i64 6, .int .i64 n]] w (RefItem w s N ⟨#[]⟩ [] k c) := by
  have HC := Lib.hid hC
  have HBW := Lib.hid (rfW_below w s a c0 6 n)
  have HB0 := Lib.hid (rfW_0 w s a c0 6 n)
  have HB2 := Lib.hid (rfW_2 w s a c0 6 n)
  have HB3 := Lib.hid (rfW_3 w s a c0 6 n)
  have HB4 := Lib.hid (rfW_4 w s a c0 6 n)
  clear hC
  go_enter Try.func22, Try.ntmps22
  go_wp2_with fail
  refine (HC.out _).mono ?_
  rintro e w1 ⟨rfl, hb1⟩
  have hxb := Blk.below HB0.out hb1 (by simp only [World.size_alloc]; omega)
  have hfb : Blk w1 (w.heap.size + 1 + 1) 35 zcells := Blk.below HB2.out hb1 (by simp only [World.size_alloc]; omega)
  have hrb := Blk.below HB3.out hb1 (by simp only [World.size_alloc]; omega)
  have hdb : Blk w1 (w.heap.size + 1 + 1 + 1 + 1) 35 zcells := Blk.below HB4.out hb1 (by simp only [World.size_alloc]; omega)
  have f0 : w1.cell? ⟨w.heap.size + 1 + 1, 0, none⟩ = some (.int .i64 0) := hfb.cell 0
  have fz0 : w1.frozen? ⟨w.heap.size + 1 + 1, 0, none⟩ = false := hfb.frozen 0
  have f1 : w1.cell? ⟨w.heap.size + 1 + 1, 1, none⟩ = some (.int .i64 0) := hfb.cell 1
  have fz1 : w1.frozen? ⟨w.heap.size + 1 + 1, 1, none⟩ = false := hfb.frozen 1
  have f2 : w1.cell? ⟨w.heap.size + 1 + 1, 2, none⟩ = some (.int .i64 0) := hfb.cell 2
  have fz2 : w1.frozen? ⟨w.heap.size + 1 + 1, 2, none⟩ = false := hfb.frozen 2
  have f3 : w1.cell? ⟨w.heap.size + 1 + 1, 3, none⟩ = some (.string ⟨#[]⟩) := hfb.cell 3
  have fz3 : w1.frozen? ⟨w.heap.size + 1 + 1, 3, none⟩ = false := hfb.frozen 3
  have f4 : w1.cell? ⟨w.heap.size + 1 + 1, 4, none⟩ = some (.slice none 0 0) := hfb.cell 4
  have fz4 : w1.frozen? ⟨w.heap.size + 1 + 1, 4, none⟩ = false := hfb.frozen 4
  have d0 : w1.cell? ⟨w.heap.size + 1 + 1 + 1 + 1, 0, none⟩ = some (.int .i64 0) := hdb.cell 0
  have dz0 : w1.frozen? ⟨w.heap.size + 1 + 1 + 1 + 1, 0, none⟩ = false := hdb.frozen 0
  have d1 : w1.cell? ⟨w.heap.size + 1 + 1 + 1 + 1, 1, none⟩ = some (.int .i64 0) := hdb.cell 1
  have dz1 : w1.frozen? ⟨w.heap.size + 1 + 1 + 1 + 1, 1, none⟩ = false := hdb.frozen 1
  have d2 : w1.cell? ⟨w.heap.size + 1 + 1 + 1 + 1, 2, none⟩ = some (.int .i64 0) := hdb.cell 2
  have dz2 : w1.frozen? ⟨w.heap.size + 1 + 1 + 1 + 1, 2, none⟩ = false := hdb.frozen 2
  have d3 : w1.cell? ⟨w.heap.size + 1 + 1 + 1 + 1, 3, none⟩ = some (.string ⟨#[]⟩) := hdb.cell 3
  have dz3 : w1.frozen? ⟨w.heap.size + 1 + 1 + 1 + 1, 3, none⟩ = false := hdb.frozen 3
  have d4 : w1.cell? ⟨w.heap.size + 1 + 1 + 1 + 1, 4, none⟩ = some (.slice none 0 0) := hdb.cell 4
  have dz4 : w1.frozen? ⟨w.heap.size + 1 + 1 + 1 + 1, 4, none⟩ = false := hdb.frozen 4
  obtain ⟨x0, x1, x2, y0, y1, y2⟩ := cells3 hxb
  obtain ⟨p0, p1, p2, r0, r1, r2⟩ := cells3 hrb
  have HB1 := Lib.hid (HBW.out.trans (hb1.mono (by simp only [World.size_alloc]; omega)))
  have HS1 : w.heap.size ≤ w1.heap.size := HB1.out.size
  go_wp2_with fail
  (try simp only [Exit.inBlock, Exit.then])
  go_region
  go_wp2
  refine bodyPost_ret (f22_results _ _ (w.heap.size + 1 + 1) (w.heap.size + 1 + 1 + 1) _ _ _ _ _ s k c rfl rfl (blk_drew (((((((((((((hfb).far (p := ⟨w.heap.size, 0, none⟩) (by simp <;> omega) _).far (p := ⟨w.heap.size, 1, none⟩) (by simp <;> omega) _).far (p := ⟨w.heap.size, 2, none⟩) (by simp <;> omega) _).far (p := ⟨w.heap.size + 1 + 1 + 1 + 1, 2, none⟩) (by simp <;> omega) _).set_ 0 _).set_ 1 _).set_ 2 _).set_ 3 _).set_ 4 _).far (p := ⟨w.heap.size + 1 + 1 + 1, 0, none⟩) (by simp <;> omega) _).far (p := ⟨w.heap.size + 1 + 1 + 1, 1, none⟩) (by simp <;> omega) _).far (p := ⟨w.heap.size + 1 + 1 + 1, 2, none⟩) (by simp <;> omega) _)) (blk_drew (((((((((((((hrb).far (p := ⟨w.heap.size, 0, none⟩) (by simp <;> omega) _).far (p := ⟨w.heap.size, 1, none⟩) (by simp <;> omega) _).far (p := ⟨w.heap.size, 2, none⟩) (by simp <;> omega) _).far (p := ⟨w.heap.size + 1 + 1 + 1 + 1, 2, none⟩) (by simp <;> omega) _).far (p := ⟨w.heap.size + 1 + 1, 0, none⟩) (by simp <;> omega) _).far (p := ⟨w.heap.size + 1 + 1, 1, none⟩) (by simp <;> omega) _).far (p := ⟨w.heap.size + 1 + 1, 2, none⟩) (by simp <;> omega) _).far (p := ⟨w.heap.size + 1 + 1, 3, none⟩) (by simp <;> omega) _).far (p := ⟨w.heap.size + 1 + 1, 4, none⟩) (by simp <;> omega) _).set_ 0 _).set_ 1 _).set_ 2 _))) rfl ⟨_, rfl, ⟨w.heap.size, Nat.le_refl _, World.ownsRow_nil _ _ _ _⟩, ?_⟩
  exact (((((((((((((HB1.out).setCell (by simp <;> omega) _).setCell (by simp <;> omega) _).setCell (by simp <;> omega) _).setCell (by simp <;> omega) _).setCell (by simp <;> omega) _).setCell (by simp <;> omega) _).setCell (by simp <;> omega) _).setCell (by simp <;> omega) _).setCell (by simp <;> omega) _).setCell (by simp <;> omega) _).setCell (by simp <;> omega) _).setCell (by simp <;> omega) _).drew

set_option maxRecDepth 100000 in
set_option maxHeartbeats 3200000 in
theorem rref_raw (kind : Int) (hkd : kind ≠ 0 ∧ kind ≠ 1 ∧ kind ≠ 2 ∧ kind ≠ 3 ∧ kind ≠ 4 ∧ kind ≠ 6) (n : Int) (s : ByteArray) (a : Nat) (c0 k c : Int) (S : ByteArray) (w : World)
    (hC : ∀ W, Calls Try.prog 55 #[.agg #[.string s, .int .i64 a, .int .i64 c0], .int .i64 n] W (RefGot W s (.string S) k c)) :
    Calls Try.prog 22 #[.agg #[.string s, .int .i64 a, .int .i64 c0], .agg #[.int .i64 kind, .int .i64 n]] w (RefItem w s 0 S [] k c) := by
  have HC := Lib.hid hC
  have HBW := Lib.hid (rfW_below w s a c0 kind n)
  have HB0 := Lib.hid (rfW_0 w s a c0 kind n)
  have HB2 := Lib.hid (rfW_2 w s a c0 kind n)
  have HB3 := Lib.hid (rfW_3 w s a c0 kind n)
  have HB4 := Lib.hid (rfW_4 w s a c0 kind n)
  obtain ⟨q0, q1, q2, q3, q4, q6⟩ := hkd
  have g0 : (kind == 0) = false := by rw [beq_eq_false_iff_ne]; exact q0
  have g1 : (kind == 1) = false := by rw [beq_eq_false_iff_ne]; exact q1
  have g2 : (kind == 2) = false := by rw [beq_eq_false_iff_ne]; exact q2
  have g3 : (kind == 3) = false := by rw [beq_eq_false_iff_ne]; exact q3
  have g4 : (kind == 4) = false := by rw [beq_eq_false_iff_ne]; exact q4
  have g6 : (kind == 6) = false := by rw [beq_eq_false_iff_ne]; exact q6
  clear q0 q1 q2 q3 q4 q6
  clear hC
  go_enter Try.func22, Try.ntmps22
  go_wp2_with fail
  refine (HC.out _).mono ?_
  rintro e w1 ⟨rfl, hb1⟩
  have hxb := Blk.below HB0.out hb1 (by simp only [World.size_alloc]; omega)
  have hfb : Blk w1 (w.heap.size + 1 + 1) 35 zcells := Blk.below HB2.out hb1 (by simp only [World.size_alloc]; omega)
  have hrb := Blk.below HB3.out hb1 (by simp only [World.size_alloc]; omega)
  have hdb : Blk w1 (w.heap.size + 1 + 1 + 1 + 1) 35 zcells := Blk.below HB4.out hb1 (by simp only [World.size_alloc]; omega)
  have f0 : w1.cell? ⟨w.heap.size + 1 + 1, 0, none⟩ = some (.int .i64 0) := hfb.cell 0
  have fz0 : w1.frozen? ⟨w.heap.size + 1 + 1, 0, none⟩ = false := hfb.frozen 0
  have f1 : w1.cell? ⟨w.heap.size + 1 + 1, 1, none⟩ = some (.int .i64 0) := hfb.cell 1
  have fz1 : w1.frozen? ⟨w.heap.size + 1 + 1, 1, none⟩ = false := hfb.frozen 1
  have f2 : w1.cell? ⟨w.heap.size + 1 + 1, 2, none⟩ = some (.int .i64 0) := hfb.cell 2
  have fz2 : w1.frozen? ⟨w.heap.size + 1 + 1, 2, none⟩ = false := hfb.frozen 2
  have f3 : w1.cell? ⟨w.heap.size + 1 + 1, 3, none⟩ = some (.string ⟨#[]⟩) := hfb.cell 3
  have fz3 : w1.frozen? ⟨w.heap.size + 1 + 1, 3, none⟩ = false := hfb.frozen 3
  have f4 : w1.cell? ⟨w.heap.size + 1 + 1, 4, none⟩ = some (.slice none 0 0) := hfb.cell 4
  have fz4 : w1.frozen? ⟨w.heap.size + 1 + 1, 4, none⟩ = false := hfb.frozen 4
  have d0 : w1.cell? ⟨w.heap.size + 1 + 1 + 1 + 1, 0, none⟩ = some (.int .i64 0) := hdb.cell 0
  have dz0 : w1.frozen? ⟨w.heap.size + 1 + 1 + 1 + 1, 0, none⟩ = false := hdb.frozen 0
  have d1 : w1.cell? ⟨w.heap.size + 1 + 1 + 1 + 1, 1, none⟩ = some (.int .i64 0) := hdb.cell 1
  have dz1 : w1.frozen? ⟨w.heap.size + 1 + 1 + 1 + 1, 1, none⟩ = false := hdb.frozen 1
  have d2 : w1.cell? ⟨w.heap.size + 1 + 1 + 1 + 1, 2, none⟩ = some (.int .i64 0) := hdb.cell 2
  have dz2 : w1.frozen? ⟨w.heap.size + 1 + 1 + 1 + 1, 2, none⟩ = false := hdb.frozen 2
  have d3 : w1.cell? ⟨w.heap.size + 1 + 1 + 1 + 1, 3, none⟩ = some (.string ⟨#[]⟩) := hdb.cell 3
  have dz3 : w1.frozen? ⟨w.heap.size + 1 + 1 + 1 + 1, 3, none⟩ = false := hdb.frozen 3
  have d4 : w1.cell? ⟨w.heap.size + 1 + 1 + 1 + 1, 4, none⟩ = some (.slice none 0 0) := hdb.cell 4
  have dz4 : w1.frozen? ⟨w.heap.size + 1 + 1 + 1 + 1, 4, none⟩ = false := hdb.frozen 4
  obtain ⟨x0, x1, x2, y0, y1, y2⟩ := cells3 hxb
  obtain ⟨p0, p1, p2, r0, r1, r2⟩ := cells3 hrb
  have HB1 := Lib.hid (HBW.out.trans (hb1.mono (by simp only [World.size_alloc]; omega)))
  have HS1 : w.heap.size ≤ w1.heap.size := HB1.out.size
  go_wp2_with fail
  (try simp only [Exit.inBlock, Exit.then])
  go_region
  go_wp2
  refine bodyPost_ret (f22_results _ _ (w.heap.size + 1 + 1) (w.heap.size + 1 + 1 + 1) _ _ _ _ _ s k c rfl rfl (blk_drew (((((((((((((hfb).far (p := ⟨w.heap.size + 1 + 1 + 1 + 1, 3, none⟩) (by simp <;> omega) _).far (p := ⟨w.heap.size, 0, none⟩) (by simp <;> omega) _).far (p := ⟨w.heap.size, 1, none⟩) (by simp <;> omega) _).far (p := ⟨w.heap.size, 2, none⟩) (by simp <;> omega) _).set_ 0 _).set_ 1 _).set_ 2 _).set_ 3 _).set_ 4 _).far (p := ⟨w.heap.size + 1 + 1 + 1, 0, none⟩) (by simp <;> omega) _).far (p := ⟨w.heap.size + 1 + 1 + 1, 1, none⟩) (by simp <;> omega) _).far (p := ⟨w.heap.size + 1 + 1 + 1, 2, none⟩) (by simp <;> omega) _)) (blk_drew (((((((((((((hrb).far (p := ⟨w.heap.size + 1 + 1 + 1 + 1, 3, none⟩) (by simp <;> omega) _).far (p := ⟨w.heap.size, 0, none⟩) (by simp <;> omega) _).far (p := ⟨w.heap.size, 1, none⟩) (by simp <;> omega) _).far (p := ⟨w.heap.size, 2, none⟩) (by simp <;> omega) _).far (p := ⟨w.heap.size + 1 + 1, 0, none⟩) (by simp <;> omega) _).far (p := ⟨w.heap.size + 1 + 1, 1, none⟩) (by simp <;> omega) _).far (p := ⟨w.heap.size + 1 + 1, 2, none⟩) (by simp <;> omega) _).far (p := ⟨w.heap.size + 1 + 1, 3, none⟩) (by simp <;> omega) _).far (p := ⟨w.heap.size + 1 + 1, 4, none⟩) (by simp <;> omega) _).set_ 0 _).set_ 1 _).set_ 2 _))) rfl ⟨_, rfl, ⟨w.heap.size, Nat.le_refl _, World.ownsRow_nil _ _ _ _⟩, ?_⟩
  exact (((((((((((((HB1.out).setCell (by simp <;> omega) _).setCell (by simp <;> omega) _).setCell (by simp <;> omega) _).setCell (by simp <;> omega) _).setCell (by simp <;> omega) _).setCell (by simp <;> omega) _).setCell (by simp <;> omega) _).setCell (by simp <;> omega) _).setCell (by simp <;> omega) _).setCell (by simp <;> omega) _).setCell (by simp <;> omega) _).setCell (by simp <;> omega) _).drew

set_option maxRecDepth 100000 in
set_option maxHeartbeats 3200000 in
theorem rref_k4 (n : Int) (s : ByteArray) (a : Nat) (c0 k c : Int) (L : List Bool) (w : World)
    (hC : ∀ W, Calls Try.prog 53 #[.agg #[.string s, .int .i64 a, .int .i64 c0], .int .i64 n] W (RefBits W s k c L)) :
    Calls Try.prog 22 #[.agg #[.string s, .int .i64 a, .int .i64 c0], .agg #[.int .i64 4, .int .i64 n]] w (RefItem w s 0 ⟨#[]⟩ L k c) := by
  have HC := Lib.hid hC
  have HBW := Lib.hid (rfW_below w s a c0 4 n)
  have HB0 := Lib.hid (rfW_0 w s a c0 4 n)
  have HB2 := Lib.hid (rfW_2 w s a c0 4 n)
  have HB3 := Lib.hid (rfW_3 w s a c0 4 n)
  have HB4 := Lib.hid (rfW_4 w s a c0 4 n)
  clear hC
  go_enter Try.func22, Try.ntmps22
  go_wp2_with fail
  refine (HC.out _).mono ?_
  rintro e w1 ⟨v, rfl, ⟨bo, hbo, hown⟩, hb1⟩
  obtain ⟨so, ls, cs, rfl⟩ := own_shape hown
  have HOW := Lib.hid hown
  clear hown
  have hxb := Blk.below HB0.out hb1 (by simp only [World.size_alloc]; omega)
  have hfb : Blk w1 (w.heap.size + 1 + 1) 35 zcells := Blk.below HB2.out hb1 (by simp only [World.size_alloc]; omega)
  have hrb := Blk.below HB3.out hb1 (by simp only [World.size_alloc]; omega)
  have hdb : Blk w1 (w.heap.size + 1 + 1 + 1 + 1) 35 zcells := Blk.below HB4.out hb1 (by simp only [World.size_alloc]; omega)
  have f0 : w1.cell? ⟨w.heap.size + 1 + 1, 0, none⟩ = some (.int .i64 0) := hfb.cell 0
  have fz0 : w1.frozen? ⟨w.heap.size + 1 + 1, 0, none⟩ = false := hfb.frozen 0
  have f1 : w1.cell? ⟨w.heap.size + 1 + 1, 1, none⟩ = some (.int .i64 0) := hfb.cell 1
  have fz1 : w1.frozen? ⟨w.heap.size + 1 + 1, 1, none⟩ = false := hfb.frozen 1
  have f2 : w1.cell? ⟨w.heap.size + 1 + 1, 2, none⟩ = some (.int .i64 0) := hfb.cell 2
  have fz2 : w1.frozen? ⟨w.heap.size + 1 + 1, 2, none⟩ = false := hfb.frozen 2
  have f3 : w1.cell? ⟨w.heap.size + 1 + 1, 3, none⟩ = some (.string ⟨#[]⟩) := hfb.cell 3
  have fz3 : w1.frozen? ⟨w.heap.size + 1 + 1, 3, none⟩ = false := hfb.frozen 3
  have f4 : w1.cell? ⟨w.heap.size + 1 + 1, 4, none⟩ = some (.slice none 0 0) := hfb.cell 4
  have fz4 : w1.frozen? ⟨w.heap.size + 1 + 1, 4, none⟩ = false := hfb.frozen 4
  have d0 : w1.cell? ⟨w.heap.size + 1 + 1 + 1 + 1, 0, none⟩ = some (.int .i64 0) := hdb.cell 0
  have dz0 : w1.frozen? ⟨w.heap.size + 1 + 1 + 1 + 1, 0, none⟩ = false := hdb.frozen 0
  have d1 : w1.cell? ⟨w.heap.size + 1 + 1 + 1 + 1, 1, none⟩ = some (.int .i64 0) := hdb.cell 1
  have dz1 : w1.frozen? ⟨w.heap.size + 1 + 1 + 1 + 1, 1, none⟩ = false := hdb.frozen 1
  have d2 : w1.cell? ⟨w.heap.size + 1 + 1 + 1 + 1, 2, none⟩ = some (.int .i64 0) := hdb.cell 2
  have dz2 : w1.frozen? ⟨w.heap.size + 1 + 1 + 1 + 1, 2, none⟩ = false := hdb.frozen 2
  have d3 : w1.cell? ⟨w.heap.size + 1 + 1 + 1 + 1, 3, none⟩ = some (.string ⟨#[]⟩) := hdb.cell 3
  have dz3 : w1.frozen? ⟨w.heap.size + 1 + 1 + 1 + 1, 3, none⟩ = false := hdb.frozen 3
  have d4 : w1.cell? ⟨w.heap.size + 1 + 1 + 1 + 1, 4, none⟩ = some (.slice none 0 0) := hdb.cell 4
  have dz4 : w1.frozen? ⟨w.heap.size + 1 + 1 + 1 + 1, 4, none⟩ = false := hdb.frozen 4
  obtain ⟨x0, x1, x2, y0, y1, y2⟩ := cells3 hxb
  obtain ⟨p0, p1, p2, r0, r1, r2⟩ := cells3 hrb
  have HB1 := Lib.hid (HBW.out.trans (hb1.mono (by simp only [World.size_alloc]; omega)))
  have HS1 : w.heap.size ≤ w1.heap.size := HB1.out.size
  go_wp2_with fail
  (try simp only [Exit.inBlock, Exit.then])
  go_region
  go_wp2
  refine bodyPost_ret (f22_results _ _ (w.heap.size + 1 + 1) (w.heap.size + 1 + 1 + 1) _ _ _ _ _ s k c rfl rfl (blk_drew (((((((((((((hfb).far (p := ⟨w.heap.size + 1 + 1 + 1 + 1, 4, none⟩) (by simp <;> omega) _).far (p := ⟨w.heap.size, 0, none⟩) (by simp <;> omega) _).far (p := ⟨w.heap.size, 1, none⟩) (by simp <;> omega) _).far (p := ⟨w.heap.size, 2, none⟩) (by simp <;> omega) _).set_ 0 _).set_ 1 _).set_ 2 _).set_ 3 _).set_ 4 _).far (p := ⟨w.heap.size + 1 + 1 + 1, 0, none⟩) (by simp <;> omega) _).far (p := ⟨w.heap.size + 1 + 1 + 1, 1, none⟩) (by simp <;> omega) _).far (p := ⟨w.heap.size + 1 + 1 + 1, 2, none⟩) (by simp <;> omega) _)) (blk_drew (((((((((((((hrb).far (p := ⟨w.heap.size + 1 + 1 + 1 + 1, 4, none⟩) (by simp <;> omega) _).far (p := ⟨w.heap.size, 0, none⟩) (by simp <;> omega) _).far (p := ⟨w.heap.size, 1, none⟩) (by simp <;> omega) _).far (p := ⟨w.heap.size, 2, none⟩) (by simp <;> omega) _).far (p := ⟨w.heap.size + 1 + 1, 0, none⟩) (by simp <;> omega) _).far (p := ⟨w.heap.size + 1 + 1, 1, none⟩) (by simp <;> omega) _).far (p := ⟨w.heap.size + 1 + 1, 2, none⟩) (by simp <;> omega) _).far (p := ⟨w.heap.size + 1 + 1, 3, none⟩) (by simp <;> omega) _).far (p := ⟨w.heap.size + 1 + 1, 4, none⟩) (by simp <;> omega) _).set_ 0 _).set_ 1 _).set_ 2 _))) rfl ⟨_, rfl, ⟨bo, by simp only [World.size_alloc] at hbo; omega, ?_⟩, ?_⟩
  · exact own_below (own_sets (own_sets (own_sets (own_sets (own_sets (own_sets (own_sets (own_sets (own_sets (own_sets (own_sets (own_sets (HOW.out) (g := w.heap.size + 1 + 1 + 1 + 1) (by simp only [World.size_alloc] at hbo; omega) 4 _) (g := w.heap.size) (by simp only [World.size_alloc] at hbo; omega) 0 _) (g := w.heap.size) (by simp only [World.size_alloc] at hbo; omega) 1 _) (g := w.heap.size) (by simp only [World.size_alloc] at hbo; omega) 2 _) (g := w.heap.size + 1 + 1) (by simp only [World.size_alloc] at hbo; omega) 0 _) (g := w.heap.size + 1 + 1) (by simp only [World.size_alloc] at hbo; omega) 1 _) (g := w.heap.size + 1 + 1) (by simp only [World.size_alloc] at hbo; omega) 2 _) (g := w.heap.size + 1 + 1) (by simp only [World.size_alloc] at hbo; omega) 3 _) (g := w.heap.size + 1 + 1) (by simp only [World.size_alloc] at hbo; omega) 4 _) (g := w.heap.size + 1 + 1 + 1) (by simp only [World.size_alloc] at hbo; omega) 0 _) (g := w.heap.size + 1 + 1 + 1) (by simp only [World.size_alloc] at hbo; omega) 1 _) (g := w.heap.size + 1 + 1 + 1) (by simp only [World.size_alloc] at hbo; omega) 2 _) (Below.refl _ _).drew
  · exact (((((((((((((HB1.out).setCell (by simp <;> omega) _).setCell (by simp <;> omega) _).setCell (by simp <;> omega) _).setCell (by simp <;> omega) _).setCell (by simp <;> omega) _).setCell (by simp <;> omega) _).setCell (by simp <;> omega) _).setCell (by simp <;> omega) _).setCell (by simp <;> omega) _).setCell (by simp <;> omega) _).setCell (by simp <;> omega) _).setCell (by simp <;> omega) _).drew
end Go.Proofs.Yteendimoopmakaa
