/- check: why an operation is not accepted. -/
import Derived.Test.YtmnlojbfdpjjdaaA5
namespace Go.Proofs.Ytmnlojbfdpjjdaa
open Go.RowKit
def badB (x : Op) : Bool := (x.kind != 0 && x.kind != 1) || (x.fin != 0 && x.fin != 1) || (x.kind == 0 && decide (x.count < 0))
def clB (st : St) (a : Int) : Bool := if a = 0 then st.c0 else st.c1
def checkE (st : St) (x : Op) : Int :=
  if badB x then 1 else if x.kind = 1 ∧ 8192 < x.data.size then 3 else if clB st x.fin then 28 else if clB st (1 - x.fin) ∧ (x.kind = 1 ∨ readyB st x = false) then 28 else 0
theorem check_nil (x : Op) (w : World) : Calls Try.prog 53 #[.pointer none, opV x] w fun e w' => e = .returned (.int .i64 6) ∧ Below w.heap.size w w' := by
  obtain ⟨k, f, c, d⟩ := x
  unfold opV
  go_enter Try.func53, Try.ntmps53
  go_wp2_with fail
  go_ret
  exact ⟨rfl, (Below.refl _ _).alloc (Nat.le_refl _) _⟩
theorem check_kind (k f c : Int) (d : ByteArray) (h0 : k ≠ 0) (h1 : k ≠ 1) (g : Nat) (w : World) :
    Calls Try.prog 53 #[.pointer (some ⟨g, 0, none⟩), .agg #[.int .i64 k, .int .i64 f, .int .i64 c, .string d]] w fun e w' => e = .returned (.int .i64 1) ∧ Below w.heap.size w w' := by
  have e0 : (k == 0) = false := by rw [beq_eq_false_iff_ne]; exact h0
  have e1 : (k != 1) = true := by rw [bne_iff_ne]; exact h1
  have e2 : ¬ k = 0 := h0
  clear h0 h1
  go_enter Try.func53, Try.ntmps53
  go_wp2_with fail
  go_ret
  exact ⟨rfl, (Below.refl _ _).alloc (Nat.le_refl _) _⟩
theorem check_end (k f c : Int) (d : ByteArray) (hk : k = 0 ∨ k = 1) (h0 : f ≠ 0) (h1 : f ≠ 1) (g : Nat) (w : World) :
    Calls Try.prog 53 #[.pointer (some ⟨g, 0, none⟩), .agg #[.int .i64 k, .int .i64 f, .int .i64 c, .string d]] w fun e w' => e = .returned (.int .i64 1) ∧ Below w.heap.size w w' := by
  have C42 := Lib.hid (fun W => isEnd_any f W)
  rw [decide_eq_false (fun h => h.elim h0 h1)] at C42
  clear h0 h1
  rcases hk with rfl | rfl
  all_goals
    go_enter Try.func53, Try.ntmps53
    go_wp2_with (go_at_call 42; refine (C42.out _).mono ?_; rintro e v1 ⟨rfl, rfl⟩)
    go_ret
    exact ⟨rfl, (Below.refl _ _).alloc (Nat.le_refl _) _⟩
theorem check_neg (k f c : Int) (d : ByteArray) (hf : f = 0 ∨ f = 1) (hc : c < 0) (hk : k = 0) (g : Nat) (w : World) :
    Calls Try.prog 53 #[.pointer (some ⟨g, 0, none⟩), .agg #[.int .i64 k, .int .i64 f, .int .i64 c, .string d]] w fun e w' => e = .returned (.int .i64 1) ∧ Below w.heap.size w w' := by
  have C42 := Lib.hid (fun W => isEnd_any f W)
  rw [decide_eq_true hf] at C42
  subst hk
  clear hf
  go_enter Try.func53, Try.ntmps53
  go_wp2_with (go_at_call 42; refine (C42.out _).mono ?_; rintro e v1 ⟨rfl, rfl⟩)
  go_ret
  exact ⟨rfl, (Below.refl _ _).alloc (Nat.le_refl _) _⟩
theorem check_lim (k f c : Int) (d : ByteArray) (hf : f = 0 ∨ f = 1) (hd : 8192 < d.size) (hk : k = 1) (g : Nat) (w : World) :
    Calls Try.prog 53 #[.pointer (some ⟨g, 0, none⟩), .agg #[.int .i64 k, .int .i64 f, .int .i64 c, .string d]] w fun e w' => e = .returned (.int .i64 3) ∧ Below w.heap.size w w' := by
  have C42 := Lib.hid (fun W => isEnd_any f W)
  rw [decide_eq_true hf] at C42
  subst hk
  have hd2 : (8192 : Int) < d.size := by omega
  clear hf hd
  go_enter Try.func53, Try.ntmps53
  go_wp2_with (go_at_call 42; refine (C42.out _).mono ?_; rintro e v1 ⟨rfl, rfl⟩)
  go_ret
  exact ⟨rfl, (Below.refl _ _).alloc (Nat.le_refl _) _⟩
set_option maxHeartbeats 1600000 in
theorem check_ok (x : Op) (hx : OpIn x) (hn : ¬ (x.kind = 0 ∧ x.count < 0)) (hd : ¬ (x.kind = 1 ∧ 8192 < x.data.size)) (g : Nat) (S : Sl) (st : St) (w : World) (hP : PipeAt w g S st) (hs : Sm st) :
    Calls Try.prog 53 #[.pointer (some ⟨g, 0, none⟩), opV x] w fun e w' => e = .returned (.int .i64 (if clB st x.fin then 28 else if clB st (1 - x.fin) ∧ (x.kind = 1 ∨ readyB st x = false) then 28 else 0)) ∧ Below w.heap.size w w' := by
  have C42 := Lib.hid (fun W => isEnd_any x.fin W)
  rw [decide_eq_true hx.2] at C42
  have CR := Lib.hid (fun W (hb : Below w.heap.size w W) => ready_any x hx g S st W (hP.below hb) hs)
  have z1 := hP.cells.2.1
  have z3 := hP.cells.2.2.2.1
  have hg := hP.blk.lt
  obtain ⟨k, f, c, d⟩ := x
  obtain ⟨hk, hf⟩ := hx
  generalize readyB st ⟨k, f, c, d⟩ = rb at *
  unfold clB
  unfold opV at *
  simp only at hk hf C42 hn hd
  have y1 := cells_far (w := w) (v := w.alloc (.cells #[.int .i64 k, .int .i64 f, .int .i64 c, .string d] 42)) ((Below.refl _ _).alloc (Nat.le_refl _) _) hg 1 z1
  have y3 := cells_far (w := w) (v := w.alloc (.cells #[.int .i64 k, .int .i64 f, .int .i64 c, .string d] 42)) ((Below.refl _ _).alloc (Nat.le_refl _) _) hg 3 z3
  have KB := Lib.hid (Blk.new w 42 [.int .i64 k, .int .i64 f, .int .i64 c, .string d])
  have BB : Hid (Below w.heap.size w (w.alloc (.cells #[.int .i64 k, .int .i64 f, .int .i64 c, .string d] 42))) := Lib.hid ((Below.refl _ _).alloc (Nat.le_refl _) _)
  clear hP hs
  generalize st.c0 = c0 at *
  generalize st.c1 = c1 at *
  clear z1 z3
  have hc : k = 0 → ¬ c < 0 := fun e h => hn ⟨e, h⟩
  have hd2 : k = 1 → ¬ (8192 : Int) < d.size := fun e h => hd ⟨e, by omega⟩
  clear hn hd
  rcases hk with rfl | rfl <;> rcases hf with rfl | rfl <;> cases c0 <;> cases c1
  -- 0 0 False False
  · have hc0 := hc rfl
    clear hc hd2
    go_enter Try.func53, Try.ntmps53
    go_upto_region 10 with (go_at_call 42; refine (C42.out _).mono ?_; rintro e v1 ⟨rfl, rfl⟩)
    go_quiet (fail)
    go_upto_region 11 with fail
    go_quiet (fail)
    go_wp2_with fail
    go_ret
    exact ⟨rfl, belowN BB.out _⟩
  -- 0 0 False True
  · have hc0 := hc rfl
    clear hc hd2
    cases rb
    all_goals
      go_enter Try.func53, Try.ntmps53
      go_upto_region 10 with (go_at_call 42; refine (C42.out _).mono ?_; rintro e v1 ⟨rfl, rfl⟩)
      go_quiet (fail)
      go_upto_region 11 with fail
      obtain ⟨V, hV⟩ : ∃ V, V = (w.alloc (.cells #[.int .i64 0, .int .i64 0, .int .i64 c, .string d] 42)).drewN nq := ⟨_, rfl⟩
      rw [← hV]
      have x1 : V.cell? ⟨g, 1, none⟩ = some (.bool false) := by rw [hV, World.cell?_drewN]; exact y1
      have x3 : V.cell? ⟨g, 3, none⟩ = some (.bool true) := by rw [hV, World.cell?_drewN]; exact y3
      have KV : Hid (Blk V w.heap.size 42 [.int .i64 0, .int .i64 0, .int .i64 c, .string d]) := by rw [hV]; exact Lib.hid KB.out
      have BV : Hid (Below w.heap.size w V) := by rw [hV]; exact Lib.hid (belowN BB.out _)
      have x4 : V.cell? ⟨w.heap.size, 0, none⟩ = some (.int .i64 0) := KV.out.cell 0
      have x5 : V.cell? ⟨w.heap.size, 1, none⟩ = some (.int .i64 0) := KV.out.cell 1
      have x6 : V.cell? ⟨w.heap.size, 2, none⟩ = some (.int .i64 c) := KV.out.cell 2
      have x7 : V.cell? ⟨w.heap.size, 3, none⟩ = some (.string d) := KV.out.cell 3
      have hw1 : IntKind.i64.wrap (1 - 0) = 1 := by decide
      have hw2 : IntKind.i64.wrap 1 = 1 := by decide
      have HG : Hid (g < V.drew.heap.size) := Lib.hid (Nat.lt_of_lt_of_le hg BV.out.size)
      have HW : Hid (w.heap.size < V.drew.heap.size) := Lib.hid KV.out.lt
      clear hV y1 y3
      go_region_held3 (fun W => W.cell? ⟨g, 1, none⟩ = some (.bool false) ∧ W.cell? ⟨g, 3, none⟩ = some (.bool true) ∧ W.cell? ⟨w.heap.size, 0, none⟩ = some (.int .i64 0) ∧ W.cell? ⟨w.heap.size, 1, none⟩ = some (.int .i64 0) ∧ W.cell? ⟨w.heap.size, 2, none⟩ = some (.int .i64 c) ∧ W.cell? ⟨w.heap.size, 3, none⟩ = some (.string d)) (first | go_keep | exact ⟨x1', x3', x4', x5', x6', x7'⟩) ((go_at_call 71; refine (CR.out _ ?_).mono ?_; exact BV.out.drew; rintro e v4 ⟨rfl, hb4⟩; have B4 := Lib.hid (keepBelow BV.out.drew hb4); have x1' := cells_far hb4 HG.out 1 x1; have x3' := cells_far hb4 HG.out 3 x3; have x4' := cells_far hb4 HW.out 0 x4; have x5' := cells_far hb4 HW.out 1 x5; have x6' := cells_far hb4 HW.out 2 x6; have x7' := cells_far hb4 HW.out 3 x7; clear hb4))
      all_goals go_wp2_with fail
      all_goals go_ret
      all_goals exact ⟨rfl, B4.out⟩
  -- 0 0 True False
  · have hc0 := hc rfl
    clear hc hd2
    go_enter Try.func53, Try.ntmps53
    go_upto_region 10 with (go_at_call 42; refine (C42.out _).mono ?_; rintro e v1 ⟨rfl, rfl⟩)
    go_quiet (fail)
    go_wp2_with fail
    go_ret
    exact ⟨rfl, belowN BB.out _⟩
  -- 0 0 True True
  · have hc0 := hc rfl
    clear hc hd2
    go_enter Try.func53, Try.ntmps53
    go_upto_region 10 with (go_at_call 42; refine (C42.out _).mono ?_; rintro e v1 ⟨rfl, rfl⟩)
    go_quiet (fail)
    go_wp2_with fail
    go_ret
    exact ⟨rfl, belowN BB.out _⟩
  -- 0 1 False False
  · have hc0 := hc rfl
    clear hc hd2
    go_enter Try.func53, Try.ntmps53
    go_upto_region 10 with (go_at_call 42; refine (C42.out _).mono ?_; rintro e v1 ⟨rfl, rfl⟩)
    go_quiet (fail)
    go_upto_region 11 with fail
    go_quiet (fail)
    go_wp2_with fail
    go_ret
    exact ⟨rfl, belowN BB.out _⟩
  -- 0 1 False True
  · have hc0 := hc rfl
    clear hc hd2
    go_enter Try.func53, Try.ntmps53
    go_upto_region 10 with (go_at_call 42; refine (C42.out _).mono ?_; rintro e v1 ⟨rfl, rfl⟩)
    go_quiet (fail)
    go_wp2_with fail
    go_ret
    exact ⟨rfl, belowN BB.out _⟩
  -- 0 1 True False
  · have hc0 := hc rfl
    clear hc hd2
    cases rb
    all_goals
      go_enter Try.func53, Try.ntmps53
      go_upto_region 10 with (go_at_call 42; refine (C42.out _).mono ?_; rintro e v1 ⟨rfl, rfl⟩)
      go_quiet (fail)
      go_upto_region 11 with fail
      obtain ⟨V, hV⟩ : ∃ V, V = (w.alloc (.cells #[.int .i64 0, .int .i64 1, .int .i64 c, .string d] 42)).drewN nq := ⟨_, rfl⟩
      rw [← hV]
      have x1 : V.cell? ⟨g, 1, none⟩ = some (.bool true) := by rw [hV, World.cell?_drewN]; exact y1
      have x3 : V.cell? ⟨g, 3, none⟩ = some (.bool false) := by rw [hV, World.cell?_drewN]; exact y3
      have KV : Hid (Blk V w.heap.size 42 [.int .i64 0, .int .i64 1, .int .i64 c, .string d]) := by rw [hV]; exact Lib.hid KB.out
      have BV : Hid (Below w.heap.size w V) := by rw [hV]; exact Lib.hid (belowN BB.out _)
      have x4 : V.cell? ⟨w.heap.size, 0, none⟩ = some (.int .i64 0) := KV.out.cell 0
      have x5 : V.cell? ⟨w.heap.size, 1, none⟩ = some (.int .i64 1) := KV.out.cell 1
      have x6 : V.cell? ⟨w.heap.size, 2, none⟩ = some (.int .i64 c) := KV.out.cell 2
      have x7 : V.cell? ⟨w.heap.size, 3, none⟩ = some (.string d) := KV.out.cell 3
      have hw1 : IntKind.i64.wrap (1 - 1) = 0 := by decide
      have hw2 : IntKind.i64.wrap 0 = 0 := by decide
      have HG : Hid (g < V.drew.heap.size) := Lib.hid (Nat.lt_of_lt_of_le hg BV.out.size)
      have HW : Hid (w.heap.size < V.drew.heap.size) := Lib.hid KV.out.lt
      clear hV y1 y3
      go_region_held3 (fun W => W.cell? ⟨g, 1, none⟩ = some (.bool true) ∧ W.cell? ⟨g, 3, none⟩ = some (.bool false) ∧ W.cell? ⟨w.heap.size, 0, none⟩ = some (.int .i64 0) ∧ W.cell? ⟨w.heap.size, 1, none⟩ = some (.int .i64 1) ∧ W.cell? ⟨w.heap.size, 2, none⟩ = some (.int .i64 c) ∧ W.cell? ⟨w.heap.size, 3, none⟩ = some (.string d)) (first | go_keep | exact ⟨x1', x3', x4', x5', x6', x7'⟩) ((go_at_call 71; refine (CR.out _ ?_).mono ?_; exact BV.out.drew; rintro e v4 ⟨rfl, hb4⟩; have B4 := Lib.hid (keepBelow BV.out.drew hb4); have x1' := cells_far hb4 HG.out 1 x1; have x3' := cells_far hb4 HG.out 3 x3; have x4' := cells_far hb4 HW.out 0 x4; have x5' := cells_far hb4 HW.out 1 x5; have x6' := cells_far hb4 HW.out 2 x6; have x7' := cells_far hb4 HW.out 3 x7; clear hb4))
      all_goals go_wp2_with fail
      all_goals go_ret
      all_goals exact ⟨rfl, B4.out⟩
  -- 0 1 True True
  · have hc0 := hc rfl
    clear hc hd2
    go_enter Try.func53, Try.ntmps53
    go_upto_region 10 with (go_at_call 42; refine (C42.out _).mono ?_; rintro e v1 ⟨rfl, rfl⟩)
    go_quiet (fail)
    go_wp2_with fail
    go_ret
    exact ⟨rfl, belowN BB.out _⟩
  -- 1 0 False False
  · have hd0 := hd2 rfl
    clear hc hd2
    go_enter Try.func53, Try.ntmps53
    go_upto_region 10 with (go_at_call 42; refine (C42.out _).mono ?_; rintro e v1 ⟨rfl, rfl⟩)
    go_quiet (fail)
    go_upto_region 11 with fail
    go_quiet (fail)
    go_wp2_with fail
    go_ret
    exact ⟨rfl, belowN BB.out _⟩
  -- 1 0 False True
  · have hd0 := hd2 rfl
    clear hc hd2
    go_enter Try.func53, Try.ntmps53
    go_upto_region 10 with (go_at_call 42; refine (C42.out _).mono ?_; rintro e v1 ⟨rfl, rfl⟩)
    go_quiet (fail)
    go_upto_region 11 with fail
    go_quiet (fail)
    go_wp2_with fail
    go_ret
    exact ⟨rfl, belowN BB.out _⟩
  -- 1 0 True False
  · have hd0 := hd2 rfl
    clear hc hd2
    go_enter Try.func53, Try.ntmps53
    go_upto_region 10 with (go_at_call 42; refine (C42.out _).mono ?_; rintro e v1 ⟨rfl, rfl⟩)
    go_quiet (fail)
    go_wp2_with fail
    go_ret
    exact ⟨rfl, belowN BB.out _⟩
  -- 1 0 True True
  · have hd0 := hd2 rfl
    clear hc hd2
    go_enter Try.func53, Try.ntmps53
    go_upto_region 10 with (go_at_call 42; refine (C42.out _).mono ?_; rintro e v1 ⟨rfl, rfl⟩)
    go_quiet (fail)
    go_wp2_with fail
    go_ret
    exact ⟨rfl, belowN BB.out _⟩
  -- 1 1 False False
  · have hd0 := hd2 rfl
    clear hc hd2
    go_enter Try.func53, Try.ntmps53
    go_upto_region 10 with (go_at_call 42; refine (C42.out _).mono ?_; rintro e v1 ⟨rfl, rfl⟩)
    go_quiet (fail)
    go_upto_region 11 with fail
    go_quiet (fail)
    go_wp2_with fail
    go_ret
    exact ⟨rfl, belowN BB.out _⟩
  -- 1 1 False True
  · have hd0 := hd2 rfl
    clear hc hd2
    go_enter Try.func53, Try.ntmps53
    go_upto_region 10 with (go_at_call 42; refine (C42.out _).mono ?_; rintro e v1 ⟨rfl, rfl⟩)
    go_quiet (fail)
    go_wp2_with fail
    go_ret
    exact ⟨rfl, belowN BB.out _⟩
  -- 1 1 True False
  · have hd0 := hd2 rfl
    clear hc hd2
    go_enter Try.func53, Try.ntmps53
    go_upto_region 10 with (go_at_call 42; refine (C42.out _).mono ?_; rintro e v1 ⟨rfl, rfl⟩)
    go_quiet (fail)
    go_upto_region 11 with fail
    go_quiet (fail)
    go_wp2_with fail
    go_ret
    exact ⟨rfl, belowN BB.out _⟩
  -- 1 1 True True
  · have hd0 := hd2 rfl
    clear hc hd2
    go_enter Try.func53, Try.ntmps53
    go_upto_region 10 with (go_at_call 42; refine (C42.out _).mono ?_; rintro e v1 ⟨rfl, rfl⟩)
    go_quiet (fail)
    go_wp2_with fail
    go_ret
    exact ⟨rfl, belowN BB.out _⟩
theorem badB_no {x : Op} (h : badB x = false) : OpIn x ∧ ¬ (x.kind = 0 ∧ x.count < 0) := by
  unfold badB at h
  simp only [Bool.or_eq_false_iff, Bool.and_eq_false_iff, bne_eq_false_iff_eq, beq_eq_false_iff_ne, decide_eq_false_iff_not] at h
  obtain ⟨⟨h1, h2⟩, h3⟩ := h
  exact ⟨⟨h1, h2⟩, fun h => h3.elim (fun e => e h.1) (fun e => e h.2)⟩
theorem badB_yes {x : Op} (h : badB x = true) : (x.kind ≠ 0 ∧ x.kind ≠ 1) ∨ ((x.kind = 0 ∨ x.kind = 1) ∧ x.fin ≠ 0 ∧ x.fin ≠ 1) ∨ ((x.fin = 0 ∨ x.fin = 1) ∧ x.count < 0 ∧ x.kind = 0) := by
  unfold badB at h
  simp only [Bool.or_eq_true, Bool.and_eq_true, bne_iff_ne, beq_iff_eq, decide_eq_true_eq] at h
  by_cases h1 : x.kind = 0 ∨ x.kind = 1
  · by_cases h2 : x.fin = 0 ∨ x.fin = 1
    · rcases h with (⟨a, b⟩ | ⟨a, b⟩) | ⟨a, b⟩
      · exact absurd h1 (fun h => h.elim a b)
      · exact absurd h2 (fun h => h.elim a b)
      · exact .inr (.inr ⟨h2, b, a⟩)
    · exact .inr (.inl ⟨h1, fun e => h2 (.inl e), fun e => h2 (.inr e)⟩)
  · exact .inl ⟨fun e => h1 (.inl e), fun e => h1 (.inr e)⟩
theorem check_any (x : Op) (g : Nat) (S : Sl) (st : St) (w : World) (hP : PipeAt w g S st) (hs : Sm st) :
    Calls Try.prog 53 #[.pointer (some ⟨g, 0, none⟩), opV x] w fun e w' => e = .returned (.int .i64 (checkE st x)) ∧ Below w.heap.size w w' := by
  unfold checkE
  cases hb : badB x with
  | true =>
    rw [if_pos rfl]
    rcases badB_yes hb with ⟨a, b⟩ | ⟨a, b, c⟩ | ⟨a, b, c⟩
    · exact check_kind x.kind x.fin x.count x.data a b g w
    · exact check_end x.kind x.fin x.count x.data a b c g w
    · exact check_neg x.kind x.fin x.count x.data a b c g w
  | false =>
    obtain ⟨h1, h2⟩ := badB_no hb
    rw [if_neg (by simp)]
    by_cases hd : x.kind = 1 ∧ 8192 < x.data.size
    · rw [if_pos hd]
      exact check_lim x.kind x.fin x.count x.data h1.2 hd.2 hd.1 g w
    · rw [if_neg hd]
      exact check_ok x h1 h2 hd g S st w hP hs
end Go.Proofs.Ytmnlojbfdpjjdaa
