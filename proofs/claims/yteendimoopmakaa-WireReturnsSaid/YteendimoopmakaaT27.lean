/- The reference's reader: stop, take, value. Conditions stand in each theorem. -/
import Derived.Test.YteendimoopmakaaT20
import Derived.Test.YteendimoopmakaaT12
import Derived.Laws.ResultCell
import Derived.Laws.Rows
import Derived.RegionTactic
import Derived.ChangeAlike
import Derived.Outline
namespace Go.Proofs.Yteendimoopmakaa
open Go.RowKit

def rr (s : ByteArray) (a : Int) (c : Int) : Value := .agg #[.string s, .int .i64 a, .int .i64 c]
theorem results_tmp_cell {fn : Func} {p u : Tmp} {ty : TypeId} (h : fn.results = #[.tmp u, .cell p ty]) (tmps : Array Value) (P : Program) (w : World) :
    (results fn tmps).run P w =
      ((asAddr (tmps.getD p undef)).run P w).andThen fun a w₁ => ((loadVar ty a).run P w₁).andThen fun v w₂ => .ok (.tuple #[tmps.getD u undef, v]) w₂ := by
  simp only [results, h]
  simp [Sem.run_bind, Result.andThen]
theorem blk_drew {w : World} {g : Nat} {t : TypeId} {cs : List Value} (h : Blk w g t cs) : Blk w.drew g t cs := h
theorem below_drew {w W : World} {B : Nat} (h : Below B w W) : Below B w W.drew := ⟨h.os, h.tape, h.output, h.size, h.block⟩
theorem rr_load (w : World) (g : Nat) (s : ByteArray) (a : Int) (c : Int) (hB : Blk w g 43 [.string s, .int .i64 a, .int .i64 c]) : (loadVar 43 ⟨g, 0, none⟩).run Try.prog w = .ok (rr s a c) w :=
  run_loadVar_row (P := Try.prog) w g 43 43 #[.string s, .int .i64 a, .int .i64 c] (0, 0) _ hB Try.underlying43 rfl (by kernel_rfl)
theorem rr_res2 {fn : Func} {p u : Tmp} (h : fn.results = #[.tmp u, .cell p 43]) (tmps : Array Value) (w : World) (g : Nat) (s : ByteArray) (a : Int) (c : Int) (x : Value) (h4 : tmps.getD p undef = .pointer (some ⟨g, 0, none⟩)) (h5 : tmps.getD u undef = x) (hB : Blk w g 43 [.string s, .int .i64 a, .int .i64 c]) :
    (results fn tmps).run Try.prog w = .ok (.tuple #[x, rr s a c]) w := by
  rw [results_tmp_cell h, h4, h5]
  have := rr_load w g s a c hB
  simp [asAddr, this, Result.andThen]
theorem rr_res1 {fn : Func} {p : Tmp} (h : fn.results = #[.cell p 43]) (tmps : Array Value) (w : World) (g : Nat) (s : ByteArray) (a : Int) (c : Int) (h4 : tmps.getD p undef = .pointer (some ⟨g, 0, none⟩)) (hB : Blk w g 43 [.string s, .int .i64 a, .int .i64 c]) :
    (results fn tmps).run Try.prog w = .ok (rr s a c) w := by
  have h4' : tmps[p]?.getD undef = .pointer (some ⟨g, 0, none⟩) := by simpa using h4
  have := rr_load w g s a c hB
  simp [results, h, h4', asAddr, this]
theorem blk_new1 (w : World) (o : Obj) (t : TypeId) (cs : List Value) : Blk ((w.alloc o).alloc (.cells cs.toArray t)) (w.heap.size + 1) t cs := by
  have := Blk.new (w.alloc o) t cs
  rwa [show (w.alloc o).heap.size = w.heap.size + 1 by simp] at this
theorem bcell {W w1 : World} (hb : Below W.heap.size W w1) : (∀ b o, b < W.heap.size → w1.cell? ⟨b, o, none⟩ = W.cell? ⟨b, o, none⟩) ∧ (∀ b o, b < W.heap.size → w1.frozen? ⟨b, o, none⟩ = W.frozen? ⟨b, o, none⟩) :=
  ⟨fun b o h => hb.cell (p := ⟨b, o, none⟩) h, fun b o h => hb.frozen (p := ⟨b, o, none⟩) h⟩

theorem stop_any (s : ByteArray) (a : Int) (c e : Int) (w : World) : Calls Try.prog 57 #[rr s a c, .int .i64 e] w fun en w' => en = .returned (rr s a e) ∧ Below w.heap.size w w' := by
  unfold rr
  go_enter Try.func57, Try.ntmps57
  go_wp2
  refine bodyPost_ret (rr_res1 rfl _ _ (w.heap.size + 1) s a e rfl (blk_new1 _ _ 43 [_, _, _])) rfl ⟨rfl, ((Below.refl _ _).alloc (Nat.le_refl _) _).alloc (by simp) _⟩
theorem stop_open (s : ByteArray) (a : Int) (c e : Int) (w : World) : Calls Try.prog 57 #[.agg #[.string s, .int .i64 a, .int .i64 c], .int .i64 e] w fun en w' => en = .returned (.agg #[.string s, .int .i64 a, .int .i64 e]) ∧ Below w.heap.size w w' := stop_any s a c e w
/-- What a call of the reference's reader hands back. -/
def RefGot (w : World) (s : ByteArray) (v : Value) (k c : Int) (e : Ending) (w' : World) : Prop := e = .returned (.tuple #[v, .agg #[.string s, .int .i64 k, .int .i64 c]]) ∧ Below w.heap.size w w'
/-- the box of a parameter and the cell of a result -/
def two (w : World) (s : ByteArray) (a c : Int) : World := (w.alloc (.cells #[.string s, .int .i64 a, .int .i64 c] 43)).alloc (.cells #[.string ⟨#[]⟩, .int .i64 0, .int .i64 0] 43)
theorem two_below (w : World) (s : ByteArray) (a c : Int) : Below w.heap.size w (two w s a c) := ((Below.refl _ _).alloc (Nat.le_refl _) _).alloc (by simp) _
theorem two_size (w : World) (s : ByteArray) (a c : Int) : (two w s a c).heap.size = w.heap.size + 2 := by simp [two]
theorem two_res (w : World) (s : ByteArray) (a c : Int) : Blk (two w s a c) (w.heap.size + 1) 43 [.string ⟨#[]⟩, .int .i64 0, .int .i64 0] := blk_new1 _ _ 43 [_, _, _]
theorem two_box (w : World) (s : ByteArray) (a c : Int) : Blk (two w s a c) w.heap.size 43 [.string s, .int .i64 a, .int .i64 c] := (Blk.new w 43 [_, _, _]).alloc _
/-- behind a callee: the three stores into the result's cell -/
theorem fin_blk {w w1 : World} {s q : ByteArray} {a c : Int} (hb : Below (two w s a c).heap.size (two w s a c) w1) (k e : Int) :
    Blk (((w1.setCell ⟨w.heap.size + 1, 0, none⟩ (.string q)).setCell ⟨w.heap.size + 1, 1, none⟩ (.int .i64 k)).setCell ⟨w.heap.size + 1, 2, none⟩ (.int .i64 e)) (w.heap.size + 1) 43 [.string q, .int .i64 k, .int .i64 e] :=
  ((((two_res w s a c).below hb (by rw [two_size]; omega)).set_ 0 _).set_ 1 _).set_ 2 _
theorem fin_below {w w1 : World} {s : ByteArray} {a c : Int} (hb : Below (two w s a c).heap.size (two w s a c) w1) (q k e : Value) :
    Below w.heap.size w (((w1.setCell ⟨w.heap.size + 1, 0, none⟩ q).setCell ⟨w.heap.size + 1, 1, none⟩ k).setCell ⟨w.heap.size + 1, 2, none⟩ e) :=
  ((((two_below w s a c).trans (hb.mono (by rw [two_size]; omega))).setCell (by simp) _).setCell (by simp) _).setCell (by simp) _

set_option maxHeartbeats 800000 in
theorem rtake_end (s : ByteArray) (a : Nat) (n : Int) (w : World) (ha : a ≤ s.size) (hs : s.size ≤ 140737488351232) (hlt : (s.size : Int) - a < n) : Calls Try.prog 80 #[.agg #[.string s, .int .i64 a, .int .i64 0], .int .i64 n] w (RefGot w s (.string ⟨#[]⟩) a 16) := by
  go_enter Try.func80, Try.ntmps80
  go_wp2_with (go_at_call 57; refine (stop_open s a 0 16 _).mono ?_; rintro e w1 ⟨rfl, hb1⟩; obtain ⟨hc, hf⟩ := bcell hb1)
  exact bodyPost_ret (rr_res2 rfl _ _ (w.heap.size + 1) s a 16 _ rfl rfl (fin_blk hb1 _ _)) rfl ⟨rfl, fin_below hb1 _ _ _⟩
set_option maxHeartbeats 800000 in
theorem rtake_ok (s : ByteArray) (a m : Nat) (w : World) (ha : a + m ≤ s.size) (hs : s.size ≤ 140737488351232) : Calls Try.prog 80 #[.agg #[.string s, .int .i64 a, .int .i64 0], .int .i64 m] w (RefGot w s (.string (s.extract a (a + m))) ((a + m : Nat) : Int) 0) := by
  go_enter Try.func80, Try.ntmps80
  go_wp2_with fail
  go_region
  go_wp2
  exact bodyPost_ret (rr_res2 rfl _ _ (w.heap.size + 1) s (↑a + ↑m) 0 _ rfl rfl (blk_drew (blk_new1 _ _ 43 [_, _, _]))) rfl ⟨rfl, below_drew (((Below.refl _ _).alloc (Nat.le_refl _) _).alloc (by simp) _)⟩
theorem rtake_any (s : ByteArray) (a : Nat) (n : Int) (w : World) (ha : a ≤ s.size) (hs : s.size ≤ 140737488351232) (hn : 0 ≤ n) :
    Calls Try.prog 80 #[.agg #[.string s, .int .i64 a, .int .i64 0], .int .i64 n] w (RefGot w s (takeV s a n) ((if takeC s a n = 0 then a + n.toNat else a : Nat) : Int) (takeC s a n)) := by
  unfold takeV takeC
  by_cases hlt : (s.size : Int) - a < n
  · rw [if_pos hlt, if_pos hlt]
    exact rtake_end s a n w ha hs hlt
  · rw [if_neg hlt, if_neg hlt]
    obtain ⟨m, rfl⟩ := Int.eq_ofNat_of_zero_le hn
    exact rtake_ok s a m w (by omega) hs

theorem leN_drop (q : ByteArray) (i : Nat) (h : i < q.size) : leN (q.data.toList.drop i) = q[i].toNat + 256 * leN (q.data.toList.drop (i + 1)) := by
  have hl : q.data.toList.length = q.size := Array.length_toList
  rw [List.drop_eq_getElem_cons (by omega)]
  rfl
theorem leN_or (u b : Nat) (hb : b < 256) (hu : 256 * u + b < 18446744073709551616) : bits .or .u64 ((u : Int) * 256 % 18446744073709551616) (b : Int) = ((b + 256 * u : Nat) : Int) := by
  have e : ((u : Int) * 256 % 18446744073709551616) = ((u * 256 : Nat) : Int) := by omega
  rw [e, u64_or _ _ (by omega) (by omega) (by omega) (by omega), Int.toNat_natCast, Int.toNat_natCast, nat_join 8 _ _ (by omega) (by omega)]
  omega
set_option maxHeartbeats 800000 in
theorem value_any (q : ByteArray) (w : World) (hq : q.size ≤ 8) : Calls Try.prog 81 #[.string q] w fun e w' => e = .returned (.int .u64 (leN q.data.toList)) ∧ w = w' := by
  go_enter Try.func81, Try.ntmps81
  go_wp2
  go_loop [3, 4] (fun u i => ∃ k : Nat, k ≤ q.size ∧ i = .int .i64 ((k : Int) - 1) ∧ u = .int .u64 (leN (q.data.toList.drop k))) (fun _ i => (intOf i + 1).toNat)
  case atStart => exact ⟨q.size, by omega, rfl, by rw [List.drop_of_length_le (by have hl : q.data.toList.length = q.size := Array.length_toList; omega)]; rfl⟩
  case round =>
    obtain ⟨k, hk, rfl, rfl⟩ := hrel
    by_cases h0 : 1 ≤ k
    · obtain ⟨j, rfl⟩ : ∃ j, k = j + 1 := ⟨k - 1, by omega⟩
      have hjq : j < q.size := by omega
      have e1 : ((j + 1 : Nat) : Int) - 1 = j := by omega
      rw [e1]
      have hd := leN_drop q j hjq
      have hb8 := q[j].toNat_lt
      have hlt := leN_lt (q.data.toList.drop j)
      have hll : (q.data.toList.drop j).length ≤ 8 := by rw [List.length_drop, Array.length_toList]; exact Nat.le_trans (Nat.sub_le _ _) hq
      have hp : (256 : Nat) ^ (q.data.toList.drop j).length ≤ 256 ^ 8 := Nat.pow_le_pow_right (by omega) hll
      have hp8 : (256 : Nat) ^ 8 = 18446744073709551616 := by decide
      have HO := Lib.hid (leN_or (leN (q.data.toList.drop (j + 1))) q[j].toNat hb8 (by omega))
      have HD := Lib.hid hd
      have hub : leN (q.data.toList.drop (j + 1)) < 18446744073709551616 := by omega
      clear hd hlt hll hp hp8 e1 h0
      generalize leN (q.data.toList.drop (j + 1)) = U at *
      go_wp2
      go_round
      case rel => exact ⟨j, by omega, rfl, by rw [HD.out, ← HO.out, wrapu]⟩
      case measure => simp [intOf]
    · obtain rfl : k = 0 := by omega
      go_wp2
      go_ret
      exact ⟨rfl, rfl⟩
end Go.Proofs.Yteendimoopmakaa
