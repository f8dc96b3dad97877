/- NewWriter, Number, Text and Len of a writer, the reference's Size, and the test of a size. Conditions stand in each theorem. -/
import Derived.Test.YteendimoopmakaaT2
import Derived.Laws.BytesString
import Derived.Laws.Cells
namespace Go.Proofs.Yteendimoopmakaa
open Go.RowKit

theorem push_fold (l : List UInt8) (s : ByteArray) : (l.map fun b => (b.toNat : Int)).foldl (fun r n => r.push (UInt8.ofNat n.toNat)) s = ⟨s.data ++ l.toArray⟩ := by
  induction l generalizing s with
  | nil => simp
  | cons b l ih =>
    rw [List.map_cons, List.foldl_cons, ih]
    simp [ByteArray.push]
/-- 'string(bytes)' of an owned row -/
theorem conv_bytes {w : World} {base : Nat} {v : Value} {n : Nat} {bs : List UInt8} (h : w.ownsRow base 5 1 v n (u8s bs)) : (convert 62 9 v).run Try.prog w = .ok (.string ⟨bs.toArray⟩) w := by
  have hn : n = bs.length := by have := h.1; rw [u8s_length] at this; omega
  rcases h.2 with ⟨rfl, h0⟩ | ⟨g, cap, cur, rfl, _, hg, _, _, _, ht⟩
  · rw [run_convert_bytes_string w 62 9 5 none 0 0 Try.underlying62 Try.underlying5 Try.underlying9]
    have : bs = [] := List.eq_nil_of_length_eq_zero (by omega)
    subst this
    rfl
  · rw [run_convert_bytes_string w 62 9 5 _ _ _ Try.underlying62 Try.underlying5 Try.underlying9]
    subst hn
    have hl := run_loadCells_list (P := Try.prog) (w := w) ⟨g, 0, none⟩ (u8s bs) (h.cells (g := g) rfl)
    rw [u8s_length] at hl
    have e : u8s bs = (bs.map fun b => (b.toNat : Int)).map (Value.int .u8) := by simp [u8s]
    rw [e] at hl
    rw [run_bytesToString w ⟨g, 0, none⟩ bs.length cap _ hl, push_fold]
    simp

theorem newWriter_any (w : World) : Calls Try.prog 11 #[] w fun e w' => e = .returned (.pointer (some ⟨w.heap.size, 0, none⟩)) ∧ w.alloc (.cells #[.slice none 0 0] 64) = w' := by
  go_enter Try.func11, Try.ntmps11
  go_wp2
  go_ret
  exact ⟨rfl, rfl⟩
theorem wr_new (w : World) : WrAt (w.alloc (.cells #[.slice none 0 0] 64)) (w.heap.size + 1) w.heap.size (.slice none 0 0) [] :=
  ⟨Blk.new w 64 [.slice none 0 0], World.ownsRow_nil _ _ _ _⟩

theorem number_nil (n : Int) (w : World) : Calls Try.prog 12 #[.pointer none, .int .i64 n] w fun e w' => e = .returned (.int .i64 6) ∧ w = w' := by
  go_enter Try.func12, Try.ntmps12
  go_wp2
  go_ret
  exact ⟨rfl, rfl⟩
theorem Number_any (n : Int) (base b : Nat) (v : Value) (bs : List UInt8) (w : World) (h0 : -9223372036854775808 ≤ n) (h1 : n ≤ 9223372036854775807) (hlen : bs.length ≤ 100000000000) (hw : WrAt w base b v bs)
   (hbase : base ≤ w.heap.size) :
    Calls Try.prog 12 #[.pointer (some ⟨b, 0, none⟩), .int .i64 n] w fun e w' => e = .returned (.int .i64 0) ∧ Wrote w w' base b v (bs ++ numB n) := by
  go_enter Try.func12, Try.ntmps12
  go_wp2_with (go_at_call 33; refine (number_any n base b v bs _ h0 h1 hlen hw hbase).mono ?_; rintro e w1 ⟨rfl, hq⟩)
  go_ret
  exact ⟨rfl, hq⟩

theorem text_nil (w : World) : Calls Try.prog 13 #[.pointer none] w fun e w' => e = .returned (.string ⟨#[]⟩) ∧ w = w' := by
  go_enter Try.func13, Try.ntmps13
  go_wp2
  go_ret
  exact ⟨rfl, rfl⟩
theorem text_any (base b : Nat) (v : Value) (bs : List UInt8) (w : World) (hw : WrAt w base b v bs) :
    Calls Try.prog 13 #[.pointer (some ⟨b, 0, none⟩)] w fun e w' => e = .returned (.string ⟨bs.toArray⟩) ∧ w = w' := by
  have hc : w.cell? ⟨b, 0, none⟩ = some v := hw.1.cell 0
  have hv := conv_bytes hw.2
  go_enter Try.func13, Try.ntmps13
  go_wp2
  go_ret
  exact ⟨rfl, rfl⟩
theorem len_nil (w : World) : Calls Try.prog 17 #[.pointer none] w fun e w' => e = .returned (.int .i64 0) ∧ w = w' := by
  go_enter Try.func17, Try.ntmps17
  go_wp2
  go_ret
  exact ⟨rfl, rfl⟩
theorem len_any (base b : Nat) (v : Value) (bs : List UInt8) (w : World) (hw : WrAt w base b v bs) :
    Calls Try.prog 17 #[.pointer (some ⟨b, 0, none⟩)] w fun e w' => e = .returned (.int .i64 bs.length) ∧ w = w' := by
  have hc : w.cell? ⟨b, 0, none⟩ = some v := hw.1.cell 0
  rcases hw.2.2 with ⟨rfl, h⟩ | ⟨g, cap, cur, rfl, _⟩
  · go_enter Try.func17, Try.ntmps17
    go_wp2
    go_ret
    exact ⟨ret_int (by rw [h]; rfl), rfl⟩
  · go_enter Try.func17, Try.ntmps17
    go_wp2
    go_ret
    exact ⟨rfl, rfl⟩
set_option maxHeartbeats 800000 in
theorem refSize_any (n : Int) (w : World) :
    Calls Try.prog 15 #[.int .i64 n] w fun e w' => e = .returned (.int .i64 (sizeN n)) ∧ w = w' := by
  rcases (show n < -268435456 ∨ (-268435456 ≤ n ∧ n < -8192) ∨ (-8192 ≤ n ∧ n < -64) ∨ (-64 ≤ n ∧ n ≤ 63) ∨ (63 < n ∧ n ≤ 8191) ∨ (8191 < n ∧ n ≤ 268435455) ∨ 268435455 < n by omega) with h | h | h | h | h | h | h
  · go_enter Try.func15, Try.ntmps15
    go_wp2
    go_ret
    exact ⟨ret_int (by unfold sizeN; rw [if_neg (by omega), if_neg (by omega), if_neg (by omega)]; rfl), rfl⟩
  · go_enter Try.func15, Try.ntmps15
    go_wp2
    go_ret
    exact ⟨ret_int (by unfold sizeN; rw [if_neg (by omega), if_neg (by omega), if_pos (by omega)]; rfl), rfl⟩
  · go_enter Try.func15, Try.ntmps15
    go_wp2
    go_ret
    exact ⟨ret_int (by unfold sizeN; rw [if_neg (by omega), if_pos (by omega)]; rfl), rfl⟩
  · go_enter Try.func15, Try.ntmps15
    go_wp2
    go_ret
    exact ⟨ret_int (by unfold sizeN; rw [if_pos (by omega)]; rfl), rfl⟩
  · go_enter Try.func15, Try.ntmps15
    go_wp2
    go_ret
    exact ⟨ret_int (by unfold sizeN; rw [if_neg (by omega), if_pos (by omega)]; rfl), rfl⟩
  · go_enter Try.func15, Try.ntmps15
    go_wp2
    go_ret
    exact ⟨ret_int (by unfold sizeN; rw [if_neg (by omega), if_neg (by omega), if_pos (by omega)]; rfl), rfl⟩
  · go_enter Try.func15, Try.ntmps15
    go_wp2
    go_ret
    exact ⟨ret_int (by unfold sizeN; rw [if_neg (by omega), if_neg (by omega), if_neg (by omega)]; rfl), rfl⟩

def sized (x : Int) : Bool := decide (x = 1 ∨ x = 2 ∨ x = 4 ∨ x = 8)
theorem sized_true {x : Int} (h : x = 1 ∨ x = 2 ∨ x = 4 ∨ x = 8) : sized x = true := by unfold sized; exact decide_eq_true h
theorem sized_false {x : Int} (h : ¬ (x = 1 ∨ x = 2 ∨ x = 4 ∨ x = 8)) : sized x = false := by unfold sized; exact decide_eq_false h
theorem sized_iff {x : Int} : sized x = true ↔ (x = 1 ∨ x = 2 ∨ x = 4 ∨ x = 8) := by unfold sized; exact decide_eq_true_iff

def sizes : List Int := [1, 2, 4, 8]
theorem sizes_mem {x : Int} : (∃ k, k < 4 ∧ sizes.getD k 0 = x) ↔ (x = 1 ∨ x = 2 ∨ x = 4 ∨ x = 8) := by
  constructor
  · rintro ⟨k, hk, rfl⟩
    rcases (show k = 0 ∨ k = 1 ∨ k = 2 ∨ k = 3 by omega) with rfl | rfl | rfl | rfl <;> decide
  · rintro (rfl | rfl | rfl | rfl)
    · exact ⟨0, by decide⟩
    · exact ⟨1, by decide⟩
    · exact ⟨2, by decide⟩
    · exact ⟨3, by decide⟩
def IndexPost (x : Int) (w : World) (e : Ending) (w' : World) : Prop := ∃ r : Int, -1 ≤ r ∧ e = .returned (.int .i64 r) ∧ (0 ≤ r ↔ sized x = true) ∧ w = w'
set_option maxHeartbeats 800000 in
theorem index4_any (x : Int) (g : Nat) (w : World) (hB : Blk w g 3 [.int .i64 1, .int .i64 2, .int .i64 4, .int .i64 8]) :
    Calls Try.prog 84 #[.slice (some ⟨g, 0, none⟩) 4 4, .int .i64 x] w (IndexPost x w) := by
  go_enter Try.func84, Try.ntmps84
  go_wp2
  go_loop [5, 8] (fun _ i => ∃ k : Nat, k ≤ 4 ∧ i = .int .i64 k ∧ ∀ j, j < k → sizes.getD j 0 ≠ x) (fun _ i => 4 - (intOf i).toNat)
  case atStart => exact ⟨0, by omega, rfl, by omega⟩
  case round =>
    obtain ⟨k, hk, rfl, hno⟩ := hrel
    have HN := Lib.hid hno
    clear hno
    by_cases hlt : k < 4
    · have hc : w.cell? ⟨g, k, none⟩ = some (.int .i64 (sizes.getD k 0)) := by
        rw [hB.cell k]
        rcases (show k = 0 ∨ k = 1 ∨ k = 2 ∨ k = 3 by omega) with rfl | rfl | rfl | rfl <;> rfl
      have HM := Lib.hid (sizes_mem (x := x))
      generalize hs : sizes.getD k 0 = y at hc
      have HS := Lib.hid hs
      clear hs
      by_cases hy : x = y
      · have hb : (x == y) = true := by rw [beq_iff_eq]; exact hy
        have HY := Lib.hid hy
        clear hy
        go_wp2
        go_ret
        exact ⟨k, by omega, rfl, ⟨fun _ => sized_iff.2 (HM.out.1 ⟨k, hlt, by rw [HS.out, HY.out]⟩), fun _ => by omega⟩, rfl⟩
      · have hb : (x == y) = false := by rw [beq_eq_false_iff_ne]; exact hy
        have HY := Lib.hid hy
        clear hy
        go_wp2
        go_round
        case rel =>
          refine ⟨k + 1, by omega, by go_num, fun j hj => ?_⟩
          rcases (show j < k ∨ j = k by omega) with h | rfl
          · exact HN.out j h
          · rw [HS.out]; exact fun h => HY.out h.symm
        case measure => simp [intOf]; omega
    · obtain rfl : k = 4 := by omega
      go_wp2
      go_ret
      refine ⟨-1, by omega, rfl, ⟨fun h => by omega, fun h => ?_⟩, rfl⟩
      obtain ⟨j, hj, he⟩ := sizes_mem.2 (sized_iff.1 h)
      exact absurd he (HN.out j hj)
theorem contains4_any (x : Int) (g : Nat) (w : World) (hB : Blk w g 3 [.int .i64 1, .int .i64 2, .int .i64 4, .int .i64 8]) :
    Calls Try.prog 83 #[.slice (some ⟨g, 0, none⟩) 4 4, .int .i64 x] w fun e w' => e = .returned (.bool (sized x)) ∧ w = w' := by
  cases hs : sized x
  all_goals
    have HS := Lib.hid hs
    clear hs
    go_enter Try.func83, Try.ntmps83
    go_wp2_with (go_at_call 84; refine (index4_any x g _ hB).mono ?_; rintro e w' ⟨r, hr1, rfl, hr, rfl⟩; rw [HS.out] at hr; have hr0 := hr; clear hr)
    go_ret
    first
      | exact ⟨by simp, rfl⟩
theorem width_any (x : Int) (w : World) : Calls Try.prog 64 #[.int .i64 x] w fun e w' => e = .returned (.bool (sized x)) ∧ Below w.heap.size w w' := by
  go_enter Try.func64, Try.ntmps64
  go_wp2_with (go_at_call 83; refine (contains4_any x _ _ (Blk.new _ 3 [.int .i64 1, .int .i64 2, .int .i64 4, .int .i64 8])).mono ?_; rintro e w' ⟨rfl, rfl⟩)
  go_ret
  exact ⟨rfl, (Below.refl _ _).alloc (Nat.le_refl _) _⟩
end Go.Proofs.Yteendimoopmakaa
