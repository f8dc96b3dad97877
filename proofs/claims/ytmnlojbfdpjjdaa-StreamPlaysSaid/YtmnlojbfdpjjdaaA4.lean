/- like: how many operations of a kind wait at an end. -/
import Derived.Test.YtmnlojbfdpjjdaaA3
namespace Go.Proofs.Ytmnlojbfdpjjdaa
open Go.RowKit
def wt0 : Wt := ⟨⟨0, 0, 0, ByteArray.empty⟩, 0⟩
theorem wtsC_get (l : List Wt) : ∀ m, m < l.length → ∀ i, i < 5 → (wtsC l)[m * 5 + i]? = (wtC (l.getD m wt0))[i]? := by
  induction l with
  | nil => intro m hm; simp at hm
  | cons a l ih =>
    intro m hm i hi
    cases m with
    | zero =>
      rw [Nat.zero_mul, Nat.zero_add]
      show (wtC a ++ wtsC l)[i]? = _
      rw [List.getElem?_append_left (by simpa [wtC] using hi)]; rfl
    | succ m =>
      show (wtC a ++ wtsC l)[(m + 1) * 5 + i]? = _
      rw [List.getElem?_append_right (by simp [wtC]; omega)]
      simp only [List.length_cons, Nat.add_lt_add_iff_right] at hm
      rw [show (m + 1) * 5 + i - (wtC a).length = m * 5 + i by simp [wtC]; omega, ih m hm i hi]
      rfl
def same (x : Op) (y : Wt) : Bool := y.op.kind == x.kind && y.op.fin == x.fin
def likeN (l : List Wt) (x : Op) : Nat := (l.filter (same x)).length
theorem likeN_le (l : List Wt) (x : Op) : likeN l x ≤ l.length := List.length_filter_le _ _
theorem likeN_take (l : List Wt) (x : Op) (m : Nat) (hm : m < l.length) : likeN (l.take (m + 1)) x = likeN (l.take m) x + if same x (l.getD m wt0) then 1 else 0 := by
  unfold likeN
  rw [List.take_succ_eq_append_getElem hm, List.filter_append, List.length_append, List.getD_eq_getElem?_getD, List.getElem?_eq_getElem hm]
  congr 1
  simp only [List.filter_cons, List.filter_nil, Option.getD_some]
  split <;> rfl
/-- the cells of the m-th that waits -/
theorem wt_cells {w : World} {gb off m : Nat} {l : List Wt} (h : ∀ j, j < l.length * 5 → w.cell? ⟨gb, off + j, none⟩ = (wtsC l)[j]?) (hm : m < l.length) (y : Wt) (hy : y = l.getD m wt0) :
    w.cell? ⟨gb, off + m * 5, none⟩ = some (.int .i64 y.op.kind) ∧ w.cell? ⟨gb, off + m * 5 + 1, none⟩ = some (.int .i64 y.op.fin) ∧ w.cell? ⟨gb, off + m * 5 + 2, none⟩ = some (.int .i64 y.op.count) ∧ w.cell? ⟨gb, off + m * 5 + 3, none⟩ = some (.string y.op.data) ∧ w.cell? ⟨gb, off + m * 5 + 4, none⟩ = some (.int .i64 y.tk) := by
  subst hy
  have hg := fun i (hi : i < 5) => (h (m * 5 + i) (by omega)).trans (wtsC_get l m hm i hi)
  simp only [← Nat.add_assoc] at hg
  exact ⟨hg 0 (by omega), hg 1 (by omega), hg 2 (by omega), hg 3 (by omega), hg 4 (by omega)⟩
/-- a cell that lay in w, behind two steps -/
theorem cells_far' {w W wr : World} (hb : Below W.heap.size W wr) (hB : Below w.heap.size w W) {g : Nat} (hg : g < w.heap.size) (i : Nat) : wr.cell? ⟨g, i, none⟩ = w.cell? ⟨g, i, none⟩ :=
  (hb.cell (p := ⟨g, i, none⟩) (Nat.lt_of_lt_of_le hg hB.size)).trans (hB.cell (p := ⟨g, i, none⟩) hg)
set_option maxHeartbeats 800000 in
theorem like_any (x : Op) (g : Nat) (S : Sl) (st : St) (w : World) (hP : PipeAt w g S st) (hs : Sm st) :
    Calls Try.prog 55 #[.pointer (some ⟨g, 0, none⟩), opV x] w fun e w' => e = .returned (.int .i64 (likeN st.ws x : Nat)) ∧ Below w.heap.size w w' := by
  have hr := hP.rw_
  have hc := hP.cells.2.2.2.2.2.2.1
  have hg := hP.blk.lt
  have hql : st.ws.length ≤ 100000 := by have := hs.q; omega
  obtain ⟨k, f, c, d⟩ := x
  unfold opV
  generalize S.sw = sv at *
  generalize st.ws = q at *
  obtain ⟨W, hW⟩ : ∃ W, W = w.alloc (.cells #[.int .i64 k, .int .i64 f, .int .i64 c, .string d] 42) := ⟨_, rfl⟩
  have hB : Below w.heap.size w W := by rw [hW]; exact (Below.refl _ _).alloc (Nat.le_refl _) _
  have hsz : W.heap.size = w.heap.size + 1 := by rw [hW]; simp
  have HZ := Lib.hid hsz
  clear hsz
  have hK : Blk W w.heap.size 42 [.int .i64 k, .int .i64 f, .int .i64 c, .string d] := by rw [hW]; exact Blk.new w 42 [_, _, _, _]
  have KW := Lib.hid hK
  have BW := Lib.hid hB
  have hcw := cells_far (w := w) (v := w.alloc (.cells #[.int .i64 k, .int .i64 f, .int .i64 c, .string d] 42)) ((Below.refl _ _).alloc (Nat.le_refl _) _) hg 6 hc
  have HW := Lib.hid hW
  clear hP hs hK hB
  by_cases hn : 0 < q.length
  · obtain ⟨gb, off, cap, rfl, h1, h2, hgb, hcl, _⟩ := hr.open hn
    unfold maxLen at h2
    have HC := Lib.hid hcl
    clear hr hcl
    go_enter Try.func55, Try.ntmps55
    go_wp2_with fail
    rw [← HW.out]
    clear hcw hc
    go_loopw [5, 13] (fun n i wr => ∃ m : Nat, m ≤ q.length ∧ i = .int .i64 m ∧ n = .int .i64 (likeN (q.take m) ⟨k, f, c, d⟩ : Nat) ∧ Below W.heap.size W wr) (fun _ i _ => q.length - (intOf i).toNat)
    case atStart => exact ⟨0, by omega, rfl, rfl, Below.refl _ _⟩
    case round =>
      obtain ⟨m, hm, rfl, rfl, hb⟩ := hrel
      by_cases hlt : m < q.length
      · obtain ⟨y, hy⟩ : ∃ y, y = q.getD m wt0 := ⟨_, rfl⟩
        obtain ⟨c0, c1, c2, c3, c4⟩ := wt_cells (w := wr) (fun j hj => (cells_far' hb BW.out hgb _).trans (HC.out j hj)) hlt y hy
        have b0 : wr.cell? ⟨w.heap.size, 0, none⟩ = some (.int .i64 k) := (keepBlk hb KW.out).cell 0
        have b1 : wr.cell? ⟨w.heap.size, 1, none⟩ = some (.int .i64 f) := (keepBlk hb KW.out).cell 1
        have hwr := hb.size
        have hlw : w.heap.size < wr.heap.size := by have := HZ.out; omega
        have HB := Lib.hid hb
        have hk1 := likeN_le (q.take m) ⟨k, f, c, d⟩
        have hk2 : (q.take m).length ≤ m := List.length_take_le _ _
        have HS := Lib.hid (likeN_take q ⟨k, f, c, d⟩ m hlt)
        rw [← hy] at HS
        have HSm : Hid (same ⟨k, f, c, d⟩ y = (y.op.kind == k && y.op.fin == f)) := Lib.hid rfl
        generalize likeN (q.take m) ⟨k, f, c, d⟩ = n at *
        clear hb hy
        obtain ⟨⟨yk, yf, yc, yd⟩, yt⟩ := y
        simp only at c0 c1 c2 c3 c4 HSm
        by_cases e0 : yk = k
        · subst e0
          by_cases e1 : yf = f
          · subst e1
            go_wp2_with fail
            exact ⟨⟨m + 1, by omega, rfl, by rw [HS.out, HSm.out]; simp, (HB.out).alloc hwr _⟩, by simp [intOf]; omega⟩
          · have f1 : (yf == f) = false := by rw [beq_eq_false_iff_ne]; exact e1
            have HF := Lib.hid f1
            clear e1
            go_wp2_with fail
            exact ⟨⟨m + 1, by omega, rfl, by rw [HS.out, HSm.out, HF.out]; simp, (HB.out).alloc hwr _⟩, by simp [intOf]; omega⟩
        · have f0 : (yk == k) = false := by rw [beq_eq_false_iff_ne]; exact e0
          have HF := Lib.hid f0
          clear e0
          go_wp2_with fail
          exact ⟨⟨m + 1, by omega, rfl, by rw [HS.out, HSm.out, HF.out]; simp, (HB.out).alloc hwr _⟩, by simp [intOf]; omega⟩
      · obtain rfl : m = q.length := by omega
        rw [List.take_length]
        have HB := Lib.hid hb
        clear hb
        go_wp2_with fail
        go_ret
        exact ⟨rfl, keepBelow BW.out HB.out⟩
  · have hq0 : q = [] := List.eq_nil_of_length_eq_zero (by omega)
    subst hq0
    obtain ⟨a, cap, rfl, h1, h2⟩ := hr.form
    unfold maxLen at h2
    clear hr
    go_enter Try.func55, Try.ntmps55
    go_wp2_with fail
    rw [← HW.out]
    clear hcw hc
    go_loopw [5, 13] (fun n i wr => i = .int .i64 0 ∧ n = .int .i64 0 ∧ wr = W) (fun _ i _ => 0)
    case atStart => exact ⟨rfl, rfl, rfl⟩
    case round =>
      obtain ⟨rfl, rfl, rfl⟩ := hrel
      go_wp2_with fail
      go_ret
      exact ⟨rfl, (Below.refl _ _).alloc (Nat.le_refl _) _⟩
end Go.Proofs.Ytmnlojbfdpjjdaa
