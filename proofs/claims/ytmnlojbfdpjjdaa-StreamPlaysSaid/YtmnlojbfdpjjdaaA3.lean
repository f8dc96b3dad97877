/- ready: whether an operation can be done. -/
import Derived.Test.YtmnlojbfdpjjdaaA2
namespace Go.Proofs.Ytmnlojbfdpjjdaa
open Go.RowKit
/-- the queue that an operation takes from or adds to -/
def qOf (st : St) (x : Op) : List ByteArray := if x.fin = x.kind then st.q0 else st.q1
def sizes : List ByteArray → Nat
  | [] => 0
  | b :: l => b.size + sizes l
theorem sizes_append (a b : List ByteArray) : sizes (a ++ b) = sizes a + sizes b := by
  induction a with
  | nil => simp [sizes]
  | cons x a ih => simp only [List.cons_append, sizes, ih]; omega
theorem sizes_take (l : List ByteArray) (k : Nat) (hk : k < l.length) : sizes (l.take (k + 1)) = sizes (l.take k) + (l.getD k ByteArray.empty).size := by
  rw [List.take_succ_eq_append_getElem hk, sizes_append, List.getD_eq_getElem?_getD, List.getElem?_eq_getElem hk]; rfl
theorem sizes_take_le (l : List ByteArray) (k : Nat) : sizes (l.take k) ≤ sizes l := by
  have h := sizes_append (l.take k) (l.drop k)
  rw [List.take_append_drop] at h
  omega
def readyB (st : St) (x : Op) : Bool := if x.kind = 0 then decide (0 < (qOf st x).length) else decide ((sizes (qOf st x) : Int) < st.limit)
/-- lists short and texts small enough for a machine -/
structure Sm (st : St) : Prop where
  q : st.q0.length + st.q1.length + st.ws.length ≤ 100000
  a : st.ans.length + st.ws.length ≤ 100000
  z : sizes st.q0 + sizes st.q1 + sizes (st.ws.map (·.op.data)) ≤ 1000000000000
theorem strC_get (l : List ByteArray) (j : Nat) (hj : j < l.length) : (strC l)[j]? = some (.string (l.getD j ByteArray.empty)) := by
  rw [strC, List.getElem?_map, List.getD_eq_getElem?_getD, List.getElem?_eq_getElem hj]; rfl
theorem PipeAt.queue {w : World} {g : Nat} {S : Sl} {st : St} (h : PipeAt w g S st) (x : Op) :
    ∃ sv, w.cell? ⟨g, qo x.kind x.fin, none⟩ = some sv ∧ Row w 9 1 sv (qOf st x).length (strC (qOf st x)) := by
  unfold qo qOf
  by_cases e : x.fin = x.kind
  · rw [if_pos e, if_pos e]; exact ⟨_, h.cells.1, h.r0⟩
  · rw [if_neg e, if_neg e]; exact ⟨_, h.cells.2.2.1, h.r1⟩
theorem decB {p : Prop} [Decidable p] {b : Bool} (h : (b = true) ↔ p) : decide p = b := by
  cases b <;> simp_all
theorem cells_far {w v : World} (hb : Below w.heap.size w v) {g : Nat} (hg : g < w.heap.size) (i : Nat) {x : Value} (h : w.cell? ⟨g, i, none⟩ = some x) : v.cell? ⟨g, i, none⟩ = some x := (hb.cell (p := ⟨g, i, none⟩) hg).trans h
set_option maxHeartbeats 800000 in
theorem ready_any (x : Op) (hx : OpIn x) (g : Nat) (S : Sl) (st : St) (w : World) (hP : PipeAt w g S st) (hs : Sm st) :
    Calls Try.prog 71 #[.pointer (some ⟨g, 0, none⟩), opV x] w fun e w' => e = .returned (.bool (readyB st x)) ∧ Below w.heap.size w w' := by
  have CQ := Lib.hid (fun W => queue_any g x.kind x.fin x.count x.data hx.1 hx.2 W)
  obtain ⟨sv, hc, hr⟩ := hP.queue x
  have hql : (qOf st x).length ≤ 100000 := by have := hs.q; unfold qOf; split <;> omega
  have hqz : sizes (qOf st x) ≤ 1000000000000 := by have := hs.z; unfold qOf; split <;> omega
  have hg := hP.blk.lt
  have hlim := hP.cells.2.2.2.2.1
  obtain ⟨k, f, c, d⟩ := x
  obtain ⟨hk, hf⟩ := hx
  have hrd : readyB st ⟨k, f, c, d⟩ = if k = 0 then decide (0 < (qOf st ⟨k, f, c, d⟩).length) else decide ((sizes (qOf st ⟨k, f, c, d⟩) : Int) < st.limit) := rfl
  rw [hrd]
  clear hrd
  generalize qOf st ⟨k, f, c, d⟩ = q at *
  generalize st.limit = lim at *
  unfold opV
  simp only at hk hf CQ hc
  generalize qo k f = o at *
  have hcw := cells_far (w := w) (v := w.alloc (.cells #[.int .i64 k, .int .i64 f, .int .i64 c, .string d] 42)) ((Below.refl _ _).alloc (Nat.le_refl _) _) hg o hc
  have hlw := cells_far (w := w) (v := w.alloc (.cells #[.int .i64 k, .int .i64 f, .int .i64 c, .string d] 42)) ((Below.refl _ _).alloc (Nat.le_refl _) _) hg 4 hlim
  rcases hk with rfl | rfl
  · obtain ⟨a, cap, rfl, h1, h2⟩ := hr.form
    unfold maxLen at h2
    have HD := Lib.hid (show (decide (0 < q.length)) = decide ((0 : Int) < (q.length : Int)) by simp)
    rw [if_pos rfl]
    clear hr hP hs hlw hlim
    go_enter Try.func71, Try.ntmps71
    go_wp2_with (go_at_call 73; refine (CQ.out _).mono ?_; rintro e v1 ⟨rfl, hb1⟩; have K1 := keepBlk hb1 (Blk.new w 42 [.int .i64 0, .int .i64 f, .int .i64 c, .string d]); have z1 := cells_far hb1 (by simp; omega) o hcw; have b0 : v1.cell? ⟨w.heap.size, 0, none⟩ = some (.int .i64 0) := K1.cell 0; have B1 := Lib.hid (keepBelow ((Below.refl _ _).alloc (Nat.le_refl _) _) hb1); clear hb1)
    go_ret
    exact ⟨by rw [HD.out]; rfl, B1.out⟩
  · rw [if_neg (by decide)]
    by_cases hn : 0 < q.length
    · obtain ⟨gb, off, cap, rfl, h1, h2, hgb, hcl, _⟩ := hr.open hn
      unfold maxLen at h2
      have hcl2 : ∀ j, j < q.length → w.cell? ⟨gb, off + j, none⟩ = some (.string (q.getD j ByteArray.empty)) := fun j hj => by rw [hcl j (by omega), strC_get q j hj]
      have HC := Lib.hid hcl2
      clear hr hP hs hcl hcl2
      go_enter Try.func71, Try.ntmps71
      go_wp2_with (go_at_call 73; refine (CQ.out _).mono ?_; rintro e v1 ⟨rfl, hb1⟩; have K1 := keepBlk hb1 (Blk.new w 42 [.int .i64 1, .int .i64 f, .int .i64 c, .string d]); have z1 := cells_far hb1 (by simp; omega) o hcw; have y1 := cells_far hb1 (by simp; omega) 4 hlw; have b0 : v1.cell? ⟨w.heap.size, 0, none⟩ = some (.int .i64 1) := K1.cell 0; have B1 := Lib.hid (keepBelow ((Below.refl _ _).alloc (Nat.le_refl _) _) hb1); have HC1 : Hid (∀ j, j < q.length → v1.cell? ⟨gb, off + j, none⟩ = some (.string (q.getD j ByteArray.empty))) := Lib.hid (fun j hj => cells_far (keepBelow ((Below.refl _ _).alloc (Nat.le_refl _) _) hb1) hgb _ (HC.out j hj)); clear hb1)
      go_loopw [6, 22] (fun n i wr => ∃ m : Nat, m ≤ q.length ∧ i = .int .i64 m ∧ n = .int .i64 (sizes (q.take m) : Nat) ∧ wr = v1) (fun _ i _ => q.length - (intOf i).toNat)
      case atStart => exact ⟨0, by omega, rfl, rfl, rfl⟩
      case round =>
        obtain ⟨m, hm, rfl, rfl, rfl⟩ := hrel
        by_cases hlt : m < q.length
        · have hcm := HC1.out m hlt
          have HS := Lib.hid (sizes_take q m hlt)
          have hle := sizes_take_le q (m + 1)
          have hle2 : (q.getD m ByteArray.empty).size + sizes (q.take m) ≤ 1000000000000 := by have := HS.out; omega
          generalize q.getD m ByteArray.empty = s at *
          generalize sizes (q.take m) = n at *
          clear hle
          go_wp2_with fail
          exact ⟨⟨m + 1, by omega, rfl, by rw [HS.out]; rfl, trivial⟩, by simp [intOf]; omega⟩
        · obtain rfl : m = q.length := by omega
          rw [List.take_length]
          clear hcw hlw
          go_wp2_with fail
          go_ret
          exact ⟨rfl, B1.out⟩
    · have hq0 : q = [] := List.eq_nil_of_length_eq_zero (by omega)
      subst hq0
      obtain ⟨a, cap, rfl, h1, h2⟩ := hr.form
      unfold maxLen at h2
      clear hr hP hs
      go_enter Try.func71, Try.ntmps71
      go_wp2_with (go_at_call 73; refine (CQ.out _).mono ?_; rintro e v1 ⟨rfl, hb1⟩; have K1 := keepBlk hb1 (Blk.new w 42 [.int .i64 1, .int .i64 f, .int .i64 c, .string d]); have z1 := cells_far hb1 (by simp; omega) o hcw; have y1 := cells_far hb1 (by simp; omega) 4 hlw; have b0 : v1.cell? ⟨w.heap.size, 0, none⟩ = some (.int .i64 1) := K1.cell 0; have B1 := Lib.hid (keepBelow ((Below.refl _ _).alloc (Nat.le_refl _) _) hb1); clear hb1)
      go_loopw [6, 22] (fun n i wr => i = .int .i64 0 ∧ n = .int .i64 0 ∧ wr = v1) (fun _ i _ => 0)
      case atStart => exact ⟨rfl, rfl, rfl⟩
      case round =>
        obtain ⟨rfl, rfl, rfl⟩ := hrel
        go_wp2_with fail
        go_ret
        exact ⟨rfl, B1.out⟩
end Go.Proofs.Ytmnlojbfdpjjdaa
