/- The pipe: its state in plain words, its place in memory; isEnd, empty, queue, New. -/
import Derived.Test.YtmnlojbfdpjjdaaA1
import Derived.RegionTactic
import Derived.ChangeAlike
import Derived.Deep.QuietTactic
import Derived.BigQuiet
import Derived.Deep.RegionHeld3
import Derived.Deep.DeepCutAuto
namespace Go.Proofs.Ytmnlojbfdpjjdaa
open Go.RowKit
/-- an operation -/
structure Op where
  kind : Int
  fin : Int
  count : Int
  data : ByteArray
/-- an operation that waits -/
structure Wt where
  op : Op
  tk : Int
/-- an answer -/
structure An where
  tk : Int
  cnt : Int
  data : ByteArray
  err : Int
/-- what a pipe is: the blocks to be read at its ends, which are closed, the limit, the tickets, who waits, the answers -/
structure St where
  q0 : List ByteArray
  q1 : List ByteArray
  c0 : Bool
  c1 : Bool
  limit : Int
  tks : Int
  ws : List Wt
  ans : List An
def opV (x : Op) : Value := .agg #[.int .i64 x.kind, .int .i64 x.fin, .int .i64 x.count, .string x.data]
def opC (x : Op) : List Value := [.int .i64 x.kind, .int .i64 x.fin, .int .i64 x.count, .string x.data]
def wtC (x : Wt) : List Value := [.int .i64 x.op.kind, .int .i64 x.op.fin, .int .i64 x.op.count, .string x.op.data, .int .i64 x.tk]
def anC (x : An) : List Value := [.int .i64 x.tk, .int .i64 x.cnt, .string x.data, .int .i64 x.err]
def strC (l : List ByteArray) : List Value := l.map Value.string
def wtsC (l : List Wt) : List Value := l.flatMap wtC
def ansC (l : List An) : List Value := l.flatMap anC
theorem wtsC_len (l : List Wt) : (wtsC l).length = l.length * 5 := by
  induction l with
  | nil => rfl
  | cons a l ih => simp only [wtsC, List.flatMap_cons, List.length_append, List.length_cons] at ih ⊢; simp only [wtC, List.length_cons, List.length_nil]; omega
theorem ansC_len (l : List An) : (ansC l).length = l.length * 4 := by
  induction l with
  | nil => rfl
  | cons a l ih => simp only [ansC, List.flatMap_cons, List.length_append, List.length_cons] at ih ⊢; simp only [anC, List.length_cons, List.length_nil]; omega
/-- the four slices of a pipe -/
structure Sl where
  s0 : Value
  s1 : Value
  sw : Value
  sa : Value
def Sl.has (S : Sl) (g k : Nat) : Prop := k = g ∨ S.s0.ownBlock = some k ∨ S.s1.ownBlock = some k ∨ S.sw.ownBlock = some k ∨ S.sa.ownBlock = some k
def pipeC (S : Sl) (st : St) : List Value := [S.s0, .bool st.c0, S.s1, .bool st.c1, .int .i64 st.limit, .int .i64 st.tks, S.sw, S.sa]
/-- The pipe at block g is st, by the slices S. -/
structure PipeAt (w : World) (g : Nat) (S : Sl) (st : St) : Prop where
  blk : Blk w g 88 (pipeC S st)
  r0 : Row w 9 1 S.s0 st.q0.length (strC st.q0)
  r1 : Row w 9 1 S.s1 st.q1.length (strC st.q1)
  rw_ : Row w 92 5 S.sw st.ws.length (wtsC st.ws)
  ra : Row w 51 4 S.sa st.ans.length (ansC st.ans)
  apart : ∀ k, S.s0.ownBlock = some k → S.s1.ownBlock ≠ some k
/-- From w to w' nothing has turned but the pipe and what is new. -/
structure Turn (g : Nat) (S : Sl) (w : World) (S' : Sl) (w' : World) : Prop where
  os : w'.os = w.os
  tape : w'.tape = w.tape
  output : w'.output = w.output
  size : w.heap.size ≤ w'.heap.size
  block : ∀ k, k < w.heap.size → ¬ S.has g k → w'.heap[k]? = w.heap[k]?
  mine : ∀ k, S'.has g k → S.has g k ∨ w.heap.size ≤ k
theorem Turn.refl (g : Nat) (S : Sl) (w : World) : Turn g S w S w := ⟨rfl, rfl, rfl, Nat.le_refl _, fun _ _ _ => rfl, fun _ h => .inl h⟩
theorem Turn.trans {g : Nat} {S S' S'' : Sl} {w w' w'' : World} (h : Turn g S w S' w') (k : Turn g S' w' S'' w'') : Turn g S w S'' w'' :=
  ⟨k.os.trans h.os, k.tape.trans h.tape, k.output.trans h.output, Nat.le_trans h.size k.size,
   fun i hi hn => (k.block i (Nat.lt_of_lt_of_le hi h.size) (fun hs => by rcases h.mine i hs with h1 | h1; exact hn h1; omega)).trans (h.block i hi hn),
   fun i hi => by
    rcases k.mine i hi with h1 | h1
    · exact h.mine i h1
    · exact .inr (Nat.le_trans h.size h1)⟩
theorem Turn.of_below {g : Nat} {S : Sl} {w w' : World} (h : Below w.heap.size w w') : Turn g S w S w' :=
  ⟨h.os, h.tape, h.output, h.size, fun k hk _ => h.block k hk, fun _ h => .inl h⟩
theorem PipeAt.lt {w : World} {g : Nat} {S : Sl} {st : St} (h : PipeAt w g S st) {k : Nat} (hk : S.has g k) : k < w.heap.size := by
  rcases hk with rfl | hk | hk | hk | hk
  · exact h.blk.lt
  · exact h.r0.lt hk
  · exact h.r1.lt hk
  · exact h.rw_.lt hk
  · exact h.ra.lt hk
theorem PipeAt.keep {w w' : World} {g : Nat} {S : Sl} {st : St} (h : PipeAt w g S st) (hk : ∀ k, S.has g k → w'.heap[k]? = w.heap[k]?) : PipeAt w' g S st :=
  ⟨(hk g (.inl rfl)).trans h.blk, h.r0.keep fun k e => hk k (.inr (.inl e)), h.r1.keep fun k e => hk k (.inr (.inr (.inl e))), h.rw_.keep fun k e => hk k (.inr (.inr (.inr (.inl e)))), h.ra.keep fun k e => hk k (.inr (.inr (.inr (.inr e)))), h.apart⟩
theorem PipeAt.below {w w' : World} {g : Nat} {S : Sl} {st : St} (h : PipeAt w g S st) (hb : Below w.heap.size w w') : PipeAt w' g S st := h.keep fun k hk => hb.block k (h.lt hk)
/-- the eight cells -/
theorem PipeAt.cells {w : World} {g : Nat} {S : Sl} {st : St} (h : PipeAt w g S st) :
    w.cell? ⟨g, 0, none⟩ = some S.s0 ∧ w.cell? ⟨g, 1, none⟩ = some (.bool st.c0) ∧ w.cell? ⟨g, 2, none⟩ = some S.s1 ∧ w.cell? ⟨g, 3, none⟩ = some (.bool st.c1) ∧ w.cell? ⟨g, 4, none⟩ = some (.int .i64 st.limit) ∧ w.cell? ⟨g, 5, none⟩ = some (.int .i64 st.tks) ∧ w.cell? ⟨g, 6, none⟩ = some S.sw ∧ w.cell? ⟨g, 7, none⟩ = some S.sa :=
  ⟨h.blk.cell 0, h.blk.cell 1, h.blk.cell 2, h.blk.cell 3, h.blk.cell 4, h.blk.cell 5, h.blk.cell 6, h.blk.cell 7⟩
theorem belowN {B : Nat} {a w : World} (h : Below B a w) (n : Nat) : Below B a (w.drewN n) := ⟨h.os, h.tape, h.output, h.size, h.block⟩
/-- the operation is one of a kind and at an end -/
def OpIn (x : Op) : Prop := (x.kind = 0 ∨ x.kind = 1) ∧ (x.fin = 0 ∨ x.fin = 1)
/-- the place of the queue that an operation takes from or adds to -/
def qo (k e : Int) : Nat := if e = k then 0 else 2
theorem isEnd_any (a : Int) (w : World) : Calls Try.prog 42 #[.int .i64 a] w fun e w' => e = .returned (.bool (decide (a = 0 ∨ a = 1))) ∧ w = w' := by
  by_cases h0 : a = 0
  · subst h0
    go_enter Try.func42, Try.ntmps42
    go_wp2_with fail
    go_ret
    exact ⟨rfl, rfl⟩
  · by_cases h1 : a = 1
    · subst h1
      go_enter Try.func42, Try.ntmps42
      go_wp2_with fail
      go_ret
      exact ⟨rfl, rfl⟩
    · have HD := Lib.hid (show decide (a = 0 ∨ a = 1) = false from decide_eq_false fun h => h.elim h0 h1)
      rw [HD.out]
      have e0 : (a == 0) = false := by rw [beq_eq_false_iff_ne]; exact h0
      have e1 : (a == 1) = false := by rw [beq_eq_false_iff_ne]; exact h1
      clear h0 h1
      go_enter Try.func42, Try.ntmps42
      go_wp2_with fail
      go_ret
      exact ⟨rfl, rfl⟩
/-- does the operation take and add nothing -/
def emptyB (x : Op) : Bool := if x.kind = 0 then x.count == 0 else x.data.size == 0
theorem str_empty (d : ByteArray) : (d.size == 0) = d.toList.isEmpty := by
  rw [ByteArray.toList_eq, Bool.eq_iff_iff, beq_iff_eq, List.isEmpty_iff]
  constructor
  · intro h; exact List.eq_nil_of_length_eq_zero (by simpa using h)
  · intro h
    have h2 : d.data.toList.length = 0 := by rw [h]; rfl
    simpa using h2
theorem empty_any (x : Op) (w : World) : Calls Try.prog 72 #[opV x] w fun e w' => e = .returned (.bool (emptyB x)) ∧ Below w.heap.size w w' := by
  obtain ⟨k, f, c, d⟩ := x
  unfold opV emptyB
  by_cases h0 : k = 0
  · subst h0
    go_enter Try.func72, Try.ntmps72
    go_wp2_with fail
    go_ret
    exact ⟨rfl, (Below.refl _ _).alloc (Nat.le_refl _) _⟩
  · have HK := Lib.hid (show (if k = 0 then c == 0 else d.size == 0) = d.toList.isEmpty by rw [if_neg h0, str_empty])
    rw [HK.out]
    have e0 : (k == 0) = false := by rw [beq_eq_false_iff_ne]; exact h0
    clear h0
    go_enter Try.func72, Try.ntmps72
    go_wp2_with fail
    go_ret
    exact ⟨rfl, (Below.refl _ _).alloc (Nat.le_refl _) _⟩
theorem queue_any (g : Nat) (k f c : Int) (d : ByteArray) (hk : k = 0 ∨ k = 1) (hf : f = 0 ∨ f = 1) (w : World) :
    Calls Try.prog 73 #[.pointer (some ⟨g, 0, none⟩), .agg #[.int .i64 k, .int .i64 f, .int .i64 c, .string d]] w fun e w' => e = .returned (.pointer (some ⟨g, qo k f, none⟩)) ∧ Below w.heap.size w w' := by
  have x0 : bits .xor .i64 0 0 = 0 := by decide +kernel
  have x1 : bits .xor .i64 0 1 = 1 := by decide +kernel
  have x2 : bits .xor .i64 1 0 = 1 := by decide +kernel
  have x3 : bits .xor .i64 1 1 = 0 := by decide +kernel
  rcases hk with rfl | rfl <;> rcases hf with rfl | rfl
  all_goals
    go_enter Try.func73, Try.ntmps73
    go_wp2_with fail
    go_quiet (fail)
    go_wp2_with fail
    go_ret
    exact ⟨rfl, belowN ((Below.refl _ _).alloc (Nat.le_refl _) _) _⟩
end Go.Proofs.Ytmnlojbfdpjjdaa
