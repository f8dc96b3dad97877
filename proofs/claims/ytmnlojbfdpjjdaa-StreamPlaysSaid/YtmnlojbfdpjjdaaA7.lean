/- do: an operation that can be done is done. -/
import Derived.Test.YtmnlojbfdpjjdaaA6
namespace Go.Proofs.Ytmnlojbfdpjjdaa
open Go.RowKit
attribute [local go_sem] Oper.semAt_some
/-- An append's run under a name of its own, so that a region's walk does not lay it open. -/
noncomputable def appSem (ts : Array TypeId) (ty : TypeId) (args : Array Value) : Sem Value := Builtin.append_ ts ty args
theorem run_appSem (ts : Array TypeId) (ty : TypeId) (args : Array Value) : Builtin.append_ ts ty args = appSem ts ty args := rfl
theorem Try.info9 : (Try.prog.info? 9).map (fun i => (i.zero, i.size, i.bytes)) = some (some (.string ⟨#[]⟩), 1, 16) := by kernel_rfl
theorem Try.info92 : (Try.prog.info? 92).map (fun i => (i.zero, i.size, i.bytes)) = some (some (.agg #[.int .i64 0, .int .i64 0, .int .i64 0, .string ⟨#[]⟩, .int .i64 0]), 5, 48) := by kernel_rfl
theorem Try.info51 : (Try.prog.info? 51).map (fun i => (i.zero, i.size, i.bytes)) = some (some (.agg #[.int .i64 0, .int .i64 0, .string ⟨#[]⟩, .int .i64 0]), 4, 40) := by kernel_rfl
theorem below_grown {w w' : World} (h : Below w.heap.size w w') (row : Option Nat) : w.grownBy w' row := ⟨h.os, h.tape, h.output, h.size, fun k hk _ => h.block k hk⟩
theorem grown_trans {a b c : World} {r : Option Nat} (h : a.grownBy b r) (k : b.grownBy c r) : a.grownBy c r :=
  ⟨k.os.trans h.os, k.tape.trans h.tape, k.output.trans h.output, Nat.le_trans h.size k.size, fun i hi hr => (k.block i (Nat.lt_of_lt_of_le hi h.size) hr).trans (h.block i hi hr)⟩
theorem grown_cell {a b : World} {r : Option Nat} (h : a.grownBy b r) {g : Nat} (hg : g < a.heap.size) (hr : r ≠ some g) (i : Nat) : b.cell? ⟨g, i, none⟩ = a.cell? ⟨g, i, none⟩ := World.cell?_of_block (h.block g hg (Ne.symm hr))
theorem grown_frozen {a b : World} {r : Option Nat} (h : a.grownBy b r) {g : Nat} (hg : g < a.heap.size) (hr : r ≠ some g) (i : Nat) : b.frozen? ⟨g, i, none⟩ = a.frozen? ⟨g, i, none⟩ := World.frozen?_of_block (h.block g hg (Ne.symm hr))
theorem PipeAt.upd0 {w w1 : World} {g : Nat} {S : Sl} {st : St} (h : PipeAt w g S st) {v : Value} (q : List ByteArray) (hg : w.grownBy w1 S.s0.ownBlock) (hr : Row w1 9 1 v q.length (strC q)) (ho : v.ownBlock = S.s0.ownBlock ∨ ∀ k, v.ownBlock = some k → w.heap.size ≤ k) :
    PipeAt (w1.setCell ⟨g, 0, none⟩ v) g ⟨v, S.s1, S.sw, S.sa⟩ ⟨q, st.q1, st.c0, st.c1, st.limit, st.tks, st.ws, st.ans⟩ ∧ Turn g S w ⟨v, S.s1, S.sw, S.sa⟩ (w1.setCell ⟨g, 0, none⟩ v) := by
  have hgl := h.blk.lt
  have hne : S.s0.ownBlock ≠ some g := h.r0.ne h.blk (by decide)
  have hb1 : Blk w1 g 88 (pipeC S st) := h.blk.grown hg (Ne.symm hne)
  have hvg : v.ownBlock ≠ some g := hr.ne hb1 (by decide)
  have hset : ∀ k, k ≠ g → (w1.setCell ⟨g, 0, none⟩ v).heap[k]? = w1.heap[k]? := fun k hk => Below.heap_setCell w1 _ v k hk
  have k_s1 : ∀ k, S.s1.ownBlock = some k → (w1.setCell ⟨g, 0, none⟩ v).heap[k]? = w.heap[k]? := fun k e => (hset k (fun e2 => h.r1.ne h.blk (by decide) (e2 ▸ e))).trans (hg.block k (h.r1.lt e) (fun e2 => (fun k e e2 => h.apart k e2 e : ∀ k, S.s1.ownBlock = some k → S.s0.ownBlock ≠ some k) k e e2.symm))
  have k_sw : ∀ k, S.sw.ownBlock = some k → (w1.setCell ⟨g, 0, none⟩ v).heap[k]? = w.heap[k]? := fun k e => (hset k (fun e2 => h.rw_.ne h.blk (by decide) (e2 ▸ e))).trans (hg.block k (h.rw_.lt e) (fun e2 => (fun k e e2 => h.rw_.ne2 h.r0 (by decide) e e2 : ∀ k, S.sw.ownBlock = some k → S.s0.ownBlock ≠ some k) k e e2.symm))
  have k_sa : ∀ k, S.sa.ownBlock = some k → (w1.setCell ⟨g, 0, none⟩ v).heap[k]? = w.heap[k]? := fun k e => (hset k (fun e2 => h.ra.ne h.blk (by decide) (e2 ▸ e))).trans (hg.block k (h.ra.lt e) (fun e2 => (fun k e e2 => h.ra.ne2 h.r0 (by decide) e e2 : ∀ k, S.sa.ownBlock = some k → S.s0.ownBlock ≠ some k) k e e2.symm))
  refine ⟨⟨hb1.set_ 0 v, hr.keep fun k e => hset k (fun e2 => hvg (e2 ▸ e)), h.r1.keep k_s1, h.rw_.keep k_sw, h.ra.keep k_sa, fun k e e2 => by
    rcases ho with ho | ho
    · exact h.apart k (ho ▸ e) e2
    · have := ho k e; have := h.r1.lt e2; omega⟩, ⟨hg.os, hg.tape, hg.output, by simpa [World.setCell] using hg.size, fun k hk hn => ?_, fun k hk => ?_⟩⟩
  · exact (hset k (fun e => hn (.inl e))).trans (hg.block k hk (fun e => hn (.inr (.inl e.symm))))
  · rcases hk with rfl | hk | hk | hk | hk
    · exact .inl (.inl rfl)
    · rcases ho with ho | ho
      · exact .inl (.inr (.inl (ho ▸ hk)))
      · exact .inr (ho k hk)
    · exact .inl (.inr (.inr (.inl hk)))
    · exact .inl (.inr (.inr (.inr (.inl hk))))
    · exact .inl (.inr (.inr (.inr (.inr hk))))
theorem PipeAt.upd1 {w w1 : World} {g : Nat} {S : Sl} {st : St} (h : PipeAt w g S st) {v : Value} (q : List ByteArray) (hg : w.grownBy w1 S.s1.ownBlock) (hr : Row w1 9 1 v q.length (strC q)) (ho : v.ownBlock = S.s1.ownBlock ∨ ∀ k, v.ownBlock = some k → w.heap.size ≤ k) :
    PipeAt (w1.setCell ⟨g, 2, none⟩ v) g ⟨S.s0, v, S.sw, S.sa⟩ ⟨st.q0, q, st.c0, st.c1, st.limit, st.tks, st.ws, st.ans⟩ ∧ Turn g S w ⟨S.s0, v, S.sw, S.sa⟩ (w1.setCell ⟨g, 2, none⟩ v) := by
  have hgl := h.blk.lt
  have hne : S.s1.ownBlock ≠ some g := h.r1.ne h.blk (by decide)
  have hb1 : Blk w1 g 88 (pipeC S st) := h.blk.grown hg (Ne.symm hne)
  have hvg : v.ownBlock ≠ some g := hr.ne hb1 (by decide)
  have hset : ∀ k, k ≠ g → (w1.setCell ⟨g, 2, none⟩ v).heap[k]? = w1.heap[k]? := fun k hk => Below.heap_setCell w1 _ v k hk
  have k_s0 : ∀ k, S.s0.ownBlock = some k → (w1.setCell ⟨g, 2, none⟩ v).heap[k]? = w.heap[k]? := fun k e => (hset k (fun e2 => h.r0.ne h.blk (by decide) (e2 ▸ e))).trans (hg.block k (h.r0.lt e) (fun e2 => (fun k e e2 => h.apart k e e2 : ∀ k, S.s0.ownBlock = some k → S.s1.ownBlock ≠ some k) k e e2.symm))
  have k_sw : ∀ k, S.sw.ownBlock = some k → (w1.setCell ⟨g, 2, none⟩ v).heap[k]? = w.heap[k]? := fun k e => (hset k (fun e2 => h.rw_.ne h.blk (by decide) (e2 ▸ e))).trans (hg.block k (h.rw_.lt e) (fun e2 => (fun k e e2 => h.rw_.ne2 h.r1 (by decide) e e2 : ∀ k, S.sw.ownBlock = some k → S.s1.ownBlock ≠ some k) k e e2.symm))
  have k_sa : ∀ k, S.sa.ownBlock = some k → (w1.setCell ⟨g, 2, none⟩ v).heap[k]? = w.heap[k]? := fun k e => (hset k (fun e2 => h.ra.ne h.blk (by decide) (e2 ▸ e))).trans (hg.block k (h.ra.lt e) (fun e2 => (fun k e e2 => h.ra.ne2 h.r1 (by decide) e e2 : ∀ k, S.sa.ownBlock = some k → S.s1.ownBlock ≠ some k) k e e2.symm))
  refine ⟨⟨hb1.set_ 2 v, h.r0.keep k_s0, hr.keep fun k e => hset k (fun e2 => hvg (e2 ▸ e)), h.rw_.keep k_sw, h.ra.keep k_sa, fun k e e2 => by
    rcases ho with ho | ho
    · exact h.apart k e (ho ▸ e2)
    · have := ho k e2; have := h.r0.lt e; omega⟩, ⟨hg.os, hg.tape, hg.output, by simpa [World.setCell] using hg.size, fun k hk hn => ?_, fun k hk => ?_⟩⟩
  · exact (hset k (fun e => hn (.inl e))).trans (hg.block k hk (fun e => hn (.inr (.inr (.inl e.symm)))))
  · rcases hk with rfl | hk | hk | hk | hk
    · exact .inl (.inl rfl)
    · exact .inl (.inr (.inl hk))
    · rcases ho with ho | ho
      · exact .inl (.inr (.inr (.inl (ho ▸ hk))))
      · exact .inr (ho k hk)
    · exact .inl (.inr (.inr (.inr (.inl hk))))
    · exact .inl (.inr (.inr (.inr (.inr hk))))
theorem PipeAt.updw {w w1 : World} {g : Nat} {S : Sl} {st : St} (h : PipeAt w g S st) {v : Value} (q : List Wt) (hg : w.grownBy w1 S.sw.ownBlock) (hr : Row w1 92 5 v q.length (wtsC q)) (ho : v.ownBlock = S.sw.ownBlock ∨ ∀ k, v.ownBlock = some k → w.heap.size ≤ k) :
    PipeAt (w1.setCell ⟨g, 6, none⟩ v) g ⟨S.s0, S.s1, v, S.sa⟩ ⟨st.q0, st.q1, st.c0, st.c1, st.limit, st.tks, q, st.ans⟩ ∧ Turn g S w ⟨S.s0, S.s1, v, S.sa⟩ (w1.setCell ⟨g, 6, none⟩ v) := by
  have hgl := h.blk.lt
  have hne : S.sw.ownBlock ≠ some g := h.rw_.ne h.blk (by decide)
  have hb1 : Blk w1 g 88 (pipeC S st) := h.blk.grown hg (Ne.symm hne)
  have hvg : v.ownBlock ≠ some g := hr.ne hb1 (by decide)
  have hset : ∀ k, k ≠ g → (w1.setCell ⟨g, 6, none⟩ v).heap[k]? = w1.heap[k]? := fun k hk => Below.heap_setCell w1 _ v k hk
  have k_s0 : ∀ k, S.s0.ownBlock = some k → (w1.setCell ⟨g, 6, none⟩ v).heap[k]? = w.heap[k]? := fun k e => (hset k (fun e2 => h.r0.ne h.blk (by decide) (e2 ▸ e))).trans (hg.block k (h.r0.lt e) (fun e2 => (fun k e e2 => h.r0.ne2 h.rw_ (by decide) e e2 : ∀ k, S.s0.ownBlock = some k → S.sw.ownBlock ≠ some k) k e e2.symm))
  have k_s1 : ∀ k, S.s1.ownBlock = some k → (w1.setCell ⟨g, 6, none⟩ v).heap[k]? = w.heap[k]? := fun k e => (hset k (fun e2 => h.r1.ne h.blk (by decide) (e2 ▸ e))).trans (hg.block k (h.r1.lt e) (fun e2 => (fun k e e2 => h.r1.ne2 h.rw_ (by decide) e e2 : ∀ k, S.s1.ownBlock = some k → S.sw.ownBlock ≠ some k) k e e2.symm))
  have k_sa : ∀ k, S.sa.ownBlock = some k → (w1.setCell ⟨g, 6, none⟩ v).heap[k]? = w.heap[k]? := fun k e => (hset k (fun e2 => h.ra.ne h.blk (by decide) (e2 ▸ e))).trans (hg.block k (h.ra.lt e) (fun e2 => (fun k e e2 => h.ra.ne2 h.rw_ (by decide) e e2 : ∀ k, S.sa.ownBlock = some k → S.sw.ownBlock ≠ some k) k e e2.symm))
  refine ⟨⟨hb1.set_ 6 v, h.r0.keep k_s0, h.r1.keep k_s1, hr.keep fun k e => hset k (fun e2 => hvg (e2 ▸ e)), h.ra.keep k_sa, h.apart⟩, ⟨hg.os, hg.tape, hg.output, by simpa [World.setCell] using hg.size, fun k hk hn => ?_, fun k hk => ?_⟩⟩
  · exact (hset k (fun e => hn (.inl e))).trans (hg.block k hk (fun e => hn (.inr (.inr (.inr (.inl e.symm))))))
  · rcases hk with rfl | hk | hk | hk | hk
    · exact .inl (.inl rfl)
    · exact .inl (.inr (.inl hk))
    · exact .inl (.inr (.inr (.inl hk)))
    · rcases ho with ho | ho
      · exact .inl (.inr (.inr (.inr (.inl (ho ▸ hk)))))
      · exact .inr (ho k hk)
    · exact .inl (.inr (.inr (.inr (.inr hk))))
theorem PipeAt.upda {w w1 : World} {g : Nat} {S : Sl} {st : St} (h : PipeAt w g S st) {v : Value} (q : List An) (hg : w.grownBy w1 S.sa.ownBlock) (hr : Row w1 51 4 v q.length (ansC q)) (ho : v.ownBlock = S.sa.ownBlock ∨ ∀ k, v.ownBlock = some k → w.heap.size ≤ k) :
    PipeAt (w1.setCell ⟨g, 7, none⟩ v) g ⟨S.s0, S.s1, S.sw, v⟩ ⟨st.q0, st.q1, st.c0, st.c1, st.limit, st.tks, st.ws, q⟩ ∧ Turn g S w ⟨S.s0, S.s1, S.sw, v⟩ (w1.setCell ⟨g, 7, none⟩ v) := by
  have hgl := h.blk.lt
  have hne : S.sa.ownBlock ≠ some g := h.ra.ne h.blk (by decide)
  have hb1 : Blk w1 g 88 (pipeC S st) := h.blk.grown hg (Ne.symm hne)
  have hvg : v.ownBlock ≠ some g := hr.ne hb1 (by decide)
  have hset : ∀ k, k ≠ g → (w1.setCell ⟨g, 7, none⟩ v).heap[k]? = w1.heap[k]? := fun k hk => Below.heap_setCell w1 _ v k hk
  have k_s0 : ∀ k, S.s0.ownBlock = some k → (w1.setCell ⟨g, 7, none⟩ v).heap[k]? = w.heap[k]? := fun k e => (hset k (fun e2 => h.r0.ne h.blk (by decide) (e2 ▸ e))).trans (hg.block k (h.r0.lt e) (fun e2 => (fun k e e2 => h.r0.ne2 h.ra (by decide) e e2 : ∀ k, S.s0.ownBlock = some k → S.sa.ownBlock ≠ some k) k e e2.symm))
  have k_s1 : ∀ k, S.s1.ownBlock = some k → (w1.setCell ⟨g, 7, none⟩ v).heap[k]? = w.heap[k]? := fun k e => (hset k (fun e2 => h.r1.ne h.blk (by decide) (e2 ▸ e))).trans (hg.block k (h.r1.lt e) (fun e2 => (fun k e e2 => h.r1.ne2 h.ra (by decide) e e2 : ∀ k, S.s1.ownBlock = some k → S.sa.ownBlock ≠ some k) k e e2.symm))
  have k_sw : ∀ k, S.sw.ownBlock = some k → (w1.setCell ⟨g, 7, none⟩ v).heap[k]? = w.heap[k]? := fun k e => (hset k (fun e2 => h.rw_.ne h.blk (by decide) (e2 ▸ e))).trans (hg.block k (h.rw_.lt e) (fun e2 => (fun k e e2 => h.rw_.ne2 h.ra (by decide) e e2 : ∀ k, S.sw.ownBlock = some k → S.sa.ownBlock ≠ some k) k e e2.symm))
  refine ⟨⟨hb1.set_ 7 v, h.r0.keep k_s0, h.r1.keep k_s1, h.rw_.keep k_sw, hr.keep fun k e => hset k (fun e2 => hvg (e2 ▸ e)), h.apart⟩, ⟨hg.os, hg.tape, hg.output, by simpa [World.setCell] using hg.size, fun k hk hn => ?_, fun k hk => ?_⟩⟩
  · exact (hset k (fun e => hn (.inl e))).trans (hg.block k hk (fun e => hn (.inr (.inr (.inr (.inr e.symm))))))
  · rcases hk with rfl | hk | hk | hk | hk
    · exact .inl (.inl rfl)
    · exact .inl (.inr (.inl hk))
    · exact .inl (.inr (.inr (.inl hk)))
    · exact .inl (.inr (.inr (.inr (.inl hk))))
    · rcases ho with ho | ho
      · exact .inl (.inr (.inr (.inr (.inr (ho ▸ hk)))))
      · exact .inr (ho k hk)
theorem setC_grown (w : World) (b o : Nat) (u : Value) : w.grownBy (w.setCell ⟨b, o, none⟩ u) (some b) :=
  ⟨rfl, rfl, rfl, by simp [World.setCell], fun k _ hk => Below.heap_setCell w _ u k (fun e => hk (by rw [e]))⟩
/-- the queue of an operation, exchanged -/
def setQ (st : St) (x : Op) (q : List ByteArray) : St := if x.fin = x.kind then ⟨q, st.q1, st.c0, st.c1, st.limit, st.tks, st.ws, st.ans⟩ else ⟨st.q0, q, st.c0, st.c1, st.limit, st.tks, st.ws, st.ans⟩
def sOf (S : Sl) (x : Op) : Value := if x.fin = x.kind then S.s0 else S.s1
def setS (S : Sl) (x : Op) (v : Value) : Sl := if x.fin = x.kind then ⟨v, S.s1, S.sw, S.sa⟩ else ⟨S.s0, v, S.sw, S.sa⟩
theorem PipeAt.updQ {w w1 : World} {g : Nat} {S : Sl} {st : St} (h : PipeAt w g S st) (x : Op) {v : Value} (q : List ByteArray) (hg : w.grownBy w1 (sOf S x).ownBlock) (hr : Row w1 9 1 v q.length (strC q)) (ho : v.ownBlock = (sOf S x).ownBlock ∨ ∀ k, v.ownBlock = some k → w.heap.size ≤ k) :
    PipeAt (w1.setCell ⟨g, qo x.kind x.fin, none⟩ v) g (setS S x v) (setQ st x q) ∧ Turn g S w (setS S x v) (w1.setCell ⟨g, qo x.kind x.fin, none⟩ v) := by
  unfold sOf at hg ho
  unfold qo setS setQ
  by_cases e : x.fin = x.kind
  · rw [if_pos e] at hg ho
    rw [if_pos e, if_pos e, if_pos e]
    exact h.upd0 q hg hr ho
  · rw [if_neg e] at hg ho
    rw [if_neg e, if_neg e, if_neg e]
    exact h.upd1 q hg hr ho
theorem PipeAt.queue2 {w : World} {g : Nat} {S : Sl} {st : St} (h : PipeAt w g S st) (x : Op) :
    w.cell? ⟨g, qo x.kind x.fin, none⟩ = some (sOf S x) ∧ Row w 9 1 (sOf S x) (qOf st x).length (strC (qOf st x)) := by
  unfold qo qOf sOf
  by_cases e : x.fin = x.kind
  · rw [if_pos e, if_pos e, if_pos e]; exact ⟨h.cells.1, h.r0⟩
  · rw [if_neg e, if_neg e, if_neg e]; exact ⟨h.cells.2.2.1, h.r1⟩
/-- what an operation that can be done does: the pipe behind it, the count, the data -/
def doS (st : St) (x : Op) : St × Int × ByteArray :=
  if emptyB x then (st, 0, ⟨#[]⟩)
  else if x.kind = 1 then (setQ st x (qOf st x ++ [x.data]), x.data.size, ⟨#[]⟩)
  else match qOf st x with
    | [] => (st, 0, ⟨#[]⟩)
    | b :: r => if x.count < b.size then (setQ st x (b.extract x.count.toNat b.size :: r), 0, b.extract 0 x.count.toNat) else (setQ st x r, 0, b)
theorem PipeAt.frozen {w : World} {g : Nat} {S : Sl} {st : St} (h : PipeAt w g S st) (i : Nat) : w.frozen? ⟨g, i, none⟩ = false := h.blk.frozen i
theorem strC_append (a b : List ByteArray) : strC (a ++ b) = strC a ++ strC b := by simp [strC]
end Go.Proofs.Ytmnlojbfdpjjdaa
