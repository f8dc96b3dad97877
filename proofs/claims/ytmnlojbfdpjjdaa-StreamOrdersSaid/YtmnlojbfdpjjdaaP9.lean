/- StreamServes: the memory of the law's first loop. -/
import Derived.Test.YtmnlojbfdpjjdaaP7
import Derived.Test.YtmnlojbfdpjjdaaP8
namespace Go.Proofs.Ytmnlojbfdpjjdaa
open Go.RowKit
/-- Mm, and beside it a map of booleans (block gb: what is gone) and the slice sv of answers -/
structure Ms (w : World) (mb gb g n : Nat) (S : Sl) (st : St) (f : Int → Option Op) (c : Nat) (q : Int → Option Bool) (d : Nat) (sv : Value) (As : List An) (v : World) : Prop where
  pipe : PipeAt v g S st
  own : ∀ k, S.has g k → w.heap.size ≤ k ∧ k ≠ mb ∧ k ≠ gb
  low : Below w.heap.size w v
  map : Asked v mb n f c
  gone : MapIs intK boolE v gb n q d
  row : Row v 51 4 sv As.length (ansC As)
  rown : ∀ k, sv.ownBlock = some k → w.heap.size ≤ k ∧ ¬ S.has g k
  mb0 : w.heap.size ≤ mb
  gb0 : w.heap.size ≤ gb
  ne : mb ≠ gb
theorem Ms.below {w v v' : World} {mb gb g n : Nat} {S : Sl} {st : St} {f : Int → Option Op} {c : Nat} {q : Int → Option Bool} {d : Nat} {sv : Value} {As : List An} (h : Ms w mb gb g n S st f c q d sv As v) (hb : Below v.heap.size v v') : Ms w mb gb g n S st f c q d sv As v' :=
  ⟨h.pipe.below hb, h.own, keepBelow h.low hb, MapIs.below h.map hb, h.gone.below hb, h.row.below hb, h.rown, h.mb0, h.gb0, h.ne⟩
theorem Ms.turn {w v v' : World} {mb gb g n : Nat} {S S' : Sl} {st st' : St} {f : Int → Option Op} {c : Nat} {q : Int → Option Bool} {d : Nat} {sv : Value} {As : List An} (h : Ms w mb gb g n S st f c q d sv As v) (ht : Turn g S v S' v') (hp : PipeAt v' g S' st') : Ms w mb gb g n S' st' f c q d sv As v' := by
  have hmb : ¬ S.has g mb := fun hh => (h.own mb hh).2.1 rfl
  have hgb : ¬ S.has g gb := fun hh => (h.own gb hh).2.2 rfl
  refine ⟨hp, fun k hk => ?_, ⟨ht.os.trans h.low.os, ht.tape.trans h.low.tape, ht.output.trans h.low.output, Nat.le_trans h.low.size ht.size, fun k hk => (ht.block k (Nat.lt_of_lt_of_le hk h.low.size) (fun hh => by have := (h.own k hh).1; omega)).trans (h.low.block k hk)⟩, MapIs.turn h.map ht hmb, h.gone.turn ht hgb, h.row.keep fun k hk => ht.block k (h.row.lt hk) (h.rown k hk).2, fun k hk => ⟨(h.rown k hk).1, fun hh => ?_⟩, h.mb0, h.gb0, h.ne⟩
  · rcases ht.mine k hk with h1 | h1
    · exact h.own k h1
    · have := MapIs.lt h.map; have := h.gone.lt; have := h.low.size; exact ⟨by omega, by omega, by omega⟩
  · rcases ht.mine k hh with h1 | h1
    · exact (h.rown k hk).2 h1
    · have := h.row.lt hk; omega
end Go.Proofs.Ytmnlojbfdpjjdaa
