/- The iterator that slices.Chunk makes yields the pieces of 8 in order. For at most 65536 bools. -/
import Derived.Test.YteendimoopmakaaT7
import Derived.RangeFuncBox
import Derived.RangeFuncLeaves
import Derived.RangeFuncFrom
import Derived.RangeFuncCalls
import Derived.Shelf.Abstract
import Derived.OwnWalkIn
import Derived.TacticsInMore
import Derived.LoopNIn
import Derived.LoopIn
import Derived.Sort.QuietIn
namespace Go.Proofs.Yteendimoopmakaa
open Go.RowKit Go.Shelf
attribute [local go_sem] Oper.semAt_some

def upto (k : Nat) : List Nat := List.range k
theorem upto_succ (k : Nat) : upto (k + 1) = upto k ++ [k] := by simp [upto, List.range_succ]
theorem upto_length (k : Nat) : (upto k).length = k := by simp [upto]
def chunkV (b off len : Nat) (j : Nat) : Value := .slice (some ⟨b, off + 8 * j, none⟩) (min 8 (len - 8 * j)) (min 8 (len - 8 * j))
def KpB (B1 B2 : Nat) (W W' : World) : Prop := W'.heap[B1]? = W.heap[B1]? ∧ W'.heap[B2]? = W.heap[B2]?

set_option maxRecDepth 100000 in
set_option maxHeartbeats 2000000 in
theorem chunk1_in (n : Nat) (hn : 1 ≤ n) (l B1 B2 b off len cap : Nat) (hlen : len ≤ 65536) (hcap : len ≤ cap) (hcap2 : cap ≤ 140737488351232) (J Jx : List Nat → World → Prop)
    (hY : ∀ pre x W, J pre W → pre.length < (len + 7) / 8 → YieldAt Fence.wide (n - 1) Try.prog l #[chunkV b off len x] W fun e W' =>
      (e = .returned (.bool true) ∧ J (pre ++ [x]) W' ∧ KpB B1 B2 W W') ∨ (e = .returned (.bool false) ∧ Jx (pre ++ [x]) W'))
    (hdr : ∀ pre W n, J pre W → J pre (W.drewN n)) (W : World) (h1 : W.heap[B1]? = some (.cells #[.slice (some ⟨b, off, none⟩) len cap] 33 (0, 0))) (h2 : W.heap[B2]? = some (.cells #[.int .i64 8] 3 (0, 0))) (h0 : J [] W) :
    CallsIn Fence.wide n Try.prog 82 #[.func (.yield l) #[] #[], .pointer (some ⟨B1, 0, none⟩), .pointer (some ⟨B2, 0, none⟩)] W fun e W' => (∃ v, e = .returned v) ∧
      ((∃ ys, ys = upto ((len + 7) / 8) ∧ J ys W') ∨ (∃ pre, (∃ k, k ≤ (len + 7) / 8 ∧ pre = upto k) ∧ Jx pre W')) := by
  refine callsIn_of_wp Try.func82 rfl trivial ?_ rfl
  simp only [Try.ntmps82, List.size_toArray, List.length_cons, List.length_nil, Nat.reduceAdd, Nat.reduceSub, Array.replicate_succ, Array.replicate_zero, List.push_toArray, List.append_toArray, List.nil_append, List.cons_append]
  gi_wp2
  gi_loopw [4] (fun i wr => ∃ k : Nat, k ≤ (len + 7) / 8 ∧ i = .int .i64 ((8 * k : Nat) : Int) ∧ J (upto k) wr ∧ wr.heap[B1]? = some (.cells #[.slice (some ⟨b, off, none⟩) len cap] 33 (0, 0)) ∧ wr.heap[B2]? = some (.cells #[.int .i64 8] 3 (0, 0)))
    (fun i _ => (len + 8) - (intOf i).toNat)
  case atStart => exact ⟨0, Nat.zero_le _, rfl, h0, h1, h2⟩
  case round =>
    obtain ⟨k, hk, rfl, hJs, hb1, hb2⟩ := hrel
    have hc1 : wr.cell? ⟨B1, 0, none⟩ = some (.slice (some ⟨b, off, none⟩) len cap) := cell_of_row wr B1 0 _ _ _ hb1
    have hc2 : wr.cell? ⟨B2, 0, none⟩ = some (.int .i64 8) := cell_of_row wr B2 0 _ _ _ hb2
    by_cases hlt : 8 * k < len
    · by_cases hfull : 8 * k + 8 ≤ len
      · obtain ⟨q, rfl⟩ : ∃ q, len = 8 * k + (8 + q) := ⟨len - (8 * k + 8), by omega⟩
        have x0 : ((8 * k : Nat) : Int) ≤ ((8 * k + (8 + q) : Nat) : Int) := by omega
        have x2 : ((8 * k : Nat) : Int) ≤ (cap : Int) := by omega
        have x3 : (0 : Int) ≤ ((8 * k : Nat) : Int) := by omega
        have x9 : ¬ cap = 8 * k := by omega
        have x4 : 8 * k + (8 + q) - 8 * k = 8 + q := by omega
        have x5 : min 8 (8 + q) = 8 := by omega
        have x6 : (8 * (k : Int) + 8).toNat = 8 * k + 8 := by omega
        have x7 : 8 * k + 8 - 8 * k = 8 := by omega
        have x8 : (8 : Int) ≤ 8 + (q : Int) := by omega
        gi_wp2_with fail
        gi_quiet (fail)
        rename_i nq
        obtain ⟨fn, tmps, assign, body, hy, hR⟩ := hY _ k (wr.drewN nq) (hdr _ _ _ hJs) (by rw [upto_length]; omega)
        unfold chunkV at hy
        rw [x4, x5] at hy
        gi_wp2
        refine hR.mono ?_
        rintro e W3 (⟨rfl, hJ3, hk3⟩ | ⟨rfl, hJx3⟩)
        · have hc3 : W3.cell? ⟨B2, 0, none⟩ = some (.int .i64 8) := cell_of_row W3 B2 0 _ _ _ (hk3.2.trans hb2)
          gi_wp2
          go_roundw
          case rel => exact ⟨k + 1, by omega, by go_num, by rw [upto_succ]; exact hJ3, hk3.1.trans hb1, hk3.2.trans hb2⟩
          case measure => simp [intOf]; omega
        · gi_wp2
          refine bodyPost_ret (results_none rfl _ _ _) rfl ?_
          exact ⟨⟨_, rfl⟩, .inr ⟨_, ⟨k + 1, by omega, (upto_succ _).symm⟩, hJx3⟩⟩
      · obtain ⟨q, rfl⟩ : ∃ q, len = 8 * k + q := ⟨len - 8 * k, by omega⟩
        have x0 : ((8 * k : Nat) : Int) ≤ ((8 * k + q : Nat) : Int) := by omega
        have x2 : ((8 * k : Nat) : Int) ≤ (cap : Int) := by omega
        have x3 : (0 : Int) ≤ ((8 * k : Nat) : Int) := by omega
        have x9 : ¬ cap = 8 * k := by omega
        have x4 : 8 * k + q - 8 * k = q := by omega
        have x5 : min 8 q = q := by omega
        have x6 : (8 * (k : Int) + (q : Int)).toNat = 8 * k + q := by omega
        have x8 : ¬ (8 : Int) ≤ (q : Int) := by omega
        gi_wp2_with fail
        gi_quiet (fail)
        rename_i nq
        obtain ⟨fn, tmps, assign, body, hy, hR⟩ := hY _ k (wr.drewN nq) (hdr _ _ _ hJs) (by rw [upto_length]; omega)
        unfold chunkV at hy
        rw [x4, x5] at hy
        gi_wp2
        refine hR.mono ?_
        rintro e W3 (⟨rfl, hJ3, hk3⟩ | ⟨rfl, hJx3⟩)
        · have hc3 : W3.cell? ⟨B2, 0, none⟩ = some (.int .i64 8) := cell_of_row W3 B2 0 _ _ _ (hk3.2.trans hb2)
          gi_wp2
          go_roundw
          case rel => exact ⟨k + 1, by omega, by go_num, by rw [upto_succ]; exact hJ3, hk3.1.trans hb1, hk3.2.trans hb2⟩
          case measure => simp [intOf]; omega
        · gi_wp2
          refine bodyPost_ret (results_none rfl _ _ _) rfl ?_
          exact ⟨⟨_, rfl⟩, .inr ⟨_, ⟨k + 1, by omega, (upto_succ _).symm⟩, hJx3⟩⟩
    · obtain rfl : k = (len + 7) / 8 := by omega
      have x1 : ¬ ((8 * ((len + 7) / 8) : Nat) : Int) < (len : Int) := by omega
      gi_wp2
      go_end0
      first
        | exact ⟨⟨_, rfl⟩, .inl ⟨_, rfl, hJs⟩⟩
        | exact ⟨⟨_, rfl⟩, .inl hJs⟩

set_option maxRecDepth 100000 in
set_option maxHeartbeats 1000000 in
theorem chunk1_nil_in (n : Nat) (l B1 B2 : Nat) (J : List Nat → World → Prop) (W : World) (h1 : W.cell? ⟨B1, 0, none⟩ = some (.slice none 0 0)) (h0 : J [] W) :
    CallsIn Fence.wide n Try.prog 82 #[.func (.yield l) #[] #[], .pointer (some ⟨B1, 0, none⟩), .pointer (some ⟨B2, 0, none⟩)] W fun e W' => (∃ v, e = .returned v) ∧ J [] W' := by
  refine callsIn_of_wp Try.func82 rfl trivial ?_ rfl
  simp only [Try.ntmps82, List.size_toArray, List.length_cons, List.length_nil, Nat.reduceAdd, Nat.reduceSub, Array.replicate_succ, Array.replicate_zero, List.push_toArray, List.append_toArray, List.nil_append, List.cons_append]
  gi_wp2
  gi_loopw [4] (fun i wr => i = .int .i64 0 ∧ J [] wr ∧ wr.cell? ⟨B1, 0, none⟩ = some (.slice none 0 0)) (fun _ _ => 0)
  case atStart => exact ⟨rfl, h0, h1⟩
  case round =>
    obtain ⟨rfl, hJs, hc1⟩ := hrel
    gi_wp2
    go_end0
    exact ⟨⟨_, rfl⟩, hJs⟩

theorem abides_drewN {J : List Nat → World → Prop} {B : Nat} (h : AbidesFrom B J) (pre : List Nat) (W : World) (n : Nat) (hJ : J pre W) : J pre (W.drewN n) :=
  h pre W _ none hJ ⟨rfl, rfl, rfl, Nat.le_refl _, fun _ _ _ => rfl⟩ (fun r e => by cases e)

/-- The iterator over the pieces of 8 of a slice of bools; the slice's address, its length. -/
theorem chunk_stops (n : Nat) (hn : 1 ≤ n) (B1 B2 b off len cap : Nat) (hlen : len ≤ 65536) (hcap : len ≤ cap) (hcap2 : cap ≤ 140737488351232) (w : World)
    (h1 : w.heap[B1]? = some (.cells #[.slice (some ⟨b, off, none⟩) len cap] 33 (0, 0))) (h2 : w.heap[B2]? = some (.cells #[.int .i64 8] 3 (0, 0))) :
    SeqStopsK Fence.wide n Try.prog 82 #[.pointer (some ⟨B1, 0, none⟩), .pointer (some ⟨B2, 0, none⟩)] (fun x : Nat => #[chunkV b off len x]) (KpB B1 B2) (fun ys => ys = upto ((len + 7) / 8)) (fun pre => ∃ k, k ≤ (len + 7) / 8 ∧ pre = upto k) ((len + 7) / 8) w := fun l J Jx W hW hJ _ hY h0 => by
  have e1 := (hW.block B1 (Array.getElem?_eq_some_iff.1 h1).1).trans h1
  have e2 := (hW.block B2 (Array.getElem?_eq_some_iff.1 h2).1).trans h2
  exact (chunk1_in n hn l B1 B2 b off len cap hlen hcap hcap2 J Jx hY (abides_drewN hJ) W e1 e2 h0).mono fun e W' ⟨he, h⟩ => ⟨he, h.imp (fun ⟨ys, hy, hj⟩ => ⟨ys, hy, hj⟩) (fun ⟨pre, hp, hj⟩ => ⟨pre, hp, hj⟩)⟩
theorem chunk_stops_nil (n : Nat) (B1 B2 : Nat) (w : World) (h1 : w.heap[B1]? = some (.cells #[.slice none 0 0] 33 (0, 0))) :
    SeqStopsK Fence.wide n Try.prog 82 #[.pointer (some ⟨B1, 0, none⟩), .pointer (some ⟨B2, 0, none⟩)] (fun x : Nat => #[chunkV 0 0 0 x]) (KpB B1 B2) (fun ys => ys = []) (fun _ => False) 0 w := fun l J Jx W hW hJ _ hY h0 => by
  have e1 := (hW.block B1 (Array.getElem?_eq_some_iff.1 h1).1).trans h1
  exact (chunk1_nil_in n l B1 B2 J W (cell_of_row W B1 0 _ _ _ e1) h0).mono fun e W' ⟨he, h⟩ => ⟨he, .inl ⟨_, rfl, h⟩⟩

theorem chunk_any (a : Option Addr) (len cap : Nat) (w : World) :
    Calls Try.prog 63 #[.slice a len cap, .int .i64 8] w fun e w' => e = .returned (.func (.func 82) #[] #[.pointer (some ⟨w.heap.size, 0, none⟩), .pointer (some ⟨w.heap.size + 1, 0, none⟩)]) ∧ (w.alloc (.cells #[.slice a len cap] 33)).alloc (.cells #[.int .i64 8] 3) = w' := by
  have hmf : ∀ (fn : Fn) (first cap : Array Value) (w : World), (Instr.makeFunc fn first cap).run Try.prog w = .ok (.func fn first cap) w := fun _ _ _ _ => rfl
  go_enter Try.func63, Try.ntmps63
  go_wp2
  go_ret
  exact ⟨rfl, rfl⟩
end Go.Proofs.Yteendimoopmakaa
