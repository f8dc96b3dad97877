/- Two items with the same number, string and bools are the same. Conditions stand in each theorem. -/
import Derived.Test.YteendimoopmakaaT25
import Derived.Deep.QuietTactic
import Derived.BigQuiet
namespace Go.Proofs.Yteendimoopmakaa
open Go.RowKit

/-- A slice that reads as a list of bools. -/
def Boo (w : World) (v : Value) (L : List Bool) : Prop := ∃ so cap, v = .slice so L.length cap ∧ ∀ j, j < L.length → ∃ b o, so = some ⟨b, o, none⟩ ∧ w.cell? ⟨b, o + j, none⟩ = some (.bool (L.getD j false))
theorem Boo.below {w w' : World} {v : Value} {L : List Bool} (h : Boo w v L) (hb : Below w.heap.size w w') : Boo w' v L := by
  obtain ⟨so, cap, hv, h⟩ := h
  refine ⟨so, cap, hv, fun j hj => ?_⟩
  obtain ⟨b, o, e, hc⟩ := h j hj
  exact ⟨b, o, e, (hb.cell (p := ⟨b, o + j, none⟩) (World.block_lt_of_cell? _ _ hc)).trans hc⟩
theorem below_drewN {w W : World} {B : Nat} (h : Below B w W) (n : Nat) : Below B w (W.drewN n) := ⟨h.os, h.tape, h.output, h.size, h.block⟩
theorem Boo.nil (w : World) : Boo w (.slice none 0 0) [] := ⟨none, 0, rfl, fun j hj => by simp at hj⟩
theorem own_boo {w : World} {b : Nat} {v : Value} {L : List Bool} (h : w.ownsRow b 4 1 v L.length (bools L)) : Boo w v L := by
  obtain ⟨hl, h | ⟨g, cap, cur, rfl, hg, hh, h1, h2, h3, h4⟩⟩ := h
  · obtain ⟨rfl, hz⟩ := h
    have : L = [] := by
      cases L with
      | nil => rfl
      | cons x l => simp at hz
    subst this
    exact Boo.nil w
  · refine ⟨_, _, rfl, fun j hj => ⟨g, 0, rfl, ?_⟩⟩
    rw [cell_of_row w g (0 + j) cur 4 (0, 0) hh, Nat.zero_add, ← Array.getElem?_toList]
    have e : (List.take (L.length * 1) cur.toList)[j]? = cur.toList[j]? := List.getElem?_take_of_lt (by omega)
    rw [← e, h4]
    simp [bools, hj]
set_option maxHeartbeats 800000 in
theorem equal_at (so1 so2 : Option Addr) (c1 c2 : Nat) (L : List Bool) (w : World) (hL : L.length ≤ 65536)
    (h1 : ∀ j, j < L.length → ∃ b o, so1 = some ⟨b, o, none⟩ ∧ w.cell? ⟨b, o + j, none⟩ = some (.bool (L.getD j false)))
    (h2 : ∀ j, j < L.length → ∃ b o, so2 = some ⟨b, o, none⟩ ∧ w.cell? ⟨b, o + j, none⟩ = some (.bool (L.getD j false))) :
    Calls Try.prog 56 #[.slice so1 L.length c1, .slice so2 L.length c2] w fun e w' => e = .returned (.bool true) ∧ ∃ n, w.drewN n = w' := by
  have H1 := Lib.hid h1
  have H2 := Lib.hid h2
  clear h1 h2
  go_enter Try.func56, Try.ntmps56
  go_wp2_with fail
  go_loopw [13] (fun i wr => ∃ k : Nat, k ≤ L.length ∧ i = .int .i64 k ∧ ∃ n, wr = w.drewN n) (fun i _ => L.length - (intOf i).toNat)
  case atStart => exact ⟨0, by omega, rfl, 0, rfl⟩
  case round =>
    obtain ⟨k, hk, rfl, n, rfl⟩ := hrel
    by_cases hlt : k < L.length
    · obtain ⟨b1, o1, rfl, g1⟩ := H1.out k hlt
      obtain ⟨b2, o2, rfl, g2⟩ := H2.out k hlt
      have g1' : (w.drewN n).cell? ⟨b1, o1 + k, none⟩ = some (.bool (L.getD k false)) := g1
      have g2' : (w.drewN n).cell? ⟨b2, o2 + k, none⟩ = some (.bool (L.getD k false)) := g2
      generalize L.getD k false = bb at *
      have hk0 : (0 : Int) ≤ k := by omega
      have hk1 : (k : Int) < L.length := by omega
      go_wp2_with fail
      go_quiet (fail)
      go_wp2
      go_roundw
      case rel => exact ⟨k + 1, by omega, by go_num, _, rfl⟩
      case measure => simp [intOf]; omega
    · go_wp2
      go_ret
      exact ⟨rfl, n, rfl⟩
theorem equal_same {v1 v2 : Value} {L : List Bool} {w : World} (hL : L.length ≤ 65536) (h1 : Boo w v1 L) (h2 : Boo w v2 L) :
    Calls Try.prog 56 #[v1, v2] w fun e w' => e = .returned (.bool true) ∧ ∃ n, w.drewN n = w' := by
  obtain ⟨so1, c1, rfl, h1⟩ := h1
  obtain ⟨so2, c2, rfl, h2⟩ := h2
  exact equal_at so1 so2 c1 c2 L w hL h1 h2
set_option maxHeartbeats 800000 in
theorem same_any (k1 z1 k2 z2 N : Int) (S : ByteArray) {v1 v2 : Value} {L : List Bool} {w : World} (hL : L.length ≤ 65536) (h1 : Boo w v1 L) (h2 : Boo w v2 L) :
    Calls Try.prog 23 #[.agg #[.int .i64 k1, .int .i64 z1, .int .i64 N, .string S, v1], .agg #[.int .i64 k2, .int .i64 z2, .int .i64 N, .string S, v2]] w fun e w' => e = .returned (.bool true) ∧ Below w.heap.size w w' := by
  obtain ⟨so1, c1, rfl, h1'⟩ := id h1
  obtain ⟨so2, c2, rfl, h2'⟩ := id h2
  have hb : Below w.heap.size w ((w.alloc (.cells #[.int .i64 k1, .int .i64 z1, .int .i64 N, .string S, .slice so1 L.length c1] 35)).alloc (.cells #[.int .i64 k2, .int .i64 z2, .int .i64 N, .string S, .slice so2 L.length c2] 35)) := ((Below.refl _ _).alloc (Nat.le_refl _) _).alloc (by simp) _
  have HE := Lib.hid (equal_same hL (h1.below hb) (h2.below hb))
  have HB := Lib.hid hb
  clear h1 h2 h1' h2' hb
  go_enter Try.func23, Try.ntmps23
  go_wp2_with (go_at_call 56; refine HE.out.mono ?_; rintro e w1 ⟨rfl, n, rfl⟩)
  go_ret
  exact ⟨rfl, below_drewN HB.out n⟩
end Go.Proofs.Yteendimoopmakaa
