/- A reader's take gives the next bytes or ErrEnd. For a reader whose place lies in its string. -/
import Derived.Test.YteendimoopmakaaT3
import Derived.Deep.QuietTactic
import Derived.BigQuiet
namespace Go.Proofs.Yteendimoopmakaa
open Go.RowKit

/-- The reader at block r. -/
def RdAt (w : World) (r : Nat) (s : ByteArray) (at_ : Nat) (e : Int) : Prop := Blk w r 76 [.string s, .int .i64 at_, .int .i64 e]
def Rd (w w' : World) (r : Nat) (s : ByteArray) (at_ : Nat) (e : Int) : Prop := RdAt w' r s at_ e ∧ w.grownBy w' (some r)

theorem grownBy_drewN (w : World) (n : Nat) (row : Option Nat) : w.grownBy (w.drewN n) row := ⟨rfl, rfl, rfl, Nat.le_refl _, fun _ _ _ => rfl⟩
theorem rd_drewN {w : World} {r : Nat} {s : ByteArray} {at_ : Nat} {e : Int} (h : RdAt w r s at_ e) (n : Nat) : Rd w (w.drewN n) r s at_ e := ⟨h, grownBy_drewN w n _⟩
theorem rd_at {w : World} {r : Nat} {s : ByteArray} {at_ : Nat} {e : Int} (h : RdAt w r s at_ e) (n : Nat) (k : Nat) : Rd w ((w.drewN n).setCell ⟨r, 1, none⟩ (.int .i64 k)) r s k e :=
  ⟨Blk.set_ (w := w.drewN n) h 1 _, ⟨rfl, rfl, rfl, by simp [World.setCell], fun i _ hi => Below.heap_setCell _ _ _ _ (fun e => hi (by rw [e]))⟩⟩

set_option maxHeartbeats 800000 in
theorem take_end (n : Int) (r : Nat) (s : ByteArray) (at_ : Nat) (e0 : Int) (w : World) (h : RdAt w r s at_ e0) (hat : at_ ≤ s.size) (hs : s.size ≤ 140737488351232) (hn : (s.size : Int) - at_ < n) :
    Calls Try.prog 62 #[.pointer (some ⟨r, 0, none⟩), .int .i64 n] w fun e w' => e = .returned (.tuple #[.string ⟨#[]⟩, .int .i64 16]) ∧ Rd w w' r s at_ e0 := by
  have h0 : w.cell? ⟨r, 0, none⟩ = some (.string s) := h.cell 0
  have h1 : w.cell? ⟨r, 1, none⟩ = some (.int .i64 at_) := h.cell 1
  go_enter Try.func62, Try.ntmps62
  go_wp2_with fail
  go_quiet (fail)
  go_wp2
  go_ret2
  exact ⟨rfl, rd_drewN h _⟩
set_option maxHeartbeats 800000 in
theorem take_ok (n : Nat) (r : Nat) (s : ByteArray) (at_ : Nat) (e0 : Int) (w : World) (h : RdAt w r s at_ e0) (hat : at_ ≤ s.size) (hs : s.size ≤ 140737488351232) (hn : at_ + n ≤ s.size) :
    Calls Try.prog 62 #[.pointer (some ⟨r, 0, none⟩), .int .i64 n] w fun e w' => e = .returned (.tuple #[.string (s.extract at_ (at_ + n)), .int .i64 0]) ∧ Rd w w' r s (at_ + n) e0 := by
  have h0 : w.cell? ⟨r, 0, none⟩ = some (.string s) := h.cell 0
  have h1 : w.cell? ⟨r, 1, none⟩ = some (.int .i64 at_) := h.cell 1
  have h2 : w.frozen? ⟨r, 1, none⟩ = false := h.frozen 1
  go_enter Try.func62, Try.ntmps62
  go_wp2_with fail
  go_quiet (fail)
  go_wp2_with fail
  go_quiet (fail)
  go_wp2
  go_ret2
  exact ⟨rfl, rd_at h _ _⟩
end Go.Proofs.Yteendimoopmakaa
