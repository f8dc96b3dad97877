/- same of the zero item with itself. -/
import Derived.Test.YteendimoopmakaaT24
namespace Go.Proofs.Yteendimoopmakaa
open Go.RowKit

def zeroItem : Value := .agg #[.int .i64 0, .int .i64 0, .int .i64 0, .string ⟨#[]⟩, .slice none 0 0]
theorem equal_nil (w : World) : Calls Try.prog 56 #[.slice none 0 0, .slice none 0 0] w fun e w' => e = .returned (.bool true) ∧ w = w' := by
  go_enter Try.func56, Try.ntmps56
  go_wp2_with fail
  go_loop [13] (fun i => i = .int .i64 0) (fun _ => 0)
  case atStart => rfl
  case round =>
    obtain rfl := hrel
    go_wp2
    go_ret
    exact ⟨rfl, rfl⟩
theorem same_zero (w : World) : Calls Try.prog 23 #[zeroItem, zeroItem] w fun e w' => e = .returned (.bool true) ∧ Below w.heap.size w w' := by
  have hb : Below w.heap.size w ((w.alloc zero35).alloc zero35) := ((Below.refl _ _).alloc (Nat.le_refl _) _).alloc (by simp) _
  unfold zeroItem
  go_enter Try.func23, Try.ntmps23
  go_wp2_with (go_at_call 56; refine (equal_nil _).mono ?_; rintro e w1 ⟨rfl, rfl⟩)
  go_ret
  exact ⟨rfl, hb⟩
end Go.Proofs.Yteendimoopmakaa
