/- The key type [2]int: kind and end. -/
import Derived.Test.YtmnlojbfdpjjdaaP5
import Derived.Test.YtmnlojbfdpjjdaaL1
import Derived.DeepKeys4
namespace Go.Proofs.Ytmnlojbfdpjjdaa
open Go.RowKit
theorem row74 : (74 : TypeId) < Try.prog.types.size := of_decide_eq_true (by kernel_rfl)
theorem wide74 : (match Try.prog.underlying 74 with | some (.array _ _) | some (.struct _) => true | _ => false) = true := by rw [Try.underlying74]
set_option maxRecDepth 100000 in
theorem law74 : Maps.Keyed Try.prog 74 := Maps.Keyed.of_law (deep_law_laid Try.laidOut (m := 2) (by omega) row74 (by kernel_rfl) wide74)
def b2 (x : Bool) : Int := if x then 1 else 0
def b2u (x : Bool) : UInt8 := if x then 1 else 0
def kLit (x : Bool × Bool) : Lit := .string [0, 0, 0, 0, 0, 0, 0, b2u x.1, 0, 0, 0, 0, 0, 0, 0, b2u x.2]
theorem kread (x : Bool × Bool) : keyOf Try.prog 74 (.agg #[.int .i64 (b2 x.1), .int .i64 (b2 x.2)]) = some (kLit x) := by
  obtain ⟨a, b⟩ := x
  cases a <;> cases b <;> kernel_rfl
theorem kinj (x y : Bool × Bool) (h : kLit x = kLit y) : x = y := by
  obtain ⟨a, b⟩ := x
  obtain ⟨c, d⟩ := y
  cases a <;> cases b <;> cases c <;> cases d <;> first | rfl | (simp [kLit, b2u] at h)
def pairK : Ke (Bool × Bool) 74 := ⟨fun x => .agg #[.int .i64 (b2 x.1), .int .i64 (b2 x.2)], kLit, fun _ => True, fun x _ => kread x, kinj, law74⟩
end Go.Proofs.Ytmnlojbfdpjjdaa
