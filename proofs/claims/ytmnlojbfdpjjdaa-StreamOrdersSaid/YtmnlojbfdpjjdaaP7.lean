/- StreamServes: a map of booleans, a map of numbers; the memory of the law's first loop. -/
import Derived.Test.YtmnlojbfdpjjdaaP6
import Derived.Test.YtmnlojbfdpjjdaaN3
namespace Go.Proofs.Ytmnlojbfdpjjdaa
open Go.RowKit
def boolRd (v : Value) : Option (DataW Unit × List MemPlace) := match v with
  | .bool b => some (.lit (.bool b), [])
  | _ => none
theorem boolRd_inv (v : Value) (x : Bool) (ps : List MemPlace) (h : boolRd v = some (.lit (.bool x), ps)) : v = .bool x := by
  unfold boolRd at h
  split at h
  · injection h with h
    injection h with h _
    injection h with h
    injection h with h
    rw [h]
  · cases h
def boolE : El Bool := ⟨.bool, fun b => .lit (.bool b), boolRd, fun _ => rfl, boolRd_inv, false⟩
def numRd (v : Value) : Option (DataW Unit × List MemPlace) := match v with
  | .int .i64 b => some (.lit (.int .i64 b), [])
  | _ => none
theorem numRd_inv (v : Value) (x : Int) (ps : List MemPlace) (h : numRd v = some (.lit (.int .i64 x), ps)) : v = .int .i64 x := by
  unfold numRd at h
  split at h
  · injection h with h
    injection h with h _
    injection h with h
    injection h with _ h
    rw [h]
  · cases h
def numE : El Int := ⟨fun x => .int .i64 x, fun b => .lit (.int .i64 b), numRd, fun _ => rfl, numRd_inv, 0⟩
theorem zero4 (w : World) : (zeroValue 4).run Try.prog w = .ok (boolE.val boolE.zero) w := by kernel_rfl
theorem zero3 (w : World) : (zeroValue 3).run Try.prog w = .ok (numE.val numE.zero) w := by kernel_rfl
end Go.Proofs.Ytmnlojbfdpjjdaa
