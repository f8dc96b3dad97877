/- The laws over [limit, acts], where the acts are too many or the limit is no limit: true at once. -/
import Derived.Test.YtmnlojbfdpjjdaaN3
namespace Go.Proofs.Ytmnlojbfdpjjdaa
open Go.RowKit
set_option maxRecDepth 100000 in
set_option maxHeartbeats 1600000 in
theorem serves_no (lim : Int) (sv : Value) (l : List Ac) (hf : fewB l = false) (w : World) (hr : Acts w sv l) : Calls Try.prog 6 #[.int .i64 lim, sv] w fun e w' => e = .returned (.bool true) ∧ Below w.heap.size w w' := by
  have CA := Lib.hid (fun W => awake_any W)
  have CF := Lib.hid (fun W (hb : Below w.heap.size w W) => few_any l sv W (hr.below hb))
  rw [hf] at CF
  clear hr hf
  go_enter Try.func6, Try.ntmps6
  go_wp2_with (first
    | (go_at_call 9; refine (CA.out _).mono ?_; rintro e v1 ⟨rfl, hb1⟩; have B1 := Lib.hid hb1; clear hb1)
    | (go_at_call 17; refine (CF.out _ ?_).mono ?_; exact B1.out; rintro e v2 ⟨rfl, hb2⟩; have B2 := Lib.hid (keepBelow B1.out hb2); clear hb2))
  go_ret
  exact ⟨rfl, B2.out⟩
set_option maxRecDepth 100000 in
set_option maxHeartbeats 1600000 in
theorem serves_bad (lim : Int) (sv : Value) (l : List Ac) (hf : fewB l = true) (hl : lim < 1 ∨ 1048576 < lim) (w : World) (hr : Acts w sv l) : Calls Try.prog 6 #[.int .i64 lim, sv] w fun e w' => e = .returned (.bool true) ∧ Below w.heap.size w w' := by
  have CA := Lib.hid (fun W => awake_any W)
  have CF := Lib.hid (fun W (hb : Below w.heap.size w W) => few_any l sv W (hr.below hb))
  rw [hf] at CF
  have CN := Lib.hid (fun W => New_no lim hl W)
  clear hr hf hl
  go_enter Try.func6, Try.ntmps6
  go_wp2_with (first
    | (go_at_call 9; refine (CA.out _).mono ?_; rintro e v1 ⟨rfl, hb1⟩; have B1 := Lib.hid hb1; clear hb1)
    | (go_at_call 17; refine (CF.out _ ?_).mono ?_; exact B1.out; rintro e v2 ⟨rfl, hb2⟩; have B2 := Lib.hid (keepBelow B1.out hb2); clear hb2)
    | (go_at_call 12; refine (CN.out _).mono ?_; rintro e v3 ⟨rfl, rfl⟩))
  go_ret
  exact ⟨rfl, B2.out⟩
set_option maxRecDepth 100000 in
set_option maxHeartbeats 1600000 in
theorem orders_no (lim : Int) (sv : Value) (l : List Ac) (hf : fewB l = false) (w : World) (hr : Acts w sv l) : Calls Try.prog 4 #[.int .i64 lim, sv] w fun e w' => e = .returned (.bool true) ∧ Below w.heap.size w w' := by
  have CA := Lib.hid (fun W => awake_any W)
  have CF := Lib.hid (fun W (hb : Below w.heap.size w W) => few_any l sv W (hr.below hb))
  rw [hf] at CF
  clear hr hf
  go_enter Try.func4, Try.ntmps4
  go_wp2_with (first
    | (go_at_call 9; refine (CA.out _).mono ?_; rintro e v1 ⟨rfl, hb1⟩; have B1 := Lib.hid hb1; clear hb1)
    | (go_at_call 17; refine (CF.out _ ?_).mono ?_; exact B1.out; rintro e v2 ⟨rfl, hb2⟩; have B2 := Lib.hid (keepBelow B1.out hb2); clear hb2))
  go_ret
  exact ⟨rfl, B2.out⟩
set_option maxRecDepth 100000 in
set_option maxHeartbeats 1600000 in
theorem orders_bad (lim : Int) (sv : Value) (l : List Ac) (hf : fewB l = true) (hl : lim < 1 ∨ 1048576 < lim) (w : World) (hr : Acts w sv l) : Calls Try.prog 4 #[.int .i64 lim, sv] w fun e w' => e = .returned (.bool true) ∧ Below w.heap.size w w' := by
  have CA := Lib.hid (fun W => awake_any W)
  have CF := Lib.hid (fun W (hb : Below w.heap.size w W) => few_any l sv W (hr.below hb))
  rw [hf] at CF
  have CN := Lib.hid (fun W => New_no lim hl W)
  clear hr hf hl
  go_enter Try.func4, Try.ntmps4
  go_wp2_with (first
    | (go_at_call 9; refine (CA.out _).mono ?_; rintro e v1 ⟨rfl, hb1⟩; have B1 := Lib.hid hb1; clear hb1)
    | (go_at_call 17; refine (CF.out _ ?_).mono ?_; exact B1.out; rintro e v2 ⟨rfl, hb2⟩; have B2 := Lib.hid (keepBelow B1.out hb2); clear hb2)
    | (go_at_call 12; refine (CN.out _).mono ?_; rintro e v3 ⟨rfl, rfl⟩))
  go_ret
  exact ⟨rfl, B2.out⟩
set_option maxRecDepth 100000 in
set_option maxHeartbeats 1600000 in
theorem plays_no (lim : Int) (sv : Value) (l : List Ac) (hf : fewB l = false) (w : World) (hr : Acts w sv l) : Calls Try.prog 5 #[.int .i64 lim, sv] w fun e w' => e = .returned (.bool true) ∧ Below w.heap.size w w' := by
  have CA := Lib.hid (fun W => awake_any W)
  have CF := Lib.hid (fun W (hb : Below w.heap.size w W) => few_any l sv W (hr.below hb))
  rw [hf] at CF
  clear hr hf
  go_enter Try.func5, Try.ntmps5
  go_wp2_with (first
    | (go_at_call 9; refine (CA.out _).mono ?_; rintro e v1 ⟨rfl, hb1⟩; have B1 := Lib.hid hb1; clear hb1)
    | (go_at_call 17; refine (CF.out _ ?_).mono ?_; exact B1.out; rintro e v2 ⟨rfl, hb2⟩; have B2 := Lib.hid (keepBelow B1.out hb2); clear hb2))
  go_ret
  exact ⟨rfl, B2.out⟩
end Go.Proofs.Ytmnlojbfdpjjdaa
