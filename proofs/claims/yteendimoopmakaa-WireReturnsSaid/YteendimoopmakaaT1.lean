/- The number of bytes of an operand number: the program's Size returns sizeN. For every int64. -/
import Derived.Test.YteendimoopmakaaRows
import Derived.WalkKit
import Derived.WalkLawsBesides
import Derived.WalkSpells
namespace Go.Proofs.Yteendimoopmakaa
open Go.RowKit

theorem ret_int {k : IntKind} {a b : Int} (h : a = b) : Ending.returned (.int k a) = .returned (.int k b) := by rw [h]

def sizeN (n : Int) : Nat := if -64 ≤ n ∧ n ≤ 63 then 1 else if -8192 ≤ n ∧ n ≤ 8191 then 2 else if -268435456 ≤ n ∧ n ≤ 268435455 then 4 else 9

set_option maxHeartbeats 1600000 in
theorem size_any (n : Int) (w : World) (h0 : -9223372036854775808 ≤ n) (h1 : n ≤ 9223372036854775807) :
    Calls Try.prog 14 #[.int .i64 n] w fun e w' => e = .returned (.int .i64 (sizeN n)) ∧ Below w.heap.size w w' := by
  have i0 : ∀ w, (Instr.index 67 (.agg #[.int .i64 6, .int .i64 1, .int .i64 13, .int .i64 2, .int .i64 28, .int .i64 4]) (.int .i64 0)).run Try.prog w = .ok (.agg #[.int .i64 6, .int .i64 1]) w := fun _ => by kernel_rfl
  have i1 : ∀ w, (Instr.index 67 (.agg #[.int .i64 6, .int .i64 1, .int .i64 13, .int .i64 2, .int .i64 28, .int .i64 4]) (.int .i64 1)).run Try.prog w = .ok (.agg #[.int .i64 13, .int .i64 2]) w := fun _ => by kernel_rfl
  have i2 : ∀ w, (Instr.index 67 (.agg #[.int .i64 6, .int .i64 1, .int .i64 13, .int .i64 2, .int .i64 28, .int .i64 4]) (.int .i64 2)).run Try.prog w = .ok (.agg #[.int .i64 28, .int .i64 4]) w := fun _ => by kernel_rfl
  go_enter Try.func14, Try.ntmps14
  go_wp2
  go_loopw [10] (fun i wr => ∃ k : Nat, k ≤ 3 ∧ i = .int .i64 k ∧ Below w.heap.size w wr ∧ (1 ≤ k → ¬ (-64 ≤ n ∧ n ≤ 63)) ∧ (2 ≤ k → ¬ (-8192 ≤ n ∧ n ≤ 8191)) ∧ (3 ≤ k → ¬ (-268435456 ≤ n ∧ n ≤ 268435455))) (fun i _ => 3 - (intOf i).toNat)
  case atStart => exact ⟨0, by omega, rfl, Below.refl _ _, by omega, by omega, by omega⟩
  case round =>
    obtain ⟨k, hk, rfl, hb, g1, g2, g3⟩ := hrel
    have hsz := hb.size
    have hk' : k = 0 ∨ k = 1 ∨ k = 2 ∨ k = 3 := by omega
    rcases hk' with rfl | rfl | rfl | rfl
    · clear g1 g2 g3 i1 i2
      rcases (show (0 ≤ n ∧ n ≤ 63) ∨ (-64 ≤ n ∧ n < 0) ∨ n < -64 ∨ 63 < n by omega) with ⟨a1, a2⟩ | ⟨a1, a2⟩ | a1 | a1
      · have e0 : (n / 64 == 0) = true := by rw [beq_iff_eq]; omega
        have e1 : (n / 64 == -1) = false := by rw [beq_eq_false_iff_ne]; omega
        go_wp2
        go_ret
        exact ⟨ret_int (by unfold sizeN; rw [if_pos (by omega)]; rfl), hb.alloc hsz _⟩
      · have e0 : (n / 64 == 0) = false := by rw [beq_eq_false_iff_ne]; omega
        have e1 : (n / 64 == -1) = true := by rw [beq_iff_eq]; omega
        go_wp2
        go_ret
        exact ⟨ret_int (by unfold sizeN; rw [if_pos (by omega)]; rfl), hb.alloc hsz _⟩
      · have e0 : (n / 64 == 0) = false := by rw [beq_eq_false_iff_ne]; omega
        have e1 : (n / 64 == -1) = false := by rw [beq_eq_false_iff_ne]; omega
        go_wp2
        go_roundw
        case rel => exact ⟨1, by omega, rfl, hb.alloc hsz _, by omega, by omega, by omega⟩
        case measure => simp [intOf]
      · have e0 : (n / 64 == 0) = false := by rw [beq_eq_false_iff_ne]; omega
        have e1 : (n / 64 == -1) = false := by rw [beq_eq_false_iff_ne]; omega
        go_wp2
        go_roundw
        case rel => exact ⟨1, by omega, rfl, hb.alloc hsz _, by omega, by omega, by omega⟩
        case measure => simp [intOf]
    · have g1' := g1 (by omega)
      clear g1 g2 g3 i0 i2
      rcases (show (0 ≤ n ∧ n ≤ 8191) ∨ (-8192 ≤ n ∧ n < 0) ∨ n < -8192 ∨ 8191 < n by omega) with ⟨a1, a2⟩ | ⟨a1, a2⟩ | a1 | a1
      · have e0 : (n / 8192 == 0) = true := by rw [beq_iff_eq]; omega
        have e1 : (n / 8192 == -1) = false := by rw [beq_eq_false_iff_ne]; omega
        go_wp2
        go_ret
        exact ⟨ret_int (by unfold sizeN; rw [if_neg g1', if_pos (by omega)]; rfl), hb.alloc hsz _⟩
      · have e0 : (n / 8192 == 0) = false := by rw [beq_eq_false_iff_ne]; omega
        have e1 : (n / 8192 == -1) = true := by rw [beq_iff_eq]; omega
        go_wp2
        go_ret
        exact ⟨ret_int (by unfold sizeN; rw [if_neg g1', if_pos (by omega)]; rfl), hb.alloc hsz _⟩
      · have e0 : (n / 8192 == 0) = false := by rw [beq_eq_false_iff_ne]; omega
        have e1 : (n / 8192 == -1) = false := by rw [beq_eq_false_iff_ne]; omega
        go_wp2
        go_roundw
        case rel => exact ⟨2, by omega, rfl, hb.alloc hsz _, fun _ => g1', by omega, by omega⟩
        case measure => simp [intOf]
      · have e0 : (n / 8192 == 0) = false := by rw [beq_eq_false_iff_ne]; omega
        have e1 : (n / 8192 == -1) = false := by rw [beq_eq_false_iff_ne]; omega
        go_wp2
        go_roundw
        case rel => exact ⟨2, by omega, rfl, hb.alloc hsz _, fun _ => g1', by omega, by omega⟩
        case measure => simp [intOf]
    · have g1' := g1 (by omega)
      have g2' := g2 (by omega)
      clear g1 g2 g3 i0 i1
      rcases (show (0 ≤ n ∧ n ≤ 268435455) ∨ (-268435456 ≤ n ∧ n < 0) ∨ n < -268435456 ∨ 268435455 < n by omega) with ⟨a1, a2⟩ | ⟨a1, a2⟩ | a1 | a1
      · have e0 : (n / 268435456 == 0) = true := by rw [beq_iff_eq]; omega
        have e1 : (n / 268435456 == -1) = false := by rw [beq_eq_false_iff_ne]; omega
        go_wp2
        go_ret
        exact ⟨ret_int (by unfold sizeN; rw [if_neg g1', if_neg g2', if_pos (by omega)]; rfl), hb.alloc hsz _⟩
      · have e0 : (n / 268435456 == 0) = false := by rw [beq_eq_false_iff_ne]; omega
        have e1 : (n / 268435456 == -1) = true := by rw [beq_iff_eq]; omega
        go_wp2
        go_ret
        exact ⟨ret_int (by unfold sizeN; rw [if_neg g1', if_neg g2', if_pos (by omega)]; rfl), hb.alloc hsz _⟩
      · have e0 : (n / 268435456 == 0) = false := by rw [beq_eq_false_iff_ne]; omega
        have e1 : (n / 268435456 == -1) = false := by rw [beq_eq_false_iff_ne]; omega
        go_wp2
        go_roundw
        case rel => exact ⟨3, by omega, rfl, hb.alloc hsz _, fun _ => g1', fun _ => g2', by omega⟩
        case measure => simp [intOf]
      · have e0 : (n / 268435456 == 0) = false := by rw [beq_eq_false_iff_ne]; omega
        have e1 : (n / 268435456 == -1) = false := by rw [beq_eq_false_iff_ne]; omega
        go_wp2
        go_roundw
        case rel => exact ⟨3, by omega, rfl, hb.alloc hsz _, fun _ => g1', fun _ => g2', by omega⟩
        case measure => simp [intOf]
    · have g1' := g1 (by omega)
      have g2' := g2 (by omega)
      have g3' := g3 (by omega)
      clear g1 g2 g3 i0 i1 i2
      go_wp2
      go_ret
      exact ⟨ret_int (by unfold sizeN; rw [if_neg g1', if_neg g2', if_neg g3']; rfl), hb⟩
end Go.Proofs.Yteendimoopmakaa
