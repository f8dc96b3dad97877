/- Len (func 15) and eight (func 47). -/
import Derived.Test.YtmblnacckboggaaDoorD4
namespace Go.Proofs.YtmblnacckboggaaDoor
open Go.RowKit
theorem len_any (m : List UInt8) (x : SH.St) (b : Nat) (r : ByteArray) (hI : IsH m x b r) (hl : m.length < 1152921504606846976) (w : World) :
    Calls Tryd.prog 64 #[.agg (hCells x b r).toArray] w fun e w' => e = .returned (.int .i64 (m.length : Nat)) ∧ Below w.heap.size w w' := by
  have hrl : r.size = m.length - 64 * b := by rw [← bytes_len, hI.r_eq, List.length_drop]
  have hb := hI.b_eq
  have m1 : IntKind.i64.wrap ((b : Int) * 64) = b * 64 := IntWalk.i64_in _ (by omega)
  have m2 : IntKind.i64.wrap ((b : Int) * 64 + r.size) = b * 64 + r.size := IntWalk.i64_in _ (by omega)
  have m3 : (b : Int) * 64 + r.size = m.length := by omega
  have M3 := Lib.hid m3
  clear hI hrl hb m3
  unfold hCells
  go_enter Tryd.func64, Tryd.ntmps64
  go_wp2_with fail
  go_ret
  exact ⟨by rw [M3.out]; rfl, (Below.refl _ _).alloc (Nat.le_refl _) _⟩
def byteC (l : List UInt8) : List Value := l.map fun x => .int .u8 (x.toNat : Nat)
def eightC (n u : Nat) : List Value := byteC ((SH.bytes8 n).take u) ++ List.replicate (8 - u) (.int .u8 0)
theorem eight_step (n u : Nat) (hu : u < 8) : (eightC n u).set u (.int .u8 ((n / 2 ^ (56 - 8 * u) : Nat) % 256)) = eightC n (u + 1) := by
  have : u = 0 ∨ u = 1 ∨ u = 2 ∨ u = 3 ∨ u = 4 ∨ u = 5 ∨ u = 6 ∨ u = 7 := by omega
  rcases this with rfl | rfl | rfl | rfl | rfl | rfl | rfl | rfl <;> simp [eightC, byteC, SH.bytes8, SH.bytes4, Nat.div_div_eq_div_mul]
set_option maxRecDepth 100000 in
theorem eight_any (n : Nat) (w : World) :
    Calls Tryd.prog 52 #[.int .u64 n] w fun e w' => e = .returned (.string ⟨(SH.bytes8 n).toArray⟩) ∧ Below w.heap.size w w' := by
  go_enter Tryd.func52, Tryd.ntmps52
  go_wp2_with fail
  have hS0 : Blk (w.alloc (Obj.cells #[.int .u8 0, .int .u8 0, .int .u8 0, .int .u8 0, .int .u8 0, .int .u8 0, .int .u8 0, .int .u8 0] 102)) w.heap.size 102 (eightC n 0) := Blk.new w 102 [_, _, _, _, _, _, _, _]
  go_loopw [5] (fun i wr => ∃ u : Nat, u ≤ 8 ∧ i = .int .i64 u ∧ Blk wr w.heap.size 102 (eightC n u) ∧ Below w.heap.size w wr) (fun i _ => 8 - (intOf i).toNat)
  case atStart => exact ⟨0, by omega, rfl, hS0, (Below.refl _ _).alloc (Nat.le_refl _) _⟩
  case round =>
    obtain ⟨u, hu, rfl, hS, hB⟩ := hrel
    by_cases hlt : u < 8
    · have hc := hS.cell u
      have hf := hS.frozen u
      have hst := eight_step n u hlt
      have HSS := Lib.hid hS
      have HBB := Lib.hid hB
      have HST := Lib.hid hst
      have hc2 : ∃ v, (eightC n u)[u]? = some v := by
        have : u < (eightC n u).length := by
          simp [eightC, byteC, SH.bytes8, SH.bytes4]; omega
        exact ⟨_, List.getElem?_eq_getElem this⟩
      obtain ⟨v, hv⟩ := hc2
      rw [hv] at hc
      clear hS hB hst hv
      have p1 : IntKind.i64.wrap (8 * (u : Int)) = 8 * u := IntWalk.i64_in _ (by omega)
      have p2 : IntKind.i64.wrap (56 - 8 * (u : Int)) = 56 - 8 * u := IntWalk.i64_in _ (by omega)
      have p3 : (0 : Int) ≤ 56 - 8 * u := by omega
      have p4 : (56 - 8 * (u : Int)).toNat = 56 - 8 * u := by omega
      have p5 : (0 : Int) ≤ u := by omega
      have p6 : (u : Int) < 8 := by omega
      go_wp2_with fail
      refine ⟨⟨u + 1, by omega, rfl, ?_, HBB.out.setCell (Nat.le_refl _) _⟩, by simp [intOf]; omega⟩
      rw [← HST.out]
      exact HSS.out.set_ u _
    · obtain rfl : u = 8 := by omega
      have hcv : (convert 29 9 (.slice (some ⟨w.heap.size, 0, none⟩) 8 8)).run Tryd.prog wr = .ok (.string ⟨(SH.bytes8 n).toArray⟩) wr := by
        refine run_convert_bytes_back wr 29 9 5 ⟨w.heap.size, 0, none⟩ 8 (SH.bytes8 n) Tryd.underlying29 Tryd.underlying5 Tryd.underlying9 (fun j hj => ?_)
        rw [Addr.add_mid]
        refine (hS.cell (0 + j)).trans ?_
        simp only [Nat.zero_add, eightC, byteC, Nat.sub_self, List.replicate_zero, List.append_nil]
        rw [show (SH.bytes8 n).take 8 = SH.bytes8 n from rfl, List.getElem?_map, List.getElem?_eq_getElem hj]
        rfl
      have HBB := Lib.hid hB
      clear hS hB
      go_wp2_with fail
      go_ret
      exact ⟨rfl, HBB.out⟩
end Go.Proofs.YtmblnacckboggaaDoor
