/- Hex (func 34). -/
import Derived.Test.YtklikkmnemooeaaDoorDA
import Derived.Test.YtklikkmnemooeaaDoorW7
namespace Go.Proofs.YtklikkmnemooeaaDoor
open Go.RowKit
def hexd (n : Nat) : UInt8 := UInt8.ofNat (if n < 10 then 48 + n else 87 + n)
def hexL (l : List UInt8) : List UInt8 := l.flatMap fun b => [hexd (b.toNat / 16), hexd (b.toNat % 16)]
theorem hexL_len (l : List UInt8) : (hexL l).length = 2 * l.length := by
  induction l with
  | nil => rfl
  | cons a l ih => simp only [hexL, List.flatMap_cons, List.length_append, List.length_cons, List.length_nil]; rw [show (l.flatMap fun b => [hexd (b.toNat / 16), hexd (b.toNat % 16)]).length = 2 * l.length from ih]; omega
theorem hexL_step (l : List UInt8) (k : Nat) (hk : k < l.length) : hexL (l.take (k + 1)) = hexL (l.take k) ++ [hexd ((l.getD k 0).toNat / 16)] ++ [hexd ((l.getD k 0).toNat % 16)] := by
  rw [List.take_succ_eq_append_getElem hk, List.getD_eq_getElem?_getD, List.getElem?_eq_getElem hk]
  simp only [hexL, List.flatMap_append, List.flatMap_cons, List.flatMap_nil, List.append_nil, List.append_assoc]
  rfl
def digitsB : ByteArray := ⟨#[48, 49, 50, 51, 52, 53, 54, 55, 56, 57, 97, 98, 99, 100, 101, 102]⟩
theorem digits_at (n : Nat) (h : n < 16) : ∃ hh : n < digitsB.size, digitsB[n]'hh = hexd n := by
  have : n = 0 ∨ n = 1 ∨ n = 2 ∨ n = 3 ∨ n = 4 ∨ n = 5 ∨ n = 6 ∨ n = 7 ∨ n = 8 ∨ n = 9 ∨ n = 10 ∨ n = 11 ∨ n = 12 ∨ n = 13 ∨ n = 14 ∨ n = 15 := by omega
  rcases this with rfl | rfl | rfl | rfl | rfl | rfl | rfl | rfl | rfl | rfl | rfl | rfl | rfl | rfl | rfl | rfl <;> exact ⟨by decide, rfl⟩
theorem digits_run0 (n : Nat) (h : n < 16) (W : World) : (Instr.index 9 (.string digitsB) (.int .u8 n)).run Tryd.prog W = .ok (.int .u8 ((hexd n).toNat : Nat)) W := by
  obtain ⟨hh, he⟩ := digits_at n h
  rw [← he]
  simp [Instr.index, run_underlying Tryd.underlying9, asIntOf, Sem.run_bind, hh]
theorem digits_run (n : Nat) (h : n < 16) (W : World) : (Instr.index 9 (.string ⟨#[48, 49, 50, 51, 52, 53, 54, 55, 56, 57, 97, 98, 99, 100, 101, 102]⟩) (.int .u8 n)).run Tryd.prog W = .ok (.int .u8 ((hexd n).toNat : Nat)) W := digits_run0 n h W
theorem and15 (x : Nat) (hx : x < 256) : bits .and .u8 (x : Int) 15 = ((x % 16 : Nat) : Int) := by
  rw [show (15 : Int) = ((15 : Nat) : Int) from rfl, u8_and_nat _ _ hx (by decide), show (15 : Nat) = 2 ^ 4 - 1 from rfl, Nat.and_two_pow_sub_one_eq_mod]
set_option maxRecDepth 100000 in
set_option maxHeartbeats 800000 in
theorem hex_any (s : ByteArray) (hs : s.size < 70368744177664) (w : World) :
    Calls Tryd.prog 34 #[.string s] w fun e w' => e = .returned (.string ⟨(hexL s.data.toList).toArray⟩) ∧ Below w.heap.size w w' := by
  go_enter Tryd.func34, Tryd.ntmps34
  go_wp2_with fail
  go_loopw [7] (fun i wr => ∃ u : Nat, u ≤ s.size ∧ i = .int .i64 u ∧ Lib.IsBuilderF 72 5 w.heap.size w.heap.size (Lib.byteCells (hexL (s.data.toList.take u))) wr ∧ w.heap.size ≤ wr.heap.size ∧ Below w.heap.size w wr) (fun i _ => s.size - (intOf i).toNat)
  case atStart => exact ⟨0, by omega, rfl, Lib.IsBuilderF.of (Lib.fresh_isBuilder 72 5 w), by simp, (Below.refl _ _).alloc (Nat.le_refl _) _⟩
  case round =>
    obtain ⟨u, hu, rfl, hB, hsz, hN⟩ := hrel
    have HB := Lib.hid hB
    have HNN := Lib.hid hN
    have HSZ := Lib.hid hsz
    clear hB hN hsz
    by_cases hlu : u < s.size
    · have HST := Lib.hid (hexL_step s.data.toList u (by rw [bytes_len]; exact hlu))
      rw [getD_str s u hlu] at HST
      have hb := s[u].toNat_lt
      have HLEN := Lib.hid (show (hexL (s.data.toList.take u)).length ≤ 2 * s.size by rw [hexL_len, List.length_take, bytes_len]; omega)
      have q1 : (u : Int) < s.size := by omega
      have q2 : (0 : Int) ≤ u := by omega
      obtain ⟨h1, hh1⟩ : ∃ h1, h1 = s[u].toNat / 16 := ⟨_, rfl⟩
      obtain ⟨l1, hl1⟩ : ∃ l1, l1 = s[u].toNat % 16 := ⟨_, rfl⟩
      have hd1 : ((s[u].toNat : Nat) : Int) / 16 = (h1 : Int) := by omega
      have hd2 : bits .and .u8 (s[u].toNat : Int) 15 = (l1 : Int) := by rw [and15 _ hb, hl1]
      have r1 := digits_run h1 (by omega)
      have r2 := digits_run l1 (by omega)
      rw [← hh1, ← hl1] at HST
      clear hh1 hl1 hb
      go_wp2_with (first
        | (go_at_call 61; have tok := B1; clear tok; refine (wbyte _ _ _ _ _ B1.out (by rw [List.length_append, Lib.byteCells_length]; have := HLEN.out; simp; omega) S1.out).mono ?_; rintro e v2 ⟨rfl, hB2, hb2, _⟩; have B2 := Lib.hid hB2; have N2 := Lib.hid (N1.out.trans hb2); have S2 := Lib.hid (Nat.le_trans S1.out hb2.size); clear hB2 hb2)
        | (go_at_call 61; refine (wbyte _ _ _ _ _ HB.out (by rw [Lib.byteCells_length]; have := HLEN.out; omega) HSZ.out).mono ?_; rintro e v1 ⟨rfl, hB1, hb1, _⟩; have B1 := Lib.hid (Or.inr hB1 : Lib.IsBuilderF _ _ _ _ _ _); have N1 := Lib.hid (HNN.out.trans hb1); have S1 := Lib.hid (Nat.le_trans HSZ.out hb1.size); clear hB1 hb1))
      refine ⟨⟨u + 1, by omega, rfl, ?_, S2.out, N2.out⟩, by simp [intOf]; omega⟩
      rw [HST.out, Lib.byteCells_append, Lib.byteCells_append]
      exact Or.inr B2.out
    · obtain rfl : u = s.size := by omega
      go_wp2_with (go_at_call 49; refine (Tryd.Builder_String_any_k _ _ _ _ HB.out HSZ.out).mono ?_; rintro e v1 ⟨rfl, _, hb1, _⟩)
      go_ret
      exact ⟨by rw [List.take_of_length_le (by rw [bytes_len]; exact Nat.le_refl _)]; rfl, HNN.out.trans hb1⟩
end Go.Proofs.YtklikkmnemooeaaDoor
