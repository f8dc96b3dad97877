/- The reference's number (func 64), Inverse (func 65), Sign (func 42), Verify (func 44). -/
import Derived.Test.YtklikkmnemooeaaDoorR3
import Derived.Test.YtklikkmnemooeaaDoorDG
import Derived.Test.YtklikkmnemooeaaDoorDI
namespace Go.Proofs.YtklikkmnemooeaaDoor
open Go.RowKit
set_option maxRecDepth 100000 in
set_option maxHeartbeats 800000 in
theorem number_any (r : Nat) (s : ByteArray) (hs : s.size < 144115188075855872) (w : World) :
    Calls Tryd.prog 64 #[.int .i64 r, .string s] w fun e w' => e = .returned (.int .i64 (markOf r s.data.toList : Nat)) ∧ Below w.heap.size w w' := by
  obtain ⟨M, hM⟩ : ∃ M, M = markOf r s.data.toList := ⟨_, rfl⟩
  have hMl : M < 1152921504606845789 := by rw [hM]; exact markOf_lt _ _
  rw [← hM]
  obtain ⟨E8, hE⟩ : ∃ E8 : ByteArray, E8 = ⟨(SH.bytes8 r).toArray⟩ := ⟨_, rfl⟩
  obtain ⟨D, hD⟩ : ∃ D : ByteArray, D = ⟨(SH.sum (E8 ++ s).data.toList).toArray⟩ := ⟨_, rfl⟩
  have hDs : D.size = 32 := by rw [← bytes_len, hD, str_list, sum_len]
  have HDL := Lib.hid (show D.data.toList = SH.sum (SH.bytes8 r ++ s.data.toList) by rw [hD, str_list, ap_list, hE, str_list])
  have hEs : E8.size = 8 := by rw [← bytes_len, hE]; rfl
  have HM := Lib.hid hM
  have f2 : ¬ 9223372036854775807 < E8.size + s.size := by omega
  have f4 : IntKind.i64.wrap (M : Int) = M := IntWalk.i64_in _ (by omega)
  have C50 := Lib.hid (fun W => (Bytes8_any r W).mono (fun e w' h => by rw [← hE] at h; exact h))
  have C16 := Lib.hid (fun W => (rsum_any (E8 ++ s) (by rw [ByteArray.size_append]; omega) W).mono (fun e w' h => by rw [← hD] at h; exact h))
  have HDS := Lib.hid hDs
  clear hM hE hD hDs hEs hs
  go_enter Tryd.func64, Tryd.ntmps64
  go_wp2_with (first
    | (go_at_call 50; refine (C50.out _).mono ?_; rintro e v1 ⟨rfl, hb1⟩; have B1 := Lib.hid hb1; clear hb1)
    | (go_at_call 16; refine (C16.out _).mono ?_; rintro e v2 ⟨rfl, hb2⟩; have B2 := Lib.hid (keepBelow B1.out hb2); clear hb2))
  go_loopw [6, 7] (fun n i wr => ∃ u : Nat, u ≤ 8 ∧ i = .int .i64 u ∧ n = .int .u64 (be D.data.toList u : Nat) ∧ wr = v2) (fun _ i _ => 8 - (intOf i).toNat)
  case atStart => exact ⟨0, by omega, rfl, rfl, rfl⟩
  case round =>
    obtain ⟨u, hu, rfl, rfl, rfl⟩ := hrel
    by_cases hlt : u < 8
    · have hul : u < D.size := by rw [HDS.out]; omega
      have hn := be_lt8 D.data.toList u hlt
      have HN := Lib.hid (show be D.data.toList (u + 1) = be D.data.toList u * 256 + D[u].toNat by rw [be, getD_str])
      generalize be D.data.toList u = n at *
      have HX := Lib.hid (or256 n D[u] hn)
      have p1 : (0 : Int) ≤ u := by omega
      have p2 : (u : Int) < D.size := by omega
      have p6 : (u : Int) < 8 := by omega
      have p3 : IntKind.u64.wrap ((n : Int) * 256) = (n : Int) * 256 := by rw [IntKind.wrap_u64]; omega
      have p4 : ((D[u].toNat : Nat) : Int) % 18446744073709551616 = D[u].toNat := by have := D[u].toNat_lt; omega
      have p5 : IntKind.u64.wrap ((D[u].toNat : Nat) : Int) = D[u].toNat := by rw [IntKind.wrap_u64]; exact p4
      have HN2 := Lib.hid hn
      clear hn
      go_wp2_with fail
      exact ⟨⟨u + 1, by omega, rfl, by rw [HX.out, HN.out], trivial⟩, by simp [intOf]; omega⟩
    · obtain rfl : u = 8 := by omega
      have q1 : Int.tmod ((be D.data.toList 8 : Nat) : Int) 1152921504606845789 = (M : Int) := by
        rw [HM.out]
        unfold markOf
        rw [HDL.out]
        exact (Int.ofNat_tmod _ 1152921504606845789).symm
      have q2 : IntKind.u64.wrap (M : Int) = (M : Int) := wrapu M (by omega)
      generalize be D.data.toList 8 = n at *
      go_wp2_with fail
      go_ret
      exact ⟨rfl, B2.out⟩
theorem Inverse65_any (a : Nat) (ha : a < 2305843009213691579) (R : Nat) (hR : R = a ^ 2305843009213691577 % 2305843009213691579) (w : World) :
    Calls Tryd.prog 65 #[.int .i64 a] w fun e w' => e = .returned (.int .i64 R) ∧ Below w.heap.size w w' := by
  have C27 := Lib.hid (fun W => rpower_told a 2305843009213691577 R ha (by decide) hR W)
  clear hR
  go_enter Tryd.func65, Tryd.ntmps65
  go_wp2_with (go_at_call 27; refine (C27.out _).mono ?_; rintro e v1 ⟨rfl, hb1⟩; have B1 := Lib.hid hb1; clear hb1)
  go_ret
  exact ⟨rfl, B1.out⟩
end Go.Proofs.YtklikkmnemooeaaDoor
