/- The reference's Open (12).  -/
import Derived.Test.YtmblnacckboggaaDoorQ3
import Derived.Test.YtmblnacckboggaaDoorQ5
namespace Go.Proofs.YtmblnacckboggaaDoor
open Go.RowKit
set_option maxRecDepth 100000 in
set_option maxHeartbeats 1600000 in
theorem ropen_bad (key s : ByteArray) (side number : Int) (hb : badE key.data.toList side number ≠ 0) (w : World) :
    Calls Tryd.prog 12 #[.string key, .int .i64 side, .int .i64 number, .string s] w fun e w' => e = .returned (.tuple #[.string ⟨#[]⟩, .int .i64 0, .int .i64 (badE key.data.toList side number)]) ∧ w = w' := by
  have C := Lib.hid (fun W => right_any key side number W)
  generalize badE key.data.toList side number = b at *
  have h1 : (b != 0) = true := by rw [bne_iff_ne]; exact hb
  clear hb
  go_enter Tryd.func12, Tryd.ntmps12
  go_wp2_with (go_at_call 31; refine (C.out _).mono ?_; rintro e v1 ⟨rfl, rfl⟩)
  go_ret3
  exact ⟨rfl, rfl⟩
set_option maxRecDepth 100000 in
theorem ropen_short (key s : ByteArray) (side number : Int) (hb : badE key.data.toList side number = 0) (hs : s.size < 2) (w : World) :
    Calls Tryd.prog 12 #[.string key, .int .i64 side, .int .i64 number, .string s] w fun e w' => e = .returned (.tuple #[.string ⟨#[]⟩, .int .i64 0, .int .i64 16]) ∧ w = w' := by
  have C := Lib.hid (fun W => right_any key side number W)
  rw [hb] at C
  have h1 : (s.size : Int) < 2 := by omega
  clear hb hs
  go_enter Tryd.func12, Tryd.ntmps12
  go_wp2_with (go_at_call 31; refine (C.out _).mono ?_; rintro e v1 ⟨rfl, rfl⟩)
  go_ret3
  exact ⟨rfl, rfl⟩
set_option maxRecDepth 100000 in
set_option maxHeartbeats 3200000 in
theorem ropen_long (key s : ByteArray) (side : Int) (n : Nat) (hb : badE key.data.toList side n = 0) (hs2 : 2 ≤ s.size) (hs3 : s.size ≤ 100000000000000) (w : World) :
    Calls Tryd.prog 12 #[.string key, .int .i64 side, .int .i64 n, .string s] w fun e w' => e = .returned (.tuple #[str (openR key.data.toList side n s.data.toList).1, .int .i64 (openR key.data.toList side n s.data.toList).2.1, .int .i64 (openR key.data.toList side n s.data.toList).2.2]) ∧ Below w.heap.size w w' := by
  have C := Lib.hid (fun W => right_any key side n W)
  rw [hb] at C
  obtain ⟨hkl, hs, _⟩ := bad_ok hb
  have hk : key.size = 32 := by rw [← bytes_len]; exact hkl
  unfold openR
  rw [if_neg (fun h => h hb), bytes_len, if_neg (by omega), lenL_at s hs2]
  simp only [Int.toNat_natCast]
  have hx := s[0].toNat_lt
  have hy := s[1].toNat_lt
  obtain ⟨N, hN⟩ : ∃ N, N = s[0].toNat * 256 + s[1].toNat := ⟨_, rfl⟩
  rw [← hN]
  obtain ⟨R, hR⟩ : ∃ R, R = (if N = 0 ∨ 1024 < N then (([], 0, 2) : List UInt8 × Nat × Int) else if s.size < 34 + N then ([], 0, 16) else if sealL key.data.toList side n (s.data.toList.take (2 + N)) ≠ (s.data.toList.take (34 + N)).drop (2 + N) then ([], 0, 15) else (maskL (maskK key.data.toList side) ((s.data.toList.take (2 + N)).drop 2) n, 34 + N, 0)) := ⟨_, rfl⟩
  rw [← hR]
  have HR := Lib.hid hR
  clear hR
  have hwr : IntKind.i64.wrap ((s[0].toNat : Int) * (256 : Int)) = (s[0].toNat : Int) * (256 : Int) := IntWalk.i64_in _ (by omega)
  have hsum : (s[0].toNat : Int) * (256 : Int) + (s[1].toNat : Int) = (N : Int) := by omega
  have hwr2 : IntKind.i64.wrap ((s[0].toNat : Int) * (256 : Int) + (s[1].toNat : Int)) = (N : Int) := by rw [hsum]; exact IntWalk.i64_in _ (by omega)
  have hwr3 : IntKind.i64.wrap (N : Int) = (N : Int) := IntWalk.i64_in _ (by omega)
  have hN2 : N ≤ 65535 := by omega
  have i0 : (0 : Int) < s.size := by omega
  have i1 : (1 : Int) < s.size := by omega
  have j0 : 0 < s.size := by omega
  have j1 : 1 < s.size := by omega
  have hlt : decide ((s.size : Int) < 2) = false := decide_eq_false (by omega)
  have HB := Lib.hid hb
  have HK := Lib.hid hk
  have HS := Lib.hid hs
  clear hkl hk hs hb hN
  go_enter Tryd.func12, Tryd.ntmps12
  go_upto_region 6 with (go_at_call 31; refine (C.out _).mono ?_; rintro e v1 ⟨rfl, rfl⟩)
  go_quiet (fail)
  clear hsum hwr hwr2 hx hy
  by_cases hbad : N = 0 ∨ 1024 < N
  · have HRR := Lib.hid (show R = ([], 0, 2) by rw [HR.out, if_pos hbad])
    rcases hbad with hz | hbad
    · have e0 : ((N : Int) == 0) = true := by rw [beq_iff_eq]; omega
      clear hz
      go_wp2_with fail
      go_ret3
      exact ⟨by rw [HRR.out]; rfl, belowN (Below.refl _ _) _⟩
    · have e0 : ((N : Int) == 0) = false := by rw [beq_eq_false_iff_ne]; omega
      have e1 : (1024 : Int) < N := by omega
      clear hbad
      go_wp2_with fail
      go_ret3
      exact ⟨by rw [HRR.out]; rfl, belowN (Below.refl _ _) _⟩
  · have e0 : ((N : Int) == 0) = false := by rw [beq_eq_false_iff_ne]; omega
    have e1 : decide ((1024 : Int) < N) = false := decide_eq_false (by omega)
    have hN3 : N ≤ 1024 := by omega
    have HBD := Lib.hid hbad
    clear hbad
    by_cases hsh : s.size < 34 + N
    · have HRR := Lib.hid (show R = ([], 0, 16) by rw [HR.out, if_neg HBD.out, if_pos hsh])
      have e2 : (s.size : Int) < 2 + N + 32 := by omega
      clear hsh
      go_wp2_with fail
      go_ret3
      exact ⟨by rw [HRR.out]; rfl, belowN (Below.refl _ _) _⟩
    · have HSH := Lib.hid hsh
      have e2 : decide ((s.size : Int) < 2 + N + 32) = false := decide_eq_false (by omega)
      have e3 : (34 : Int) + N ≤ s.size := by omega
      have e3'' : (2 : Int) + N ≤ s.size := by omega
      have e4 : ((2 : Int) + N).toNat = 2 + N := by omega
      have e5 : ((34 : Int) + N).toNat = 34 + N := by omega
      have e6 : (2 : Int) + N ≤ 34 + N := by omega
      have e7 : (0 : Int) ≤ 2 + N := by omega
      have e8 : IntKind.i64.wrap ((2 : Int) + N) = 2 + N := IntWalk.i64_in _ (by omega)
      have e8' : IntKind.i64.wrap ((34 : Int) + N) = 34 + N := IntWalk.i64_in _ (by omega)
      have CO := Lib.hid (fun W => keys_any key side HS.out HK.out W)
      obtain ⟨K, hK⟩ : ∃ K : ByteArray, K = ⟨(maskK key.data.toList side).toArray⟩ := ⟨_, rfl⟩
      obtain ⟨L, hL⟩ : ∃ L : ByteArray, L = ⟨(sealK key.data.toList side).toArray⟩ := ⟨_, rfl⟩
      have hKs : K.size = 32 := by rw [hK, str_size]; exact sum_len _
      have hLs : L.size = 32 := by rw [hL, str_size]; exact sum_len _
      rw [← hK, ← hL] at CO
      have C8 := Lib.hid (fun W => Bytes8_any n W)
      obtain ⟨N8, hN8⟩ : ∃ N : ByteArray, N = ⟨(SH.bytes8 n).toArray⟩ := ⟨_, rfl⟩
      rw [← hN8] at C8
      have hNs : N8.size = 8 := by rw [hN8, str_size]; rfl
      have hes : (s.extract 0 (2 + N)).size ≤ 2000 := by rw [ByteArray.size_extract]; omega
      have hrun7 : ∀ W : World, (Go.Op.stringOp .add N8 (s.extract 0 (2 + N))).run Tryd.prog W = .ok (.string (N8 ++ s.extract 0 (2 + N))) W := fun W => run_string_add_sum W _ _ (by omega)
      have CS := Lib.hid (fun W => rmac_any L (N8 ++ s.extract 0 (2 + N)) (by omega) (by rw [ByteArray.size_append]; omega) W)
      obtain ⟨S, hS⟩ : ∃ S : ByteArray, S = ⟨(SH.mac L.data.toList (N8 ++ s.extract 0 (2 + N)).data.toList).toArray⟩ := ⟨_, rfl⟩
      rw [← hS] at CS
      have HSL := Lib.hid (show S.data.toList = sealL key.data.toList side n (s.data.toList.take (2 + N)) by rw [hS, str_list, ap_list, ex_take, hL, hN8]; rfl)
      have CM := Lib.hid (fun W => rmask_any (s.extract 2 (2 + N)) K n (by omega) (by rw [ByteArray.size_extract]; omega) W)
      obtain ⟨M, hM⟩ : ∃ M : ByteArray, M = ⟨(mk (s.extract 2 (2 + N)).data.toList (kst K.data.toList n 0 (s.extract 2 (2 + N)).size) (s.extract 2 (2 + N)).size).toArray⟩ := ⟨_, rfl⟩
      rw [← hM] at CM
      have HMM := Lib.hid (show M = ⟨(maskL (maskK key.data.toList side) ((s.data.toList.take (2 + N)).drop 2) n).toArray⟩ by
        rw [hM, hK]
        unfold maskL
        rw [← ex_mid, bytes_len])
      have e9 : (2 : Int) ≤ 2 + N := by omega
      have SB := Lib.hid (belowN (Below.refl w.heap.size w))
      clear hsh hS hK hL hN8 hKs hLs hNs hM hes
      go_upto_region 12 with (go_at_call 32; refine (CO.out _).mono ?_; rintro e v2 ⟨rfl, hb2⟩; have B2 := Lib.hid (keepBelow (SB.out _) hb2); clear hb2)
      go_cut [66] (fun c wx => c = .bool (!(S.toList == (s.extract (2 + N) (34 + N)).toList)) ∧ Below w.heap.size w wx)
      case first =>
        go_region_with (first
          | (go_at_call 33; refine (C8.out _).mono ?_; rintro e v3 ⟨rfl, hb3⟩; have B3 := Lib.hid (keepBelow B2.out.drew hb3); clear hb3)
          | (go_at_call 35; refine (CS.out _).mono ?_; rintro e v4 ⟨rfl, hb4⟩; have B4 := Lib.hid (keepBelow B3.out hb4); clear hb4))
        all_goals
          go_wp2_with fail
          go_meet
          exact ⟨rfl, B4.out⟩
      case rest =>
        obtain ⟨rfl, hbw⟩ := hcut
        have HBW := Lib.hid hbw
        clear hbw hrun7
        rw [bytes_eq, HSL.out, ex_mid]
        by_cases hq : sealL key.data.toList side n (s.data.toList.take (2 + N)) = (s.data.toList.take (34 + N)).drop (2 + N)
        · have HRR := Lib.hid (show R = (maskL (maskK key.data.toList side) ((s.data.toList.take (2 + N)).drop 2) n, 34 + N, 0) by rw [HR.out, if_neg HBD.out, if_neg HSH.out, if_neg (fun h => h hq)])
          rw [decide_eq_true hq]
          clear hq
          go_wp2_with (go_at_call 34; refine (CM.out _).mono ?_; rintro e v5 ⟨rfl, hb5⟩; have B5 := Lib.hid (keepBelow HBW.out hb5); clear hb5)
          go_ret3
          exact ⟨by
            rw [HRR.out, HMM.out]
            show Ending.returned (.tuple #[.string _, .int .i64 ((34 : Int) + N), .int .i64 0]) = .returned (.tuple #[str _, .int .i64 ((34 + N : Nat) : Int), .int .i64 0])
            rw [show ((34 + N : Nat) : Int) = 34 + N by omega]
            rfl, B5.out⟩
        · have HRR := Lib.hid (show R = ([], 0, 15) by rw [HR.out, if_neg HBD.out, if_neg HSH.out, if_pos hq])
          rw [decide_eq_false hq]
          clear hq
          go_wp2_with fail
          go_ret3
          exact ⟨by rw [HRR.out]; rfl, HBW.out⟩
theorem ropen_any (key s : ByteArray) (side number : Int) (hs3 : s.size ≤ 100000000000000) (w : World) :
    Calls Tryd.prog 12 #[.string key, .int .i64 side, .int .i64 number, .string s] w fun e w' => e = .returned (.tuple #[str (openR key.data.toList side number s.data.toList).1, .int .i64 (openR key.data.toList side number s.data.toList).2.1, .int .i64 (openR key.data.toList side number s.data.toList).2.2]) ∧ Below w.heap.size w w' := by
  by_cases hb : badE key.data.toList side number = 0
  · by_cases h0 : s.size < 2
    · have hR : openR key.data.toList side number s.data.toList = ([], 0, 16) := by
        unfold openR
        rw [if_neg (fun h => h hb), bytes_len, if_pos h0]
      rw [hR]
      exact (ropen_short key s side number hb h0 w).mono fun e w' ⟨a, b⟩ => ⟨a, b ▸ Below.refl _ _⟩
    · obtain ⟨_, _, h3⟩ := bad_ok hb
      obtain ⟨n, rfl⟩ : ∃ n : Nat, number = n := ⟨number.toNat, by omega⟩
      exact ropen_long key s side n hb (by omega) hs3 w
  · have hR : openR key.data.toList side number s.data.toList = ([], 0, badE key.data.toList side number) := by
      unfold openR
      rw [if_pos hb]
    rw [hR]
    exact (ropen_bad key s side number hb w).mono fun e w' ⟨a, b⟩ => ⟨a, b ▸ Below.refl _ _⟩
end Go.Proofs.YtmblnacckboggaaDoor
