/- Open (11) of the program. -/
import Derived.Test.YtmblnacckboggaaDoorQ4
import Derived.Lib.QuoteBits
namespace Go.Proofs.YtmblnacckboggaaDoor
open Go.RowKit
theorem or_i64 (x y : Nat) (hx : x < 256) (hy : y < 256) : bits .or .i64 ((x : Int) * 256) (y : Int) = ((x * 256 + y : Nat) : Int) := by
  rw [show (x : Int) * 256 = ((x * 256 : Nat) : Int) by omega]
  show IntKind.i64.wrap ((BitVec.ofInt 64 ((x * 256 : Nat) : Int) ||| BitVec.ofInt 64 ((y : Nat) : Int)).toNat : Int) = _
  rw [BitVec.toNat_or, ofInt_u64 _ (by omega), ofInt_u64 _ (by omega), nat_join 8 _ _ (by omega) (by omega)]
  exact Go.Lib.wrap_i64_small _ (by omega)
theorem belowN {B : Nat} {a w : World} (h : Below B a w) (n : Nat) : Below B a (w.drewN n) := ⟨h.os, h.tape, h.output, h.size, h.block⟩
theorem ex_mid (r : ByteArray) (a b : Nat) : (r.extract a b).data.toList = (r.data.toList.take b).drop a := by
  rw [ByteArray.data_extract, Array.toList_extract, List.extract_eq_take_drop, List.drop_take]
theorem lenL_at (s : ByteArray) (h : 2 ≤ s.size) : lenL s.data.toList = s[0].toNat * 256 + s[1].toNat := by
  unfold lenL
  rw [getD_str s 0 (by omega), getD_str s 1 (by omega)]
theorem bytes_eq (a b : ByteArray) : (a.toList == b.toList) = decide (a.data.toList = b.data.toList) := by
  rw [ByteArray.toList_eq, ByteArray.toList_eq, Bool.eq_iff_iff, beq_iff_eq, decide_eq_true_eq]
set_option maxRecDepth 100000 in
set_option maxHeartbeats 1600000 in
theorem open_bad (key s : ByteArray) (side number : Int) (hb : badE key.data.toList side number ≠ 0) (w : World) :
    Calls Tryd.prog 11 #[.string key, .int .i64 side, .int .i64 number, .string s] w fun e w' => e = .returned (.tuple #[.string ⟨#[]⟩, .int .i64 0, .int .i64 (badE key.data.toList side number)]) ∧ w = w' := by
  have C := Lib.hid (fun W => check_any key side number W)
  generalize badE key.data.toList side number = b at *
  have h1 : (b != 0) = true := by rw [bne_iff_ne]; exact hb
  clear hb
  go_enter Tryd.func11, Tryd.ntmps11
  go_wp2_with (go_at_call 27; refine (C.out _).mono ?_; rintro e v1 ⟨rfl, rfl⟩)
  go_ret3
  exact ⟨rfl, rfl⟩
set_option maxRecDepth 100000 in
theorem open_short (key s : ByteArray) (side number : Int) (hb : badE key.data.toList side number = 0) (hs : s.size < 2) (w : World) :
    Calls Tryd.prog 11 #[.string key, .int .i64 side, .int .i64 number, .string s] w fun e w' => e = .returned (.tuple #[.string ⟨#[]⟩, .int .i64 0, .int .i64 16]) ∧ w = w' := by
  have C := Lib.hid (fun W => check_any key side number W)
  rw [hb] at C
  have h1 : (s.size : Int) < 2 := by omega
  clear hb hs
  go_enter Tryd.func11, Tryd.ntmps11
  go_wp2_with (go_at_call 27; refine (C.out _).mono ?_; rintro e v1 ⟨rfl, rfl⟩)
  go_ret3
  exact ⟨rfl, rfl⟩
set_option maxRecDepth 100000 in
set_option maxHeartbeats 3200000 in
theorem open_long (key s : ByteArray) (side : Int) (n : Nat) (hb : badE key.data.toList side n = 0) (hn : n < 9223372036854775808) (hs2 : 2 ≤ s.size) (hs3 : s.size ≤ 100000000000000) (w : World) (hT : Tabs w) :
    Calls Tryd.prog 11 #[.string key, .int .i64 side, .int .i64 n, .string s] w fun e w' => e = .returned (.tuple #[str (openR key.data.toList side n s.data.toList).1, .int .i64 (openR key.data.toList side n s.data.toList).2.1, .int .i64 (openR key.data.toList side n s.data.toList).2.2]) ∧ Below w.heap.size w w' := by
  have C := Lib.hid (fun W => check_any key side n W)
  rw [hb] at C
  obtain ⟨hkl, hs, _⟩ := bad_ok hb
  have hk : key.size = 32 := by rw [← bytes_len]; exact hkl
  unfold openR
  rw [if_neg (fun h => h hb), bytes_len, if_neg (by omega), lenL_at s hs2]
  simp only [Int.toNat_natCast]
  have hx := s[0].toNat_lt
  have hy := s[1].toNat_lt
  have hor := or_i64 s[0].toNat s[1].toNat hx hy
  obtain ⟨N, hN⟩ : ∃ N, N = s[0].toNat * 256 + s[1].toNat := ⟨_, rfl⟩
  rw [← hN] at hor ⊢
  obtain ⟨R, hR⟩ : ∃ R, R = (if N = 0 ∨ 1024 < N then (([], 0, 2) : List UInt8 × Nat × Int) else if s.size < 34 + N then ([], 0, 16) else if sealL key.data.toList side n (s.data.toList.take (2 + N)) ≠ (s.data.toList.take (34 + N)).drop (2 + N) then ([], 0, 15) else (maskL (maskK key.data.toList side) ((s.data.toList.take (2 + N)).drop 2) n, 34 + N, 0)) := ⟨_, rfl⟩
  rw [← hR]
  have HR := Lib.hid hR
  clear hR
  have hwr : IntKind.i64.wrap ((s[0].toNat : Int) * 256) = (s[0].toNat : Int) * 256 := IntWalk.i64_in _ (by omega)
  have hN2 : N ≤ 65535 := by omega
  have i0 : (0 : Int) < s.size := by omega
  have i1 : (1 : Int) < s.size := by omega
  have j0 : 0 < s.size := by omega
  have j1 : 1 < s.size := by omega
  have hlt : decide ((s.size : Int) < 2) = false := decide_eq_false (by omega)
  have HT := Lib.hid hT
  have HB := Lib.hid hb
  have HK := Lib.hid hk
  have HS := Lib.hid hs
  have HN := Lib.hid hn
  clear hkl hk hs hb hT hN hn
  go_enter Tryd.func11, Tryd.ntmps11
  go_upto_region 6 with (go_at_call 27; refine (C.out _).mono ?_; rintro e v1 ⟨rfl, rfl⟩)
  go_quiet (fail)
  clear hor hwr hx hy
  by_cases hbad : N = 0 ∨ 1024 < N
  · have HRR := Lib.hid (show R = ([], 0, 2) by rw [HR.out, if_pos hbad])
    rcases hbad with rfl | hbad
    · go_wp2_with fail
      go_ret3
      exact ⟨by rw [HRR.out]; rfl, belowN (Below.refl _ _) _⟩
    · have e0 : ((N : Int) == 0) = false := by rw [beq_eq_false_iff_ne]; omega
      have e1 : (1024 : Int) < N := by omega
      clear hbad
      go_wp2_with fail
      go_ret3
      exact ⟨by rw [HRR.out]; rfl, belowN (Below.refl _ _) _⟩
  · have e0 : ((N : Int) == 0) = false := by rw [beq_eq_false_iff_ne]; omega
    have e1 : decide ((1024 : Int) < N) = false := decide_eq_false (by omega)
    have hN3 : N ≤ 1024 := by omega
    have HBD := Lib.hid hbad
    clear hbad
    by_cases hsh : s.size < 34 + N
    · have HRR := Lib.hid (show R = ([], 0, 16) by rw [HR.out, if_neg HBD.out, if_pos hsh])
      have e2 : (s.size : Int) < 2 + N + 32 := by omega
      clear hsh
      go_wp2_with fail
      go_ret3
      exact ⟨by rw [HRR.out]; rfl, belowN (Below.refl _ _) _⟩
    · have HSH := Lib.hid hsh
      have e2 : decide ((s.size : Int) < 2 + N + 32) = false := decide_eq_false (by omega)
      have e3 : (34 : Int) + N ≤ s.size := by omega
      have e3' : (2 : Int) + N + 32 ≤ s.size := by omega
      have e3'' : (2 : Int) + N ≤ s.size := by omega
      have e4 : ((2 : Int) + N).toNat = 2 + N := by omega
      have e5 : ((2 : Int) + N + 32).toNat = 34 + N := by omega
      have e6 : (2 : Int) + N ≤ 2 + N + 32 := by omega
      have e7 : (0 : Int) ≤ 2 + N := by omega
      have e8 : IntKind.i64.wrap ((2 : Int) + N + 32) = 2 + N + 32 := IntWalk.i64_in _ (by omega)
      have CS := Lib.hid (fun W (hb : Below w.heap.size w W) => seal_any key (s.extract 0 (2 + N)) side n HS.out HK.out (by rw [ByteArray.size_extract]; omega) W (HT.out.keep hb))
      obtain ⟨S, hS⟩ : ∃ S : ByteArray, S = ⟨(sealL key.data.toList side n (s.extract 0 (2 + N)).data.toList).toArray⟩ := ⟨_, rfl⟩
      rw [← hS] at CS
      have HSL := Lib.hid (show S.data.toList = sealL key.data.toList side n (s.data.toList.take (2 + N)) by rw [hS, ex_take])
      clear hsh hS
      go_upto_region 12 with fail
      go_cut [49] (fun c wx => c = .bool (!(S.toList == (s.extract (2 + N) (34 + N)).toList)) ∧ Below w.heap.size w wx)
      case first =>
        go_region_with (go_at_call 30; refine (CS.out _ (Below.drew (belowN (Below.refl _ _) _))).mono ?_; rintro e v3 ⟨rfl, hb3⟩; have B3 := Lib.hid (keepBelow (Below.drew (belowN (Below.refl _ _) _)) hb3); clear hb3)
        all_goals
          go_wp2_with fail
          go_meet
          exact ⟨rfl, B3.out⟩
      case rest =>
        obtain ⟨rfl, hbw⟩ := hcut
        have HBW := Lib.hid hbw
        clear hbw
        rw [bytes_eq, HSL.out, ex_mid]
        by_cases hq : sealL key.data.toList side n (s.data.toList.take (2 + N)) = (s.data.toList.take (34 + N)).drop (2 + N)
        · have HRR := Lib.hid (show R = (maskL (maskK key.data.toList side) ((s.data.toList.take (2 + N)).drop 2) n, 34 + N, 0) by rw [HR.out, if_neg HBD.out, if_neg HSH.out, if_neg (fun h => h hq)])
          rw [decide_eq_true hq]
          clear hq
          have CO := Lib.hid (fun W (hb : Below w.heap.size w W) => own_mask key side HS.out HK.out W (HT.out.keep hb))
          obtain ⟨K, hK⟩ : ∃ K : ByteArray, K = ⟨(maskK key.data.toList side).toArray⟩ := ⟨_, rfl⟩
          have hKs : K.size = 32 := by rw [hK, str_size]; exact sum_len _
          rw [← hK] at CO
          have CM := Lib.hid (fun W (hb : Below w.heap.size w W) => mask_good (s.extract 2 (2 + N)) K n (by omega) HN.out (by rw [ByteArray.size_extract]; omega) W (HT.out.keep hb))
          obtain ⟨M, hM⟩ : ∃ M : ByteArray, M = ⟨(mk (s.extract 2 (2 + N)).data.toList (kst K.data.toList n 0 (s.extract 2 (2 + N)).size) (s.extract 2 (2 + N)).size).toArray⟩ := ⟨_, rfl⟩
          rw [← hM] at CM
          have HMM := Lib.hid (show M = ⟨(maskL (maskK key.data.toList side) ((s.data.toList.take (2 + N)).drop 2) n).toArray⟩ by
            rw [hM, hK]
            unfold maskL
            rw [← ex_mid, bytes_len])
          have e9 : (2 : Int) ≤ 2 + N := by omega
          clear hK hM hKs
          go_upto_region 14 with fail
          go_cut [14] (fun c wx => c = .string M ∧ Below w.heap.size w wx)
          case first =>
            go_region_with (first
              | (go_at_call 29; refine (CO.out _ (HBW.out.drew)).mono ?_; rintro e v4 ⟨rfl, hb4⟩; have B4 := Lib.hid (keepBelow HBW.out.drew hb4); clear hb4)
              | (go_at_call 28; refine (CM.out _ B4.out).mono ?_; rintro e v5 ⟨rfl, hb5⟩; have B5 := Lib.hid (keepBelow B4.out hb5); clear hb5))
            all_goals
              go_wp2_with fail
              go_meet
              exact ⟨rfl, B5.out⟩
          case rest =>
            obtain ⟨rfl, hb6⟩ := hcut
            go_wp2_with fail
            go_ret3
            exact ⟨by
              rw [HRR.out, HMM.out]
              show Ending.returned (.tuple #[.string _, .int .i64 ((2 : Int) + N + 32), .int .i64 0]) = .returned (.tuple #[str _, .int .i64 ((34 + N : Nat) : Int), .int .i64 0])
              rw [show ((34 + N : Nat) : Int) = 2 + N + 32 by omega]
              rfl, hb6⟩
        · have HRR := Lib.hid (show R = ([], 0, 15) by rw [HR.out, if_neg HBD.out, if_neg HSH.out, if_pos hq])
          rw [decide_eq_false hq]
          clear hq
          go_wp2_with fail
          go_ret3
          exact ⟨by rw [HRR.out]; rfl, HBW.out⟩
theorem open_any (key s : ByteArray) (side number : Int) (hn : number < 9223372036854775808) (hs3 : s.size ≤ 100000000000000) (w : World) (hT : Tabs w) :
    Calls Tryd.prog 11 #[.string key, .int .i64 side, .int .i64 number, .string s] w fun e w' => e = .returned (.tuple #[str (openR key.data.toList side number s.data.toList).1, .int .i64 (openR key.data.toList side number s.data.toList).2.1, .int .i64 (openR key.data.toList side number s.data.toList).2.2]) ∧ Below w.heap.size w w' := by
  by_cases hb : badE key.data.toList side number = 0
  · by_cases h0 : s.size < 2
    · have hR : openR key.data.toList side number s.data.toList = ([], 0, 16) := by
        unfold openR
        rw [if_neg (fun h => h hb), bytes_len, if_pos h0]
      rw [hR]
      exact (open_short key s side number hb h0 w).mono fun e w' ⟨a, b⟩ => ⟨a, b ▸ Below.refl _ _⟩
    · obtain ⟨_, _, h3⟩ := bad_ok hb
      obtain ⟨n, rfl⟩ : ∃ n : Nat, number = n := ⟨number.toNat, by omega⟩
      exact open_long key s side n hb (by omega) (by omega) hs3 w hT
  · have hR : openR key.data.toList side number s.data.toList = ([], 0, badE key.data.toList side number) := by
      unfold openR
      rw [if_pos hb]
    rw [hR]
    exact (open_bad key s side number hb w).mono fun e w' ⟨a, b⟩ => ⟨a, b ▸ Below.refl _ _⟩
end Go.Proofs.YtmblnacckboggaaDoor
