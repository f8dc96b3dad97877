/- The reference's Record (10). -/
import Derived.Test.YtmblnacckboggaaDoorQ3
import Derived.Test.YtmblnacckboggaaDoorQ4
namespace Go.Proofs.YtmblnacckboggaaDoor
open Go.RowKit
set_option maxRecDepth 100000 in
set_option maxHeartbeats 1600000 in
theorem rrecord_bad (key d : ByteArray) (side number : Int) (hb : badE key.data.toList side number ≠ 0) (w : World) :
    Calls Tryd.prog 10 #[.string key, .int .i64 side, .int .i64 number, .string d] w fun e w' => e = .returned (.tuple #[.string ⟨#[]⟩, .int .i64 (badE key.data.toList side number)]) ∧ w = w' := by
  have C := Lib.hid (fun W => right_any key side number W)
  generalize badE key.data.toList side number = b at *
  have h1 : (b != 0) = true := by rw [bne_iff_ne]; exact hb
  clear hb
  go_enter Tryd.func10, Tryd.ntmps10
  go_wp2_with (go_at_call 31; refine (C.out _).mono ?_; rintro e v1 ⟨rfl, rfl⟩)
  go_ret2
  exact ⟨rfl, rfl⟩
set_option maxRecDepth 100000 in
theorem rrecord_none (key d : ByteArray) (side number : Int) (hb : badE key.data.toList side number = 0) (hd : d.size = 0) (w : World) :
    Calls Tryd.prog 10 #[.string key, .int .i64 side, .int .i64 number, .string d] w fun e w' => e = .returned (.tuple #[.string ⟨#[]⟩, .int .i64 12]) ∧ w = w' := by
  have C := Lib.hid (fun W => right_any key side number W)
  rw [hb] at C
  have he : d = ⟨#[]⟩ := ByteArray.size_eq_zero_iff.1 hd
  subst he
  clear hb hd
  go_enter Tryd.func10, Tryd.ntmps10
  go_wp2_with (go_at_call 31; refine (C.out _).mono ?_; rintro e v1 ⟨rfl, rfl⟩)
  go_ret2
  exact ⟨rfl, rfl⟩
set_option maxRecDepth 100000 in
theorem rrecord_long (key d : ByteArray) (side number : Int) (hb : badE key.data.toList side number = 0) (hd : 1024 < d.size) (w : World) :
    Calls Tryd.prog 10 #[.string key, .int .i64 side, .int .i64 number, .string d] w fun e w' => e = .returned (.tuple #[.string ⟨#[]⟩, .int .i64 3]) ∧ w = w' := by
  have C := Lib.hid (fun W => right_any key side number W)
  rw [hb] at C
  have he := not_empty (d := d) (by omega)
  have hn := not_nil (d := d) (by omega)
  have h1 : (1024 : Int) < d.size := by omega
  clear hb hd
  go_enter Tryd.func10, Tryd.ntmps10
  go_wp2_with (go_at_call 31; refine (C.out _).mono ?_; rintro e v1 ⟨rfl, rfl⟩)
  go_ret2
  exact ⟨rfl, rfl⟩
set_option maxRecDepth 100000 in
set_option maxHeartbeats 1600000 in
theorem rrecord_good (key d : ByteArray) (side : Int) (n : Nat) (hb : badE key.data.toList side n = 0) (hd : d.size ≠ 0) (hd2 : d.size ≤ 1024) (w : World) :
    Calls Tryd.prog 10 #[.string key, .int .i64 side, .int .i64 n, .string d] w fun e w' => e = .returned (.tuple #[str (recL key.data.toList side n d.data.toList), .int .i64 0]) ∧ Below w.heap.size w w' := by
  have C := Lib.hid (fun W => right_any key side n W)
  rw [hb] at C
  obtain ⟨hkl, hs, _⟩ := bad_ok hb
  have hk : key.size = 32 := by rw [← bytes_len]; exact hkl
  have CO := Lib.hid (keys_any key side hs hk w)
  obtain ⟨K, hK⟩ : ∃ K : ByteArray, K = ⟨(maskK key.data.toList side).toArray⟩ := ⟨_, rfl⟩
  obtain ⟨L, hL⟩ : ∃ L : ByteArray, L = ⟨(sealK key.data.toList side).toArray⟩ := ⟨_, rfl⟩
  have hKs : K.size = 32 := by rw [hK, str_size]; exact sum_len _
  have hLs : L.size = 32 := by rw [hL, str_size]; exact sum_len _
  rw [← hK, ← hL] at CO
  have CM := Lib.hid (fun W => rmask_any d K n (by omega) (by omega) W)
  obtain ⟨M, hM⟩ : ∃ M : ByteArray, M = ⟨(mk d.data.toList (kst K.data.toList n 0 d.size) d.size).toArray⟩ := ⟨_, rfl⟩
  rw [← hM] at CM
  have hMl : M.data.toList = maskL (maskK key.data.toList side) d.data.toList n := by rw [hM, hK]; unfold maskL; rw [bytes_len]
  have hMs : M.size = d.size := by rw [← bytes_len, hMl, maskL_len, bytes_len]
  have C2 := Lib.hid (fun W => Bytes2_any d.size W)
  obtain ⟨HD, hHD⟩ : ∃ HD : ByteArray, HD = ⟨(headL d.size).toArray⟩ := ⟨_, rfl⟩
  rw [← hHD] at C2
  have hHs : HD.size = 2 := by rw [hHD]; rfl
  have C8 := Lib.hid (fun W => Bytes8_any n W)
  obtain ⟨N8, hN⟩ : ∃ N : ByteArray, N = ⟨(SH.bytes8 n).toArray⟩ := ⟨_, rfl⟩
  rw [← hN] at C8
  have hNs : N8.size = 8 := by rw [hN, str_size]; rfl
  have c1 : ¬ 9223372036854775807 < HD.size + M.size := by omega
  have c3 : ¬ 9223372036854775807 < N8.size + (HD ++ M).size := by rw [ByteArray.size_append]; omega
  have CS := Lib.hid (fun W => rmac_any L (N8 ++ (HD ++ M)) (by omega) (by rw [ByteArray.size_append, ByteArray.size_append]; omega) W)
  have hbody : (HD ++ M).data.toList = bodyL key.data.toList side n d.data.toList := by
    rw [ap_list, hMl, hHD]; unfold bodyL; rw [bytes_len]
  obtain ⟨S, hS⟩ : ∃ S : ByteArray, S = ⟨(SH.mac L.data.toList (N8 ++ (HD ++ M)).data.toList).toArray⟩ := ⟨_, rfl⟩
  rw [← hS] at CS
  have hSl : S.data.toList = sealL key.data.toList side n (bodyL key.data.toList side n d.data.toList) := by
    rw [hS, str_list, ap_list, hbody, hL, hN]; rfl
  have hSs : S.size = 32 := by rw [← bytes_len, hSl]; exact seal_len _ _ _ _
  have c2 : ¬ 9223372036854775807 < (HD ++ M).size + S.size := by rw [ByteArray.size_append]; omega
  have FIN := Lib.hid (show ((HD ++ M) ++ S) = ⟨(recL key.data.toList side n d.data.toList).toArray⟩ by
    have h : ((HD ++ M) ++ S).data.toList = recL key.data.toList side n d.data.toList := by
      rw [ap_list, hbody, hSl]; rfl
    rw [← h])
  have he := not_empty hd
  have hn2 := not_nil hd
  have h1 : decide ((1024 : Int) < d.size) = false := decide_eq_false (by omega)
  clear hb hkl hs hk hK hL hM hMl hHD hN hbody hS hSl hd
  go_enter Tryd.func10, Tryd.ntmps10
  go_wp2_with (first
    | (go_at_call 31; refine (C.out _).mono ?_; rintro e v1 ⟨rfl, rfl⟩)
    | (go_at_call 32; refine (CO.out).mono ?_; rintro e v2 ⟨rfl, hb2⟩; have B2 := Lib.hid hb2; clear hb2)
    | (go_at_call 33; (with_reducible refine (C2.out _).mono ?_); rintro e v3 ⟨rfl, hb3⟩; have B3 := Lib.hid (keepBelow B2.out hb3); clear hb3)
    | (go_at_call 34; refine (CM.out _).mono ?_; rintro e v4 ⟨rfl, hb4⟩; have B4 := Lib.hid (keepBelow B3.out hb4); clear hb4)
    | (go_at_call 33; (with_reducible refine (C8.out _).mono ?_); rintro e v5 ⟨rfl, hb5⟩; have B5 := Lib.hid (keepBelow B4.out hb5); clear hb5)
    | (go_at_call 35; refine (CS.out _).mono ?_; rintro e v6 ⟨rfl, hb6⟩; have B6 := Lib.hid (keepBelow B5.out hb6); clear hb6))
  go_ret2
  exact ⟨by rw [FIN.out]; rfl, B6.out⟩
theorem rrecord_any (key d : ByteArray) (side number : Int) (w : World) :
    Calls Tryd.prog 10 #[.string key, .int .i64 side, .int .i64 number, .string d] w fun e w' => e = .returned (.tuple #[str (recR key.data.toList side number d.data.toList).1, .int .i64 (recR key.data.toList side number d.data.toList).2]) ∧ Below w.heap.size w w' := by
  unfold recR
  rw [bytes_len]
  by_cases hb : badE key.data.toList side number = 0
  · rw [if_neg (fun h => h hb)]
    by_cases h0 : d.size = 0
    · rw [if_pos h0]
      exact (rrecord_none key d side number hb h0 w).mono fun e w' ⟨a, b⟩ => ⟨a, b ▸ Below.refl _ _⟩
    · rw [if_neg h0]
      by_cases h1 : 1024 < d.size
      · rw [if_pos h1]
        exact (rrecord_long key d side number hb h1 w).mono fun e w' ⟨a, b⟩ => ⟨a, b ▸ Below.refl _ _⟩
      · rw [if_neg h1]
        obtain ⟨_, _, h3⟩ := bad_ok hb
        obtain ⟨n, rfl⟩ : ∃ n : Nat, number = n := ⟨number.toNat, by omega⟩
        exact rrecord_good key d side n hb h0 (by omega) w
  · rw [if_pos hb]
    exact (rrecord_bad key d side number hb w).mono fun e w' ⟨a, b⟩ => ⟨a, b ▸ Below.refl _ _⟩
end Go.Proofs.YtmblnacckboggaaDoor
