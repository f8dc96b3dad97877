/- Mac (func 17). -/
import Derived.Test.YtmblnacckboggaaDoorDA
namespace Go.Proofs.YtmblnacckboggaaDoor
open Go.RowKit
theorem keyOf_big (key K : ByteArray) (h : 64 < key.size) (hK : K.data.toList = SH.sum key.data.toList) : K.data.toList ++ List.replicate (64 - K.size) 0 = SH.keyOf key.data.toList := by
  unfold SH.keyOf
  simp only [bytes_len, if_pos h, ← hK]
theorem keyOf_small (key : ByteArray) (h : ¬ 64 < key.size) : key.data.toList ++ List.replicate (64 - key.size) 0 = SH.keyOf key.data.toList := by
  unfold SH.keyOf
  simp only [bytes_len, if_neg h]
theorem len8 (A : ByteArray) (h : A.data.toList.length = 64) (m : List UInt8) : (A.data.toList ++ (⟨(SH.sum m).toArray⟩ : ByteArray).data.toList).length < 576460752303423488 := by
  rw [List.length_append, h]
  exact Nat.lt_of_le_of_lt (Nat.add_le_add_left (Nat.le_of_eq (sum_len m)) 64) (by decide)
theorem len7 (A : ByteArray) (h : A.data.toList.length = 64) (m : List UInt8) : A.data.toList.length + (⟨(SH.sum m).toArray⟩ : ByteArray).size < 1152921504606846976 := by
  rw [h, str_size]
  exact Nat.lt_of_le_of_lt (Nat.add_le_add_left (Nat.le_of_eq (sum_len m)) 64) (by decide)
theorem len6 (A s : ByteArray) (h : A.data.toList.length = 64) (hs : s.size < 288230376151711744) : (A.data.toList ++ s.data.toList).length < 576460752303423488 := by
  rw [List.length_append, h, bytes_len]; omega
theorem len5 (A s : ByteArray) (h : A.data.toList.length = 64) (hs : s.size < 288230376151711744) : A.data.toList.length + s.size < 1152921504606846976 := by omega
theorem len4 (A : ByteArray) (h : A.data.toList.length = 64) : A.size < 1152921504606846976 := by rw [← bytes_len]; omega
theorem mac_eq (A B : ByteArray) (key s : List UInt8) (ha : A.data.toList = (SH.keyOf key).map (· ^^^ 0x5c)) (hb : B.data.toList = (SH.keyOf key).map (· ^^^ 0x36)) : SH.sum (A.data.toList ++ SH.sum (B.data.toList ++ s)) = SH.mac key s := by
  rw [ha, hb]; rfl
set_option maxRecDepth 100000 in
set_option maxHeartbeats 1600000 in
theorem mac_any (key s : ByteArray) (hk : key.size < 576460752303423488) (hs : s.size < 288230376151711744) (w : World) (hT : Tabs w) :
    Calls Tryd.prog 44 #[.string key, .string s] w fun e w' => e = .returned (.string ⟨(SH.mac key.data.toList s.data.toList).toArray⟩) ∧ Below w.heap.size w w' := by
  have HT := Lib.hid hT
  have HS := Lib.hid hs
  clear hT hs
  by_cases hgt : 64 < key.size
  · have g1 : (64 : Int) < key.size := by omega
    obtain ⟨K, hK⟩ : ∃ K : ByteArray, K = ⟨(SH.sum key.data.toList).toArray⟩ := ⟨_, rfl⟩
    have C14 := Lib.hid (fun W hW => (sum_any key hk W hW).mono (fun e w' h => by rw [← hK] at h; exact h))
    have hkl := keyOf_big key K hgt (by rw [hK])
    have hks : K.size ≤ 64 := by rw [← bytes_len, hK, str_list, sum_len]; omega
    clear hK
    have HKL := Lib.hid hkl
    have HKS := Lib.hid hks
    obtain ⟨p, hp⟩ : ∃ p, p = 64 - K.size := ⟨_, rfl⟩
    obtain ⟨R, hR⟩ : ∃ R : ByteArray, R = ⟨(List.replicate p (0 : UInt8)).toArray⟩ := ⟨_, rfl⟩
    have hRs : R.size = p := by rw [← bytes_len, hR]; simp
    have f1 : IntKind.i64.wrap (64 - (K.size : Int)) = (p : Int) := by rw [IntWalk.i64_in _ (by omega)]; omega
    have c1 : ¬ 9223372036854775807 < K.size + R.size := by omega
    have C46 := Lib.hid (fun W => (rep_any p (by omega) W).mono (fun e w' h => by rw [← hR] at h; exact h))
    have hko : (K ++ R).data.toList = SH.keyOf key.data.toList := by rw [ap_list, hR, hp]; exact HKL.out
    have hkks : (K ++ R).size = 64 := by rw [ByteArray.size_append]; omega
    obtain ⟨KA, hKA⟩ : ∃ KA : ByteArray, KA = ⟨((K ++ R).data.toList.map (· ^^^ (92 : UInt8))).toArray⟩ := ⟨_, rfl⟩
    obtain ⟨KB, hKB⟩ : ∃ KB : ByteArray, KB = ⟨((K ++ R).data.toList.map (· ^^^ (54 : UInt8))).toArray⟩ := ⟨_, rfl⟩
    have CA := Lib.hid (fun W => (mixed_any (K ++ R) 92 (by omega) W).mono (fun e w' h => by rw [← hKA] at h; exact h))
    have CB := Lib.hid (fun W => (mixed_any (K ++ R) 54 (by omega) W).mono (fun e w' h => by rw [← hKB] at h; exact h))
    have HAS := Lib.hid (show KA.size < 1152921504606846976 by rw [← bytes_len, hKA, str_list, List.length_map, bytes_len]; omega)
    have HBS := Lib.hid (show KB.data.toList.length = 64 by rw [hKB, str_list, List.length_map, bytes_len]; omega)
    have HAL := Lib.hid (show KA.data.toList = (SH.keyOf key.data.toList).map (· ^^^ 0x5c) by rw [hKA, str_list, hko])
    have HBL := Lib.hid (show KB.data.toList = (SH.keyOf key.data.toList).map (· ^^^ 0x36) by rw [hKB, str_list, hko])
    have HALL := Lib.hid (show KA.data.toList.length = 64 by rw [hKA, str_list, List.length_map, bytes_len]; omega)
    clear hKA hKB hkks hko hR hRs hp hkl hks
    go_enter Tryd.func44, Tryd.ntmps44
    go_wp2_with (first
      | (go_at_call 53; refine (C14.out _ HT.out).mono ?_; rintro e v0 ⟨rfl, hb0⟩; have B0 := Lib.hid hb0; clear hb0)
      | (go_at_call 56; have tok := B8; clear tok; refine (hsum _ y8 b8 r8 HI8.out (len8 _ HALL.out _) _ (HT.out.keep B8.out)).mono ?_; rintro e v9 ⟨rfl, hb9⟩; have B9 := Lib.hid (keepBelow B8.out hb9); clear hb9)
      | (go_at_call 54; have tok := B7; clear tok; refine (hadd _ y3 b3 r3 _ HI3.out (len7 _ HALL.out _) _ (HT.out.keep B7.out)).mono ?_; rintro e v8 ⟨y8, b8, r8, rfl, hI, hb8⟩; have HI8 := Lib.hid hI; have B8 := Lib.hid (keepBelow B7.out hb8); clear hI hb8)
      | (go_at_call 56; have tok := B6; clear tok; refine (hsum _ y6 b6 r6 HI6.out (len6 _ _ HBS.out HS.out) _ (HT.out.keep B6.out)).mono ?_; rintro e v7 ⟨rfl, hb7⟩; have B7 := Lib.hid (keepBelow B6.out hb7); clear hb7)
      | (go_at_call 54; have tok := B5; clear tok; refine (hadd _ y5 b5 r5 s HI5.out (len5 _ _ HBS.out HS.out) _ (HT.out.keep B5.out)).mono ?_; rintro e v6 ⟨y6, b6, r6, rfl, hI, hb6⟩; have HI6 := Lib.hid hI; have B6 := Lib.hid (keepBelow B5.out hb6); clear hI hb6)
      | (go_at_call 54; have tok := B4; clear tok; refine (hadd0 KB (len4 _ HBS.out) _ (HT.out.keep B4.out)).mono ?_; rintro e v5 ⟨y5, b5, r5, rfl, hI, hb5⟩; have HI5 := Lib.hid hI; have B5 := Lib.hid (keepBelow B4.out hb5); clear hI hb5)
      | (go_at_call 54; have tok := B2; clear tok; refine (hadd0 KA HAS.out _ (HT.out.keep B2.out)).mono ?_; rintro e v3 ⟨y3, b3, r3, rfl, hI, hb3⟩; have HI3 := Lib.hid hI; have B3 := Lib.hid (keepBelow B2.out hb3); clear hI hb3)
      | (go_at_call 55; have tok := B3; clear tok; refine (CB.out _).mono ?_; rintro e v4 ⟨rfl, hb4⟩; have B4 := Lib.hid (keepBelow B3.out hb4); clear hb4)
      | (go_at_call 55; have tok := B1; clear tok; refine (CA.out _).mono ?_; rintro e v2 ⟨rfl, hb2⟩; have B2 := Lib.hid (keepBelow B1.out hb2); clear hb2)
      | (go_at_call 26; refine (C46.out _).mono ?_; rintro e v1 ⟨rfl, hb1⟩; have B1 := Lib.hid (keepBelow B0.out hb1); clear hb1))
    go_ret
    exact ⟨by rw [← mac_eq KA KB key.data.toList s.data.toList HAL.out HBL.out]; rfl, B9.out⟩
  · have g1 : ¬ (64 : Int) < key.size := by omega
    have hkl := keyOf_small key hgt
    have hks : key.size ≤ 64 := by omega
    have B0 := Lib.hid (Below.refl w.heap.size w)
    clear hgt
    have HKL := Lib.hid hkl
    have HKS := Lib.hid hks
    obtain ⟨p, hp⟩ : ∃ p, p = 64 - key.size := ⟨_, rfl⟩
    obtain ⟨R, hR⟩ : ∃ R : ByteArray, R = ⟨(List.replicate p (0 : UInt8)).toArray⟩ := ⟨_, rfl⟩
    have hRs : R.size = p := by rw [← bytes_len, hR]; simp
    have f1 : IntKind.i64.wrap (64 - (key.size : Int)) = (p : Int) := by rw [IntWalk.i64_in _ (by omega)]; omega
    have c1 : ¬ 9223372036854775807 < key.size + R.size := by omega
    have C46 := Lib.hid (fun W => (rep_any p (by omega) W).mono (fun e w' h => by rw [← hR] at h; exact h))
    have hko : (key ++ R).data.toList = SH.keyOf key.data.toList := by rw [ap_list, hR, hp]; exact HKL.out
    have hkks : (key ++ R).size = 64 := by rw [ByteArray.size_append]; omega
    obtain ⟨KA, hKA⟩ : ∃ KA : ByteArray, KA = ⟨((key ++ R).data.toList.map (· ^^^ (92 : UInt8))).toArray⟩ := ⟨_, rfl⟩
    obtain ⟨KB, hKB⟩ : ∃ KB : ByteArray, KB = ⟨((key ++ R).data.toList.map (· ^^^ (54 : UInt8))).toArray⟩ := ⟨_, rfl⟩
    have CA := Lib.hid (fun W => (mixed_any (key ++ R) 92 (by omega) W).mono (fun e w' h => by rw [← hKA] at h; exact h))
    have CB := Lib.hid (fun W => (mixed_any (key ++ R) 54 (by omega) W).mono (fun e w' h => by rw [← hKB] at h; exact h))
    have HAS := Lib.hid (show KA.size < 1152921504606846976 by rw [← bytes_len, hKA, str_list, List.length_map, bytes_len]; omega)
    have HBS := Lib.hid (show KB.data.toList.length = 64 by rw [hKB, str_list, List.length_map, bytes_len]; omega)
    have HAL := Lib.hid (show KA.data.toList = (SH.keyOf key.data.toList).map (· ^^^ 0x5c) by rw [hKA, str_list, hko])
    have HBL := Lib.hid (show KB.data.toList = (SH.keyOf key.data.toList).map (· ^^^ 0x36) by rw [hKB, str_list, hko])
    have HALL := Lib.hid (show KA.data.toList.length = 64 by rw [hKA, str_list, List.length_map, bytes_len]; omega)
    clear hKA hKB hkks hko hR hRs hp hkl hks
    go_enter Tryd.func44, Tryd.ntmps44
    go_wp2_with (first
      | (go_at_call 56; have tok := B8; clear tok; refine (hsum _ y8 b8 r8 HI8.out (len8 _ HALL.out _) _ (HT.out.keep B8.out)).mono ?_; rintro e v9 ⟨rfl, hb9⟩; have B9 := Lib.hid (keepBelow B8.out hb9); clear hb9)
      | (go_at_call 54; have tok := B7; clear tok; refine (hadd _ y3 b3 r3 _ HI3.out (len7 _ HALL.out _) _ (HT.out.keep B7.out)).mono ?_; rintro e v8 ⟨y8, b8, r8, rfl, hI, hb8⟩; have HI8 := Lib.hid hI; have B8 := Lib.hid (keepBelow B7.out hb8); clear hI hb8)
      | (go_at_call 56; have tok := B6; clear tok; refine (hsum _ y6 b6 r6 HI6.out (len6 _ _ HBS.out HS.out) _ (HT.out.keep B6.out)).mono ?_; rintro e v7 ⟨rfl, hb7⟩; have B7 := Lib.hid (keepBelow B6.out hb7); clear hb7)
      | (go_at_call 54; have tok := B5; clear tok; refine (hadd _ y5 b5 r5 s HI5.out (len5 _ _ HBS.out HS.out) _ (HT.out.keep B5.out)).mono ?_; rintro e v6 ⟨y6, b6, r6, rfl, hI, hb6⟩; have HI6 := Lib.hid hI; have B6 := Lib.hid (keepBelow B5.out hb6); clear hI hb6)
      | (go_at_call 54; have tok := B4; clear tok; refine (hadd0 KB (len4 _ HBS.out) _ (HT.out.keep B4.out)).mono ?_; rintro e v5 ⟨y5, b5, r5, rfl, hI, hb5⟩; have HI5 := Lib.hid hI; have B5 := Lib.hid (keepBelow B4.out hb5); clear hI hb5)
      | (go_at_call 54; have tok := B2; clear tok; refine (hadd0 KA HAS.out _ (HT.out.keep B2.out)).mono ?_; rintro e v3 ⟨y3, b3, r3, rfl, hI, hb3⟩; have HI3 := Lib.hid hI; have B3 := Lib.hid (keepBelow B2.out hb3); clear hI hb3)
      | (go_at_call 55; have tok := B3; clear tok; refine (CB.out _).mono ?_; rintro e v4 ⟨rfl, hb4⟩; have B4 := Lib.hid (keepBelow B3.out hb4); clear hb4)
      | (go_at_call 55; have tok := B1; clear tok; refine (CA.out _).mono ?_; rintro e v2 ⟨rfl, hb2⟩; have B2 := Lib.hid (keepBelow B1.out hb2); clear hb2)
      | (go_at_call 26; refine (C46.out _).mono ?_; rintro e v1 ⟨rfl, hb1⟩; have B1 := Lib.hid (keepBelow B0.out hb1); clear hb1))
    go_ret
    exact ⟨by rw [← mac_eq KA KB key.data.toList s.data.toList HAL.out HBL.out]; rfl, B9.out⟩
end Go.Proofs.YtmblnacckboggaaDoor
