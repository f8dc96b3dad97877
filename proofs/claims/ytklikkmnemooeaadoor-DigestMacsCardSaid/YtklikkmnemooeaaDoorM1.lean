/- DigestMacs: the law's walk. -/
import Derived.Test.YtklikkmnemooeaaDoorDF
import Derived.Test.YtklikkmnemooeaaDoorR3
namespace Go.Proofs.YtklikkmnemooeaaDoor
open Go.RowKit
theorem keyOf_sum (key : List UInt8) (h : 64 < key.length) : SH.keyOf (SH.sum key) = SH.keyOf key := by
  have hl : (SH.sum key).length = 32 := sum_len key
  unfold SH.keyOf
  simp only [if_pos h]
  rw [if_neg (by omega)]
theorem keyOf_zero (key : List UInt8) (h : key.length < 64) : SH.keyOf (key ++ [0]) = SH.keyOf key := by
  have hl : (key ++ [0]).length = key.length + 1 := by simp
  unfold SH.keyOf
  simp only [hl]
  rw [if_neg (by omega), if_neg (by omega), hl, List.append_assoc, show 64 - key.length = (64 - (key.length + 1)) + 1 by omega, List.replicate_succ]
  rfl
theorem mac_of (a b s : List UInt8) (h : SH.keyOf a = SH.keyOf b) : SH.mac a s = SH.mac b s := by
  unfold SH.mac
  rw [h]
theorem mac_len (key s : List UInt8) : (SH.mac key s).length = 32 := sum_len _
set_option maxRecDepth 100000 in
set_option maxHeartbeats 800000 in
theorem macs_k (key s : ByteArray) (hk : 300 < key.size) (w : World) (hT : Tabs w) : Calls Tryd.prog 4 #[.string key, .string s] w fun e w' => e = .returned (.bool true) ∧ Below w.heap.size w w' := by
  have B0 := Lib.hid (Below.refl w.heap.size w)
  have CA := Lib.hid (fun W (hb : Below w.heap.size w W) => awake_any W (hT.keep hb))
  have g1 : (300 : Int) < key.size := by omega
  clear hk hT
  go_enter Tryd.func4, Tryd.ntmps4
  go_wp2_with (first
      | (go_at_call 11; have tok := B0; clear tok; refine (CA.out _ ?_).mono ?_; exact B0.out; rintro e v1 ⟨rfl, hb1⟩; have B1 := Lib.hid (keepBelow B0.out hb1); clear hb1 B0))
  go_ret
  exact ⟨rfl, B1.out⟩
set_option maxRecDepth 100000 in
set_option maxHeartbeats 800000 in
theorem macs_s (key s : ByteArray) (hk : ¬ 300 < key.size) (hs : 500 < s.size) (w : World) (hT : Tabs w) : Calls Tryd.prog 4 #[.string key, .string s] w fun e w' => e = .returned (.bool true) ∧ Below w.heap.size w w' := by
  have B0 := Lib.hid (Below.refl w.heap.size w)
  have CA := Lib.hid (fun W (hb : Below w.heap.size w W) => awake_any W (hT.keep hb))
  have g1 : ¬ (300 : Int) < key.size := by omega
  have g2 : (500 : Int) < s.size := by omega
  clear hk hs hT
  go_enter Tryd.func4, Tryd.ntmps4
  go_wp2_with (first
      | (go_at_call 11; have tok := B0; clear tok; refine (CA.out _ ?_).mono ?_; exact B0.out; rintro e v1 ⟨rfl, hb1⟩; have B1 := Lib.hid (keepBelow B0.out hb1); clear hb1 B0))
  go_ret
  exact ⟨rfl, B1.out⟩
set_option maxRecDepth 100000 in
set_option maxHeartbeats 800000 in
theorem macs_a (key s : ByteArray) (hk : ¬ 300 < key.size) (hs : ¬ 500 < s.size) (h64 : 64 < key.size) (w : World) (hT : Tabs w) : Calls Tryd.prog 4 #[.string key, .string s] w fun e w' => e = .returned (.bool true) ∧ Below w.heap.size w w' := by
  have B0 := Lib.hid (Below.refl w.heap.size w)
  have CA := Lib.hid (fun W (hb : Below w.heap.size w W) => awake_any W (hT.keep hb))
  have g1 : ¬ (300 : Int) < key.size := by omega
  have g2 : ¬ (500 : Int) < s.size := by omega
  obtain ⟨MB, hMB⟩ : ∃ M : ByteArray, M = ⟨(SH.mac key.data.toList s.data.toList).toArray⟩ := ⟨_, rfl⟩
  have hms : MB.size = 32 := by rw [hMB, str_size]; exact mac_len _ _
  have CM := Lib.hid (fun W (hb : Below w.heap.size w W) => (mac_any key s (by omega) (by omega) W (hT.keep hb)).mono (fun e w' h => by rw [← hMB] at h; exact h))
  have CR := Lib.hid (fun W (hb : Below w.heap.size w W) => (rmac_any key s (by omega) (by omega) W).mono (fun e w' h => by rw [← hMB] at h; exact h))
  have g3 : (64 : Int) < key.size := by omega
  obtain ⟨SK, hSK⟩ : ∃ S : ByteArray, S = ⟨(SH.sum key.data.toList).toArray⟩ := ⟨_, rfl⟩
  have hsk : SK.size = 32 := by rw [hSK, str_size]; exact sum_len _
  have CS := Lib.hid (fun W (hb : Below w.heap.size w W) => (sum_any key (by omega) W (hT.keep hb)).mono (fun e w' h => by rw [← hSK] at h; exact h))
  have hm2 : (⟨(SH.mac SK.data.toList s.data.toList).toArray⟩ : ByteArray) = MB := by rw [hMB, hSK, str_list, mac_of _ _ _ (keyOf_sum key.data.toList (by rw [bytes_len]; exact h64))]
  have CN := Lib.hid (fun W (hb : Below w.heap.size w W) => (mac_any SK s (by omega) (by omega) W (hT.keep hb)).mono (fun e w' h => by rw [hm2] at h; exact h))
  clear hk hs h64 hT hMB hSK hm2 hsk
  go_enter Tryd.func4, Tryd.ntmps4
  go_wp2_with (first
      | (go_at_call 11; have tok := B0; clear tok; refine (CA.out _ ?_).mono ?_; exact B0.out; rintro e v1 ⟨rfl, hb1⟩; have B1 := Lib.hid (keepBelow B0.out hb1); clear hb1 B0)
      | (go_at_call 17; have tok := B1; clear tok; refine (CM.out _ ?_).mono ?_; exact B1.out; rintro e v2 ⟨rfl, hb2⟩; have B2 := Lib.hid (keepBelow B1.out hb2); clear hb2 B1)
      | (go_at_call 18; have tok := B2; clear tok; refine (CR.out _ ?_).mono ?_; exact B2.out; rintro e v3 ⟨rfl, hb3⟩; have B3 := Lib.hid (keepBelow B2.out hb3); clear hb3 B2)
      | (go_at_call 14; have tok := B3; clear tok; refine (CS.out _ ?_).mono ?_; exact B3.out; rintro e v4 ⟨rfl, hb4⟩; have B4 := Lib.hid (keepBelow B3.out hb4); clear hb4 B3)
      | (go_at_call 17; have tok := B4; clear tok; refine (CN.out _ ?_).mono ?_; exact B4.out; rintro e v5 ⟨rfl, hb5⟩; have B5 := Lib.hid (keepBelow B4.out hb5); clear hb5 B4))
  go_ret
  exact ⟨rfl, B5.out⟩
set_option maxRecDepth 100000 in
set_option maxHeartbeats 800000 in
theorem macs_b (key s : ByteArray) (_hk : ¬ 300 < key.size) (hs : ¬ 500 < s.size) (h64 : key.size = 64) (w : World) (hT : Tabs w) : Calls Tryd.prog 4 #[.string key, .string s] w fun e w' => e = .returned (.bool true) ∧ Below w.heap.size w w' := by
  have B0 := Lib.hid (Below.refl w.heap.size w)
  have CA := Lib.hid (fun W (hb : Below w.heap.size w W) => awake_any W (hT.keep hb))
  have g1 : ¬ (300 : Int) < key.size := by omega
  have g2 : ¬ (500 : Int) < s.size := by omega
  obtain ⟨MB, hMB⟩ : ∃ M : ByteArray, M = ⟨(SH.mac key.data.toList s.data.toList).toArray⟩ := ⟨_, rfl⟩
  have hms : MB.size = 32 := by rw [hMB, str_size]; exact mac_len _ _
  have CM := Lib.hid (fun W (hb : Below w.heap.size w W) => (mac_any key s (by omega) (by omega) W (hT.keep hb)).mono (fun e w' h => by rw [← hMB] at h; exact h))
  have CR := Lib.hid (fun W (hb : Below w.heap.size w W) => (rmac_any key s (by omega) (by omega) W).mono (fun e w' h => by rw [← hMB] at h; exact h))
  have g3 : ¬ (64 : Int) < key.size := by omega
  have g4 : (key.size : Int) = 64 := by omega
  clear _hk hs h64 hT hMB
  go_enter Tryd.func4, Tryd.ntmps4
  go_wp2_with (first
      | (go_at_call 11; have tok := B0; clear tok; refine (CA.out _ ?_).mono ?_; exact B0.out; rintro e v1 ⟨rfl, hb1⟩; have B1 := Lib.hid (keepBelow B0.out hb1); clear hb1 B0)
      | (go_at_call 17; have tok := B1; clear tok; refine (CM.out _ ?_).mono ?_; exact B1.out; rintro e v2 ⟨rfl, hb2⟩; have B2 := Lib.hid (keepBelow B1.out hb2); clear hb2 B1)
      | (go_at_call 18; have tok := B2; clear tok; refine (CR.out _ ?_).mono ?_; exact B2.out; rintro e v3 ⟨rfl, hb3⟩; have B3 := Lib.hid (keepBelow B2.out hb3); clear hb3 B2))
  go_ret
  exact ⟨rfl, B3.out⟩
set_option maxRecDepth 100000 in
set_option maxHeartbeats 800000 in
theorem macs_c (key s : ByteArray) (hk : ¬ 300 < key.size) (hs : ¬ 500 < s.size) (h64 : key.size < 64) (w : World) (hT : Tabs w) : Calls Tryd.prog 4 #[.string key, .string s] w fun e w' => e = .returned (.bool true) ∧ Below w.heap.size w w' := by
  have B0 := Lib.hid (Below.refl w.heap.size w)
  have CA := Lib.hid (fun W (hb : Below w.heap.size w W) => awake_any W (hT.keep hb))
  have g1 : ¬ (300 : Int) < key.size := by omega
  have g2 : ¬ (500 : Int) < s.size := by omega
  obtain ⟨MB, hMB⟩ : ∃ M : ByteArray, M = ⟨(SH.mac key.data.toList s.data.toList).toArray⟩ := ⟨_, rfl⟩
  have hms : MB.size = 32 := by rw [hMB, str_size]; exact mac_len _ _
  have CM := Lib.hid (fun W (hb : Below w.heap.size w W) => (mac_any key s (by omega) (by omega) W (hT.keep hb)).mono (fun e w' h => by rw [← hMB] at h; exact h))
  have CR := Lib.hid (fun W (hb : Below w.heap.size w W) => (rmac_any key s (by omega) (by omega) W).mono (fun e w' h => by rw [← hMB] at h; exact h))
  have g3 : ¬ (64 : Int) < key.size := by omega
  have g4 : ¬ (key.size : Int) = 64 := by omega
  have g5 : ((key.size : Int) == 64) = false := by rw [beq_eq_false_iff_ne]; exact g4
  have g6 : ¬ 9223372036854775807 < key.size + 1 := by omega
  have hm2 : (⟨(SH.mac (key ++ (⟨#[0]⟩ : ByteArray)).data.toList s.data.toList).toArray⟩ : ByteArray) = MB := by rw [hMB, ap_list, mac_of _ _ _ (keyOf_zero key.data.toList (by rw [bytes_len]; exact h64))]
  have CN := Lib.hid (fun W (hb : Below w.heap.size w W) => (mac_any (key ++ (⟨#[0]⟩ : ByteArray)) s (by rw [ByteArray.size_append, show (⟨#[0]⟩ : ByteArray).size = 1 from rfl]; omega) (by omega) W (hT.keep hb)).mono (fun e w' h => by rw [hm2] at h; exact h))
  clear hk hs h64 hT hMB hm2
  go_enter Tryd.func4, Tryd.ntmps4
  go_wp2_with (first
      | (go_at_call 11; have tok := B0; clear tok; refine (CA.out _ ?_).mono ?_; exact B0.out; rintro e v1 ⟨rfl, hb1⟩; have B1 := Lib.hid (keepBelow B0.out hb1); clear hb1 B0)
      | (go_at_call 17; have tok := B1; clear tok; refine (CM.out _ ?_).mono ?_; exact B1.out; rintro e v2 ⟨rfl, hb2⟩; have B2 := Lib.hid (keepBelow B1.out hb2); clear hb2 B1)
      | (go_at_call 18; have tok := B2; clear tok; refine (CR.out _ ?_).mono ?_; exact B2.out; rintro e v3 ⟨rfl, hb3⟩; have B3 := Lib.hid (keepBelow B2.out hb3); clear hb3 B2)
      | (go_at_call 17; have tok := B3; clear tok; refine (CN.out _ ?_).mono ?_; exact B3.out; rintro e v4 ⟨rfl, hb4⟩; have B4 := Lib.hid (keepBelow B3.out hb4); clear hb4 B3))
  go_ret
  exact ⟨rfl, B4.out⟩
theorem macs_walk (key s : ByteArray) (w : World) (hT : Tabs w) : Calls Tryd.prog 4 #[.string key, .string s] w fun e w' => e = .returned (.bool true) ∧ Below w.heap.size w w' := by
  by_cases hk : 300 < key.size
  · exact macs_k key s hk w hT
  · by_cases hs : 500 < s.size
    · exact macs_s key s hk hs w hT
    · rcases Nat.lt_trichotomy key.size 64 with h | h | h
      · exact macs_c key s hk hs h w hT
      · exact macs_b key s hk hs h w hT
      · exact macs_a key s hk hs h w hT
end Go.Proofs.YtklikkmnemooeaaDoor
