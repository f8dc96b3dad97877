/- DigestHexes: the law's walk. -/
import Derived.Test.YtklikkmnemooeaaDoorDF
import Derived.Test.YtklikkmnemooeaaDoorH2
namespace Go.Proofs.YtklikkmnemooeaaDoor
open Go.RowKit
set_option maxRecDepth 100000 in
set_option maxHeartbeats 800000 in
theorem hexes_s (s t : ByteArray) (hs : 1000 < s.size) (w : World) (hT : Tabs w) : Calls Tryd.prog 8 #[.string s, .string t] w fun e w' => e = .returned (.bool true) ∧ Below w.heap.size w w' := by
  have B0 := Lib.hid (Below.refl w.heap.size w)
  have CA := Lib.hid (fun W (hb : Below w.heap.size w W) => awake_any W (hT.keep hb))
  have g1 : (1000 : Int) < s.size := by omega
  clear hs hT
  go_enter Tryd.func8, Tryd.ntmps8
  go_wp2_with (first
      | (go_at_call 11; have tok := B0; clear tok; refine (CA.out _ ?_).mono ?_; exact B0.out; rintro e v1 ⟨rfl, hb1⟩; have B1 := Lib.hid (keepBelow B0.out hb1); clear hb1 B0))
  go_ret
  exact ⟨rfl, B1.out⟩
set_option maxRecDepth 100000 in
set_option maxHeartbeats 800000 in
theorem hexes_t (s t : ByteArray) (hs : ¬ 1000 < s.size) (ht : 1000 < t.size) (w : World) (hT : Tabs w) : Calls Tryd.prog 8 #[.string s, .string t] w fun e w' => e = .returned (.bool true) ∧ Below w.heap.size w w' := by
  have B0 := Lib.hid (Below.refl w.heap.size w)
  have CA := Lib.hid (fun W (hb : Below w.heap.size w W) => awake_any W (hT.keep hb))
  have g1 : ¬ (1000 : Int) < s.size := by omega
  have g2 : (1000 : Int) < t.size := by omega
  clear hs ht hT
  go_enter Tryd.func8, Tryd.ntmps8
  go_wp2_with (first
      | (go_at_call 11; have tok := B0; clear tok; refine (CA.out _ ?_).mono ?_; exact B0.out; rintro e v1 ⟨rfl, hb1⟩; have B1 := Lib.hid (keepBelow B0.out hb1); clear hb1 B0))
  go_ret
  exact ⟨rfl, B1.out⟩
set_option maxRecDepth 100000 in
set_option maxHeartbeats 800000 in
theorem hexes_n (s t : ByteArray) (hs : ¬ 1000 < s.size) (ht : ¬ 1000 < t.size) (hf : (unR t.data.toList).2 ≠ 0) (w : World) (hT : Tabs w) : Calls Tryd.prog 8 #[.string s, .string t] w fun e w' => e = .returned (.bool true) ∧ Below w.heap.size w w' := by
  have B0 := Lib.hid (Below.refl w.heap.size w)
  have CA := Lib.hid (fun W (hb : Below w.heap.size w W) => awake_any W (hT.keep hb))
  have g1 : ¬ (1000 : Int) < s.size := by omega
  have g2 : ¬ (1000 : Int) < t.size := by omega
  obtain ⟨HS, hHS⟩ : ∃ S : ByteArray, S = ⟨(hexL s.data.toList).toArray⟩ := ⟨_, rfl⟩
  have hhs : HS.size ≤ 2000 := by rw [hHS, str_size, hexL_len, bytes_len]; omega
  have hun : unR HS.data.toList = (s.data.toList, 0) := by rw [hHS, str_list]; exact unR_hex _
  have C1 := Lib.hid (fun W (_ : Below w.heap.size w W) => (hex_any s (by omega) W).mono (fun e w' h => by rw [← hHS] at h; exact h))
  have C2 := Lib.hid (fun W (_ : Below w.heap.size w W) => (unhex_any HS (by omega) W).mono (fun e w' h => by rw [hun] at h; exact h))
  have C5 := Lib.hid (fun W (_ : Below w.heap.size w W) => (rhex_any s (by omega) W).mono (fun e w' h => by rw [← hHS] at h; exact h))
  obtain ⟨YB, hYB⟩ : ∃ S : ByteArray, S = ⟨(unR t.data.toList).1.toArray⟩ := ⟨_, rfl⟩
  obtain ⟨F, hF⟩ : ∃ F : Int, F = (unR t.data.toList).2 := ⟨_, rfl⟩
  have C3 := Lib.hid (fun W (_ : Below w.heap.size w W) => (unhex_any t (by omega) W).mono (fun e w' h => by rw [← hYB, ← hF] at h; exact h))
  have C4 := Lib.hid (fun W (_ : Below w.heap.size w W) => (runhex_any t (by omega) W).mono (fun e w' h => by rw [← hYB, ← hF] at h; exact h))
  have f1 : (F != 0) = true := by rw [bne_iff_ne, hF]; exact hf
  have f2 : ¬ F = 0 := by rw [hF]; exact hf
  clear hs ht hT hHS hhs hun hYB hF hf
  go_enter Tryd.func8, Tryd.ntmps8
  go_wp2_with (first
      | (go_at_call 11; have tok := B0; clear tok; refine (CA.out _ ?_).mono ?_; exact B0.out; rintro e v1 ⟨rfl, hb1⟩; have B1 := Lib.hid (keepBelow B0.out hb1); clear hb1 B0)
      | (go_at_call 34; have tok := B1; clear tok; refine (C1.out _ ?_).mono ?_; exact B1.out; rintro e v2 ⟨rfl, hb2⟩; have B2 := Lib.hid (keepBelow B1.out hb2); clear hb2 B1)
      | (go_at_call 33; have tok := B2; clear tok; refine (C2.out _ ?_).mono ?_; exact B2.out; rintro e v3 ⟨rfl, hb3⟩; have B3 := Lib.hid (keepBelow B2.out hb3); clear hb3 B2)
      | (go_at_call 33; have tok := B3; clear tok; refine (C3.out _ ?_).mono ?_; exact B3.out; rintro e v4 ⟨rfl, hb4⟩; have B4 := Lib.hid (keepBelow B3.out hb4); clear hb4 B3)
      | (go_at_call 35; have tok := B4; clear tok; refine (C4.out _ ?_).mono ?_; exact B4.out; rintro e v5 ⟨rfl, hb5⟩; have B5 := Lib.hid (keepBelow B4.out hb5); clear hb5 B4)
      | (go_at_call 34; have tok := B5; clear tok; refine (C1.out _ ?_).mono ?_; exact B5.out; rintro e v6 ⟨rfl, hb6⟩; have B6 := Lib.hid (keepBelow B5.out hb6); clear hb6 B5)
      | (go_at_call 36; have tok := B6; clear tok; refine (C5.out _ ?_).mono ?_; exact B6.out; rintro e v7 ⟨rfl, hb7⟩; have B7 := Lib.hid (keepBelow B6.out hb7); clear hb7 B6))
  go_ret
  exact ⟨rfl, B7.out⟩
set_option maxRecDepth 100000 in
set_option maxHeartbeats 800000 in
theorem hexes_y (s t : ByteArray) (hs : ¬ 1000 < s.size) (ht : ¬ 1000 < t.size) (hf : (unR t.data.toList).2 = 0) (w : World) (hT : Tabs w) : Calls Tryd.prog 8 #[.string s, .string t] w fun e w' => e = .returned (.bool true) ∧ Below w.heap.size w w' := by
  have B0 := Lib.hid (Below.refl w.heap.size w)
  have CA := Lib.hid (fun W (hb : Below w.heap.size w W) => awake_any W (hT.keep hb))
  have g1 : ¬ (1000 : Int) < s.size := by omega
  have g2 : ¬ (1000 : Int) < t.size := by omega
  obtain ⟨HS, hHS⟩ : ∃ S : ByteArray, S = ⟨(hexL s.data.toList).toArray⟩ := ⟨_, rfl⟩
  have hhs : HS.size ≤ 2000 := by rw [hHS, str_size, hexL_len, bytes_len]; omega
  have hun : unR HS.data.toList = (s.data.toList, 0) := by rw [hHS, str_list]; exact unR_hex _
  have C1 := Lib.hid (fun W (_ : Below w.heap.size w W) => (hex_any s (by omega) W).mono (fun e w' h => by rw [← hHS] at h; exact h))
  have C2 := Lib.hid (fun W (_ : Below w.heap.size w W) => (unhex_any HS (by omega) W).mono (fun e w' h => by rw [hun] at h; exact h))
  have C5 := Lib.hid (fun W (_ : Below w.heap.size w W) => (rhex_any s (by omega) W).mono (fun e w' h => by rw [← hHS] at h; exact h))
  obtain ⟨YB, hYB⟩ : ∃ S : ByteArray, S = ⟨(unR t.data.toList).1.toArray⟩ := ⟨_, rfl⟩
  obtain ⟨F, hF⟩ : ∃ F : Int, F = (unR t.data.toList).2 := ⟨_, rfl⟩
  have C3 := Lib.hid (fun W (_ : Below w.heap.size w W) => (unhex_any t (by omega) W).mono (fun e w' h => by rw [← hYB, ← hF] at h; exact h))
  have C4 := Lib.hid (fun W (_ : Below w.heap.size w W) => (runhex_any t (by omega) W).mono (fun e w' h => by rw [← hYB, ← hF] at h; exact h))
  have f1 : F = 0 := by rw [hF]; exact hf
  subst f1
  have hy : hexL YB.data.toList = t.data.toList := by rw [hYB, str_list]; exact hex_unR _ hf
  have hys : YB.size ≤ 1000 := by have := congrArg List.length hy; rw [hexL_len, bytes_len, bytes_len] at this; omega
  have C6 := Lib.hid (fun W (_ : Below w.heap.size w W) => (hex_any YB (by omega) W).mono (fun e w' h => by rw [hy] at h; exact (h : e = .returned (.string t) ∧ Below W.heap.size W w')))
  clear hs ht hT hHS hhs hun hYB hF hf hy hys
  go_enter Tryd.func8, Tryd.ntmps8
  go_wp2_with (first
      | (go_at_call 11; have tok := B0; clear tok; refine (CA.out _ ?_).mono ?_; exact B0.out; rintro e v1 ⟨rfl, hb1⟩; have B1 := Lib.hid (keepBelow B0.out hb1); clear hb1 B0)
      | (go_at_call 34; have tok := B1; clear tok; refine (C1.out _ ?_).mono ?_; exact B1.out; rintro e v2 ⟨rfl, hb2⟩; have B2 := Lib.hid (keepBelow B1.out hb2); clear hb2 B1)
      | (go_at_call 33; have tok := B2; clear tok; refine (C2.out _ ?_).mono ?_; exact B2.out; rintro e v3 ⟨rfl, hb3⟩; have B3 := Lib.hid (keepBelow B2.out hb3); clear hb3 B2)
      | (go_at_call 33; have tok := B3; clear tok; refine (C3.out _ ?_).mono ?_; exact B3.out; rintro e v4 ⟨rfl, hb4⟩; have B4 := Lib.hid (keepBelow B3.out hb4); clear hb4 B3)
      | (go_at_call 35; have tok := B4; clear tok; refine (C4.out _ ?_).mono ?_; exact B4.out; rintro e v5 ⟨rfl, hb5⟩; have B5 := Lib.hid (keepBelow B4.out hb5); clear hb5 B4)
      | (go_at_call 34; have tok := B5; clear tok; refine (C1.out _ ?_).mono ?_; exact B5.out; rintro e v6 ⟨rfl, hb6⟩; have B6 := Lib.hid (keepBelow B5.out hb6); clear hb6 B5)
      | (go_at_call 36; have tok := B6; clear tok; refine (C5.out _ ?_).mono ?_; exact B6.out; rintro e v7 ⟨rfl, hb7⟩; have B7 := Lib.hid (keepBelow B6.out hb7); clear hb7 B6)
      | (go_at_call 34; have tok := B7; clear tok; refine (C6.out _ ?_).mono ?_; exact B7.out; rintro e v8 ⟨rfl, hb8⟩; have B8 := Lib.hid (keepBelow B7.out hb8); clear hb8 B7))
  go_ret
  exact ⟨rfl, B8.out⟩
theorem hexes_walk (s t : ByteArray) (w : World) (hT : Tabs w) : Calls Tryd.prog 8 #[.string s, .string t] w fun e w' => e = .returned (.bool true) ∧ Below w.heap.size w w' := by
  by_cases hs : 1000 < s.size
  · exact hexes_s s t hs w hT
  · by_cases ht : 1000 < t.size
    · exact hexes_t s t hs ht w hT
    · by_cases hf : (unR t.data.toList).2 = 0
      · exact hexes_y s t hs ht hf w hT
      · exact hexes_n s t hs ht hf w hT
end Go.Proofs.YtklikkmnemooeaaDoor
