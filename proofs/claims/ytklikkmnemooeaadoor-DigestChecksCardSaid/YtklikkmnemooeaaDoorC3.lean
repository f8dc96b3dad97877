/- DigestChecks: the law's walk. -/
import Derived.Test.YtklikkmnemooeaaDoorDF
import Derived.Test.YtklikkmnemooeaaDoorC2
namespace Go.Proofs.YtklikkmnemooeaaDoor
open Go.RowKit
def ck (l : List UInt8) : Nat := 4294967295 - crcs 4294967295 l l.length
theorem ck_lt (l : List UInt8) : ck l < 4294967296 := by unfold ck; omega
theorem ck_ne (a b : List UInt8) (h : crcs 4294967295 a a.length ≠ crcs 4294967295 b b.length) : ck a ≠ ck b := by
  have h1 := crcs_lt 4294967295 a a.length (by decide)
  have h2 := crcs_lt 4294967295 b b.length (by decide)
  unfold ck
  omega
theorem xor_pow (b : UInt8) (j : Nat) (hj : j < 8) : Go.bits .xor .u8 ((b.toNat : Nat) : Int) (2 ^ j % 256) = ((b ^^^ UInt8.ofNat (2 ^ j)).toNat : Nat) := by
  rw [← xor_byte, pow_byte j hj]
  have : j = 0 ∨ j = 1 ∨ j = 2 ∨ j = 3 ∨ j = 4 ∨ j = 5 ∨ j = 6 ∨ j = 7 := by omega
  rcases this with rfl | rfl | rfl | rfl | rfl | rfl | rfl | rfl <;> rfl
theorem crc_ck (s : ByteArray) (hs : s.size < 1152921504606846976) (w : World) : Calls Tryd.prog 20 #[.string s] w fun e w' => e = .returned (.int .i64 (ck s.data.toList : Nat)) ∧ Below w.heap.size w w' := by
  unfold ck; rw [bytes_len]; exact crc_any s hs w
theorem rcrc_ck (s : ByteArray) (hs : s.size < 1152921504606846976) (w : World) : Calls Tryd.prog 21 #[.string s] w fun e w' => e = .returned (.int .i64 (ck s.data.toList : Nat)) ∧ Below w.heap.size w w' := by
  unfold ck; rw [bytes_len]; exact rcrc_any s hs w
theorem ext_ck (s t : ByteArray) (ht : t.size < 1152921504606846976) (w : World) : Calls Tryd.prog 19 #[.int .i64 (ck s.data.toList : Nat), .string t] w fun e w' => e = .returned (.tuple #[.int .i64 (ck (s ++ t).data.toList : Nat), .int .i64 0]) ∧ Below w.heap.size w w' := by
  refine (extend_any (ck s.data.toList) t (ck_lt _) ht w).mono ?_
  rintro e w' ⟨rfl, hb⟩
  refine ⟨?_, hb⟩
  have h := crcs_lt 4294967295 s.data.toList s.data.toList.length (by decide)
  have e1 : 4294967295 - ck s.data.toList = crcs 4294967295 s.data.toList s.data.toList.length := by unfold ck; omega
  rw [e1, ← bytes_len t, ← crcs_append, ← ap_list]
  rfl
theorem ext_zero (s : ByteArray) (hs : s.size < 1152921504606846976) (w : World) : Calls Tryd.prog 19 #[.int .i64 0, .string s] w fun e w' => e = .returned (.tuple #[.int .i64 (ck s.data.toList : Nat), .int .i64 0]) ∧ Below w.heap.size w w' := by
  unfold ck; rw [bytes_len]; exact extend_any 0 s (by decide) hs w
set_option maxRecDepth 100000 in
set_option maxHeartbeats 1600000 in
theorem checks_s (s t : ByteArray) (A : Int) (bt : Nat) (_hbt : bt < 4294967296) (hs : 500 < s.size) (w : World) (hT : Tabs w) : Calls Tryd.prog 5 #[.string s, .string t, .int .i64 A, .int .u32 bt] w fun e w' => e = .returned (.bool true) ∧ Below w.heap.size w w' := by
  have B0 := Lib.hid (Below.refl w.heap.size w)
  have CA := Lib.hid (fun W (hb : Below w.heap.size w W) => awake_any W (hT.keep hb))
  have g1 : (500 : Int) < s.size := by omega
  clear hs hT _hbt
  go_enter Tryd.func5, Tryd.ntmps5
  go_wp2_with (first
      | (go_at_call 11; have tok := B0; clear tok; refine (CA.out _ ?_).mono ?_; exact B0.out; rintro e v1 ⟨rfl, hb1⟩; have B1 := Lib.hid (keepBelow B0.out hb1); clear hb1 B0))
  go_ret
  exact ⟨rfl, B1.out⟩
set_option maxRecDepth 100000 in
set_option maxHeartbeats 1600000 in
theorem checks_t (s t : ByteArray) (A : Int) (bt : Nat) (_hbt : bt < 4294967296) (hs : ¬ 500 < s.size) (ht : 500 < t.size) (w : World) (hT : Tabs w) : Calls Tryd.prog 5 #[.string s, .string t, .int .i64 A, .int .u32 bt] w fun e w' => e = .returned (.bool true) ∧ Below w.heap.size w w' := by
  have B0 := Lib.hid (Below.refl w.heap.size w)
  have CA := Lib.hid (fun W (hb : Below w.heap.size w W) => awake_any W (hT.keep hb))
  have g1 : ¬ (500 : Int) < s.size := by omega
  have g2 : (500 : Int) < t.size := by omega
  clear hs ht hT _hbt
  go_enter Tryd.func5, Tryd.ntmps5
  go_wp2_with (first
      | (go_at_call 11; have tok := B0; clear tok; refine (CA.out _ ?_).mono ?_; exact B0.out; rintro e v1 ⟨rfl, hb1⟩; have B1 := Lib.hid (keepBelow B0.out hb1); clear hb1 B0))
  go_ret
  exact ⟨rfl, B1.out⟩
set_option maxRecDepth 100000 in
set_option maxHeartbeats 1600000 in
theorem checks_z (s t : ByteArray) (A : Int) (bt : Nat) (_hbt : bt < 4294967296) (hs : ¬ 500 < s.size) (ht : ¬ 500 < t.size) (hz : bt = 0) (w : World) (hT : Tabs w) : Calls Tryd.prog 5 #[.string s, .string t, .int .i64 A, .int .u32 bt] w fun e w' => e = .returned (.bool true) ∧ Below w.heap.size w w' := by
  have B0 := Lib.hid (Below.refl w.heap.size w)
  have CA := Lib.hid (fun W (hb : Below w.heap.size w W) => awake_any W (hT.keep hb))
  have g1 : ¬ (500 : Int) < s.size := by omega
  have g2 : ¬ (500 : Int) < t.size := by omega
  have hst : (s ++ t).size ≤ 1000 := by rw [ByteArray.size_append]; omega
  have g3 : ¬ 9223372036854775807 < s.size + t.size := by omega
  obtain ⟨cs, hcs⟩ : ∃ c, c = ck s.data.toList := ⟨_, rfl⟩
  obtain ⟨cb, hcb⟩ : ∃ c, c = ck (s ++ t).data.toList := ⟨_, rfl⟩
  have C1 := Lib.hid (fun W (hb : Below w.heap.size w W) => crc_ck s (by omega) W)
  have C2 := Lib.hid (fun W (hb : Below w.heap.size w W) => ext_ck s t (by omega) W)
  have C3 := Lib.hid (fun W (hb : Below w.heap.size w W) => ext_zero s (by omega) W)
  have C4 := Lib.hid (fun W (hb : Below w.heap.size w W) => crc_ck (s ++ t) (by omega) W)
  have C5 := Lib.hid (fun W (hb : Below w.heap.size w W) => rcrc_ck (s ++ t) (by omega) W)
  rw [← hcs] at C1 C2 C3
  rw [← hcb] at C2 C4 C5
  have C6 := Lib.hid (fun W (hb : Below w.heap.size w W) => extend_no (-1) s (.inl (by decide)) W)
  have C7 := Lib.hid (fun W (hb : Below w.heap.size w W) => extend_no 4294967296 s (.inr (by decide)) W)
  subst hz
  have hcv := fun W : World => run_bytes_of_string W 9 39 5 (s ++ t) Tryd.underlying9 Tryd.underlying39 Tryd.underlying5
  clear hs ht hT _hbt hcs hcb hst
  go_enter Tryd.func5, Tryd.ntmps5
  go_wp2_with (first
      | (go_at_call 11; have tok := B0; clear tok; refine (CA.out _ ?_).mono ?_; exact B0.out; rintro e v1 ⟨rfl, hb1⟩; have B1 := Lib.hid (keepBelow B0.out hb1); clear hb1 B0)
      | (go_at_call 20; have tok := B1; clear tok; refine (C1.out _ ?_).mono ?_; exact B1.out; rintro e v2 ⟨rfl, hb2⟩; have B2 := Lib.hid (keepBelow B1.out hb2); clear hb2 B1)
      | (go_at_call 19; have tok := B2; clear tok; refine (C2.out _ ?_).mono ?_; exact B2.out; rintro e v3 ⟨rfl, hb3⟩; have B3 := Lib.hid (keepBelow B2.out hb3); clear hb3 B2)
      | (go_at_call 19; have tok := B3; clear tok; refine (C3.out _ ?_).mono ?_; exact B3.out; rintro e v4 ⟨rfl, hb4⟩; have B4 := Lib.hid (keepBelow B3.out hb4); clear hb4 B3)
      | (go_at_call 20; have tok := B4; clear tok; refine (C4.out _ ?_).mono ?_; exact B4.out; rintro e v5 ⟨rfl, hb5⟩; have B5 := Lib.hid (keepBelow B4.out hb5); clear hb5 B4)
      | (go_at_call 21; have tok := B5; clear tok; refine (C5.out _ ?_).mono ?_; exact B5.out; rintro e v6 ⟨rfl, hb6⟩; have B6 := Lib.hid (keepBelow B5.out hb6); clear hb6 B5)
      | (go_at_call 20; have tok := B6; clear tok; refine (C1.out _ ?_).mono ?_; exact B6.out; rintro e v7 ⟨rfl, hb7⟩; have B7 := Lib.hid (keepBelow B6.out hb7); clear hb7 B6)
      | (go_at_call 19; have tok := B7; clear tok; refine (C6.out _ ?_).mono ?_; exact B7.out; rintro e v8 ⟨rfl, hb8⟩; have B8 := Lib.hid (keepBelow B7.out hb8); clear hb8 B7)
      | (go_at_call 19; have tok := B8; clear tok; refine (C7.out _ ?_).mono ?_; exact B8.out; rintro e v9 ⟨rfl, hb9⟩; have B9 := Lib.hid (keepBelow B8.out hb9); clear hb9 B8))
  go_ret
  exact ⟨rfl, ((B9.out).alloc B9.out.size _).drew⟩
set_option maxRecDepth 100000 in
set_option maxHeartbeats 1600000 in
theorem checks_n (s t : ByteArray) (A : Int) (bt : Nat) (_hbt : bt < 4294967296) (hs : ¬ 500 < s.size) (ht : ¬ 500 < t.size) (hz : ¬ bt = 0) (hA : A < 0) (w : World) (hT : Tabs w) : Calls Tryd.prog 5 #[.string s, .string t, .int .i64 A, .int .u32 bt] w fun e w' => e = .returned (.bool true) ∧ Below w.heap.size w w' := by
  have B0 := Lib.hid (Below.refl w.heap.size w)
  have CA := Lib.hid (fun W (hb : Below w.heap.size w W) => awake_any W (hT.keep hb))
  have g1 : ¬ (500 : Int) < s.size := by omega
  have g2 : ¬ (500 : Int) < t.size := by omega
  have hst : (s ++ t).size ≤ 1000 := by rw [ByteArray.size_append]; omega
  have g3 : ¬ 9223372036854775807 < s.size + t.size := by omega
  obtain ⟨cs, hcs⟩ : ∃ c, c = ck s.data.toList := ⟨_, rfl⟩
  obtain ⟨cb, hcb⟩ : ∃ c, c = ck (s ++ t).data.toList := ⟨_, rfl⟩
  have C1 := Lib.hid (fun W (hb : Below w.heap.size w W) => crc_ck s (by omega) W)
  have C2 := Lib.hid (fun W (hb : Below w.heap.size w W) => ext_ck s t (by omega) W)
  have C3 := Lib.hid (fun W (hb : Below w.heap.size w W) => ext_zero s (by omega) W)
  have C4 := Lib.hid (fun W (hb : Below w.heap.size w W) => crc_ck (s ++ t) (by omega) W)
  have C5 := Lib.hid (fun W (hb : Below w.heap.size w W) => rcrc_ck (s ++ t) (by omega) W)
  rw [← hcs] at C1 C2 C3
  rw [← hcb] at C2 C4 C5
  have C6 := Lib.hid (fun W (hb : Below w.heap.size w W) => extend_no (-1) s (.inl (by decide)) W)
  have C7 := Lib.hid (fun W (hb : Below w.heap.size w W) => extend_no 4294967296 s (.inr (by decide)) W)
  have z0 : ¬ (bt : Int) = 0 := by omega
  have z1 : ((bt : Int) == 0) = false := by rw [beq_eq_false_iff_ne]; exact z0
  have hcv := fun W : World => run_bytes_of_string W 9 39 5 (s ++ t) Tryd.underlying9 Tryd.underlying39 Tryd.underlying5
  clear hs ht hT _hbt hcs hcb hst hz
  go_enter Tryd.func5, Tryd.ntmps5
  go_wp2_with (first
      | (go_at_call 11; have tok := B0; clear tok; refine (CA.out _ ?_).mono ?_; exact B0.out; rintro e v1 ⟨rfl, hb1⟩; have B1 := Lib.hid (keepBelow B0.out hb1); clear hb1 B0)
      | (go_at_call 20; have tok := B1; clear tok; refine (C1.out _ ?_).mono ?_; exact B1.out; rintro e v2 ⟨rfl, hb2⟩; have B2 := Lib.hid (keepBelow B1.out hb2); clear hb2 B1)
      | (go_at_call 19; have tok := B2; clear tok; refine (C2.out _ ?_).mono ?_; exact B2.out; rintro e v3 ⟨rfl, hb3⟩; have B3 := Lib.hid (keepBelow B2.out hb3); clear hb3 B2)
      | (go_at_call 19; have tok := B3; clear tok; refine (C3.out _ ?_).mono ?_; exact B3.out; rintro e v4 ⟨rfl, hb4⟩; have B4 := Lib.hid (keepBelow B3.out hb4); clear hb4 B3)
      | (go_at_call 20; have tok := B4; clear tok; refine (C4.out _ ?_).mono ?_; exact B4.out; rintro e v5 ⟨rfl, hb5⟩; have B5 := Lib.hid (keepBelow B4.out hb5); clear hb5 B4)
      | (go_at_call 21; have tok := B5; clear tok; refine (C5.out _ ?_).mono ?_; exact B5.out; rintro e v6 ⟨rfl, hb6⟩; have B6 := Lib.hid (keepBelow B5.out hb6); clear hb6 B5)
      | (go_at_call 20; have tok := B6; clear tok; refine (C1.out _ ?_).mono ?_; exact B6.out; rintro e v7 ⟨rfl, hb7⟩; have B7 := Lib.hid (keepBelow B6.out hb7); clear hb7 B6)
      | (go_at_call 19; have tok := B7; clear tok; refine (C6.out _ ?_).mono ?_; exact B7.out; rintro e v8 ⟨rfl, hb8⟩; have B8 := Lib.hid (keepBelow B7.out hb8); clear hb8 B7)
      | (go_at_call 19; have tok := B8; clear tok; refine (C7.out _ ?_).mono ?_; exact B8.out; rintro e v9 ⟨rfl, hb9⟩; have B9 := Lib.hid (keepBelow B8.out hb9); clear hb9 B8))
  go_ret
  exact ⟨rfl, ((B9.out).alloc B9.out.size _).drew⟩
set_option maxRecDepth 100000 in
set_option maxHeartbeats 1600000 in
theorem checks_b (s t : ByteArray) (A : Int) (bt : Nat) (_hbt : bt < 4294967296) (hs : ¬ 500 < s.size) (ht : ¬ 500 < t.size) (hz : ¬ bt = 0) (hA : 0 ≤ A) (hA2 : 8 * ((s.size : Int) + t.size) < A) (w : World) (hT : Tabs w) : Calls Tryd.prog 5 #[.string s, .string t, .int .i64 A, .int .u32 bt] w fun e w' => e = .returned (.bool true) ∧ Below w.heap.size w w' := by
  have B0 := Lib.hid (Below.refl w.heap.size w)
  have CA := Lib.hid (fun W (hb : Below w.heap.size w W) => awake_any W (hT.keep hb))
  have g1 : ¬ (500 : Int) < s.size := by omega
  have g2 : ¬ (500 : Int) < t.size := by omega
  have hst : (s ++ t).size ≤ 1000 := by rw [ByteArray.size_append]; omega
  have g3 : ¬ 9223372036854775807 < s.size + t.size := by omega
  obtain ⟨cs, hcs⟩ : ∃ c, c = ck s.data.toList := ⟨_, rfl⟩
  obtain ⟨cb, hcb⟩ : ∃ c, c = ck (s ++ t).data.toList := ⟨_, rfl⟩
  have C1 := Lib.hid (fun W (hb : Below w.heap.size w W) => crc_ck s (by omega) W)
  have C2 := Lib.hid (fun W (hb : Below w.heap.size w W) => ext_ck s t (by omega) W)
  have C3 := Lib.hid (fun W (hb : Below w.heap.size w W) => ext_zero s (by omega) W)
  have C4 := Lib.hid (fun W (hb : Below w.heap.size w W) => crc_ck (s ++ t) (by omega) W)
  have C5 := Lib.hid (fun W (hb : Below w.heap.size w W) => rcrc_ck (s ++ t) (by omega) W)
  rw [← hcs] at C1 C2 C3
  rw [← hcb] at C2 C4 C5
  have C6 := Lib.hid (fun W (hb : Below w.heap.size w W) => extend_no (-1) s (.inl (by decide)) W)
  have C7 := Lib.hid (fun W (hb : Below w.heap.size w W) => extend_no 4294967296 s (.inr (by decide)) W)
  have z0 : ¬ (bt : Int) = 0 := by omega
  have z1 : ((bt : Int) == 0) = false := by rw [beq_eq_false_iff_ne]; exact z0
  have f1 : IntKind.i64.wrap (8 * ((s.size : Int) + t.size)) = 8 * ((s.size : Int) + t.size) := IntWalk.i64_in _ (by omega)
  have a1 : ¬ A < 0 := by omega
  have hcv := fun W : World => run_bytes_of_string W 9 39 5 (s ++ t) Tryd.underlying9 Tryd.underlying39 Tryd.underlying5
  clear hs ht hT _hbt hcs hcb hst hz hA
  go_enter Tryd.func5, Tryd.ntmps5
  go_wp2_with (first
      | (go_at_call 11; have tok := B0; clear tok; refine (CA.out _ ?_).mono ?_; exact B0.out; rintro e v1 ⟨rfl, hb1⟩; have B1 := Lib.hid (keepBelow B0.out hb1); clear hb1 B0)
      | (go_at_call 20; have tok := B1; clear tok; refine (C1.out _ ?_).mono ?_; exact B1.out; rintro e v2 ⟨rfl, hb2⟩; have B2 := Lib.hid (keepBelow B1.out hb2); clear hb2 B1)
      | (go_at_call 19; have tok := B2; clear tok; refine (C2.out _ ?_).mono ?_; exact B2.out; rintro e v3 ⟨rfl, hb3⟩; have B3 := Lib.hid (keepBelow B2.out hb3); clear hb3 B2)
      | (go_at_call 19; have tok := B3; clear tok; refine (C3.out _ ?_).mono ?_; exact B3.out; rintro e v4 ⟨rfl, hb4⟩; have B4 := Lib.hid (keepBelow B3.out hb4); clear hb4 B3)
      | (go_at_call 20; have tok := B4; clear tok; refine (C4.out _ ?_).mono ?_; exact B4.out; rintro e v5 ⟨rfl, hb5⟩; have B5 := Lib.hid (keepBelow B4.out hb5); clear hb5 B4)
      | (go_at_call 21; have tok := B5; clear tok; refine (C5.out _ ?_).mono ?_; exact B5.out; rintro e v6 ⟨rfl, hb6⟩; have B6 := Lib.hid (keepBelow B5.out hb6); clear hb6 B5)
      | (go_at_call 20; have tok := B6; clear tok; refine (C1.out _ ?_).mono ?_; exact B6.out; rintro e v7 ⟨rfl, hb7⟩; have B7 := Lib.hid (keepBelow B6.out hb7); clear hb7 B6)
      | (go_at_call 19; have tok := B7; clear tok; refine (C6.out _ ?_).mono ?_; exact B7.out; rintro e v8 ⟨rfl, hb8⟩; have B8 := Lib.hid (keepBelow B7.out hb8); clear hb8 B7)
      | (go_at_call 19; have tok := B8; clear tok; refine (C7.out _ ?_).mono ?_; exact B8.out; rintro e v9 ⟨rfl, hb9⟩; have B9 := Lib.hid (keepBelow B8.out hb9); clear hb9 B8))
  go_ret
  exact ⟨rfl, ((B9.out).alloc B9.out.size _).drew⟩
set_option maxRecDepth 100000 in
set_option maxHeartbeats 1600000 in
theorem checks_r (s t : ByteArray) (A : Int) (bt : Nat) (_hbt : bt < 4294967296) (hs : ¬ 500 < s.size) (ht : ¬ 500 < t.size) (hz : ¬ bt = 0) (hA : 0 ≤ A) (hA2 : A ≤ 8 * ((s.size : Int) + t.size)) (hA3 : 8 * ((s.size : Int) + t.size) - A < 32) (w : World) (hT : Tabs w) : Calls Tryd.prog 5 #[.string s, .string t, .int .i64 A, .int .u32 bt] w fun e w' => e = .returned (.bool true) ∧ Below w.heap.size w w' := by
  have B0 := Lib.hid (Below.refl w.heap.size w)
  have CA := Lib.hid (fun W (hb : Below w.heap.size w W) => awake_any W (hT.keep hb))
  have g1 : ¬ (500 : Int) < s.size := by omega
  have g2 : ¬ (500 : Int) < t.size := by omega
  have hst : (s ++ t).size ≤ 1000 := by rw [ByteArray.size_append]; omega
  have g3 : ¬ 9223372036854775807 < s.size + t.size := by omega
  obtain ⟨cs, hcs⟩ : ∃ c, c = ck s.data.toList := ⟨_, rfl⟩
  obtain ⟨cb, hcb⟩ : ∃ c, c = ck (s ++ t).data.toList := ⟨_, rfl⟩
  have C1 := Lib.hid (fun W (hb : Below w.heap.size w W) => crc_ck s (by omega) W)
  have C2 := Lib.hid (fun W (hb : Below w.heap.size w W) => ext_ck s t (by omega) W)
  have C3 := Lib.hid (fun W (hb : Below w.heap.size w W) => ext_zero s (by omega) W)
  have C4 := Lib.hid (fun W (hb : Below w.heap.size w W) => crc_ck (s ++ t) (by omega) W)
  have C5 := Lib.hid (fun W (hb : Below w.heap.size w W) => rcrc_ck (s ++ t) (by omega) W)
  rw [← hcs] at C1 C2 C3
  rw [← hcb] at C2 C4 C5
  have C6 := Lib.hid (fun W (hb : Below w.heap.size w W) => extend_no (-1) s (.inl (by decide)) W)
  have C7 := Lib.hid (fun W (hb : Below w.heap.size w W) => extend_no 4294967296 s (.inr (by decide)) W)
  have z0 : ¬ (bt : Int) = 0 := by omega
  have z1 : ((bt : Int) == 0) = false := by rw [beq_eq_false_iff_ne]; exact z0
  have f1 : IntKind.i64.wrap (8 * ((s.size : Int) + t.size)) = 8 * ((s.size : Int) + t.size) := IntWalk.i64_in _ (by omega)
  have a1 : ¬ A < 0 := by omega
  have a2 : ¬ 8 * ((s.size : Int) + t.size) < A := by omega
  have f2 : IntKind.i64.wrap (8 * ((s.size : Int) + t.size) - A) = 8 * ((s.size : Int) + t.size) - A := IntWalk.i64_in _ (by omega)
  have hcv := fun W : World => run_bytes_of_string W 9 39 5 (s ++ t) Tryd.underlying9 Tryd.underlying39 Tryd.underlying5
  clear hs ht hT _hbt hcs hcb hst hz hA hA2
  go_enter Tryd.func5, Tryd.ntmps5
  go_wp2_with (first
      | (go_at_call 11; have tok := B0; clear tok; refine (CA.out _ ?_).mono ?_; exact B0.out; rintro e v1 ⟨rfl, hb1⟩; have B1 := Lib.hid (keepBelow B0.out hb1); clear hb1 B0)
      | (go_at_call 20; have tok := B1; clear tok; refine (C1.out _ ?_).mono ?_; exact B1.out; rintro e v2 ⟨rfl, hb2⟩; have B2 := Lib.hid (keepBelow B1.out hb2); clear hb2 B1)
      | (go_at_call 19; have tok := B2; clear tok; refine (C2.out _ ?_).mono ?_; exact B2.out; rintro e v3 ⟨rfl, hb3⟩; have B3 := Lib.hid (keepBelow B2.out hb3); clear hb3 B2)
      | (go_at_call 19; have tok := B3; clear tok; refine (C3.out _ ?_).mono ?_; exact B3.out; rintro e v4 ⟨rfl, hb4⟩; have B4 := Lib.hid (keepBelow B3.out hb4); clear hb4 B3)
      | (go_at_call 20; have tok := B4; clear tok; refine (C4.out _ ?_).mono ?_; exact B4.out; rintro e v5 ⟨rfl, hb5⟩; have B5 := Lib.hid (keepBelow B4.out hb5); clear hb5 B4)
      | (go_at_call 21; have tok := B5; clear tok; refine (C5.out _ ?_).mono ?_; exact B5.out; rintro e v6 ⟨rfl, hb6⟩; have B6 := Lib.hid (keepBelow B5.out hb6); clear hb6 B5)
      | (go_at_call 20; have tok := B6; clear tok; refine (C1.out _ ?_).mono ?_; exact B6.out; rintro e v7 ⟨rfl, hb7⟩; have B7 := Lib.hid (keepBelow B6.out hb7); clear hb7 B6)
      | (go_at_call 19; have tok := B7; clear tok; refine (C6.out _ ?_).mono ?_; exact B7.out; rintro e v8 ⟨rfl, hb8⟩; have B8 := Lib.hid (keepBelow B7.out hb8); clear hb8 B7)
      | (go_at_call 19; have tok := B8; clear tok; refine (C7.out _ ?_).mono ?_; exact B8.out; rintro e v9 ⟨rfl, hb9⟩; have B9 := Lib.hid (keepBelow B8.out hb9); clear hb9 B8))
  go_ret
  exact ⟨rfl, ((B9.out).alloc B9.out.size _).drew⟩
set_option maxRecDepth 100000 in
set_option maxHeartbeats 1600000 in
theorem checks_m (s t : ByteArray) (A : Int) (bt : Nat) (hbt : bt < 4294967296) (hs : ¬ 500 < s.size) (ht : ¬ 500 < t.size) (hz : ¬ bt = 0) (hA : 0 ≤ A) (hA3 : 32 ≤ 8 * ((s.size : Int) + t.size) - A) (w : World) (hT : Tabs w) : Calls Tryd.prog 5 #[.string s, .string t, .int .i64 A, .int .u32 bt] w fun e w' => e = .returned (.bool true) ∧ Below w.heap.size w w' := by
  have B0 := Lib.hid (Below.refl w.heap.size w)
  have CA := Lib.hid (fun W (hb : Below w.heap.size w W) => awake_any W (hT.keep hb))
  obtain ⟨a, rfl⟩ := Int.eq_ofNat_of_zero_le hA
  have g1 : ¬ (500 : Int) < s.size := by omega
  have g2 : ¬ (500 : Int) < t.size := by omega
  have hst : (s ++ t).size ≤ 1000 := by rw [ByteArray.size_append]; omega
  have g3 : ¬ 9223372036854775807 < s.size + t.size := by omega
  obtain ⟨cs, hcs⟩ : ∃ c, c = ck s.data.toList := ⟨_, rfl⟩
  obtain ⟨cb, hcb⟩ : ∃ c, c = ck (s ++ t).data.toList := ⟨_, rfl⟩
  have C1 := Lib.hid (fun W (hb : Below w.heap.size w W) => crc_ck s (by omega) W)
  have C2 := Lib.hid (fun W (hb : Below w.heap.size w W) => ext_ck s t (by omega) W)
  have C3 := Lib.hid (fun W (hb : Below w.heap.size w W) => ext_zero s (by omega) W)
  have C4 := Lib.hid (fun W (hb : Below w.heap.size w W) => crc_ck (s ++ t) (by omega) W)
  have C5 := Lib.hid (fun W (hb : Below w.heap.size w W) => rcrc_ck (s ++ t) (by omega) W)
  rw [← hcs] at C1 C2 C3
  rw [← hcb] at C2 C4 C5
  have C6 := Lib.hid (fun W (hb : Below w.heap.size w W) => extend_no (-1) s (.inl (by decide)) W)
  have C7 := Lib.hid (fun W (hb : Below w.heap.size w W) => extend_no 4294967296 s (.inr (by decide)) W)
  have z0 : ¬ (bt : Int) = 0 := by omega
  have z1 : ((bt : Int) == 0) = false := by rw [beq_eq_false_iff_ne]; exact z0
  have f1 : IntKind.i64.wrap (8 * ((s.size : Int) + t.size)) = 8 * ((s.size : Int) + t.size) := IntWalk.i64_in _ (by omega)
  have a1 : ¬ (a : Int) < 0 := by omega
  have a2 : ¬ 8 * ((s.size : Int) + t.size) < (a : Int) := by omega
  have f2 : IntKind.i64.wrap (8 * ((s.size : Int) + t.size) - (a : Int)) = 8 * ((s.size : Int) + t.size) - (a : Int) := IntWalk.i64_in _ (by omega)
  have a3 : ¬ 8 * ((s.size : Int) + t.size) - (a : Int) < 32 := by omega
  have d1 : decide ((500 : Int) < s.size) = false := decide_eq_false g1
  have d2 : decide ((500 : Int) < t.size) = false := decide_eq_false g2
  have HCB := Lib.hid hcb
  have HSZ := Lib.hid hst
  have hcv := fun W : World => run_bytes_of_string W 9 39 5 (s ++ t) Tryd.underlying9 Tryd.underlying39 Tryd.underlying5
  clear hs ht hT hcs hcb hst
  go_enter Tryd.func5, Tryd.ntmps5
  go_wp2_with (first
      | (go_at_call 11; have tok := B0; clear tok; refine (CA.out _ ?_).mono ?_; exact B0.out; rintro e v1 ⟨rfl, hb1⟩; have B1 := Lib.hid (keepBelow B0.out hb1); clear hb1 B0)
      | (go_at_call 20; have tok := B1; clear tok; refine (C1.out _ ?_).mono ?_; exact B1.out; rintro e v2 ⟨rfl, hb2⟩; have B2 := Lib.hid (keepBelow B1.out hb2); clear hb2 B1)
      | (go_at_call 19; have tok := B2; clear tok; refine (C2.out _ ?_).mono ?_; exact B2.out; rintro e v3 ⟨rfl, hb3⟩; have B3 := Lib.hid (keepBelow B2.out hb3); clear hb3 B2)
      | (go_at_call 19; have tok := B3; clear tok; refine (C3.out _ ?_).mono ?_; exact B3.out; rintro e v4 ⟨rfl, hb4⟩; have B4 := Lib.hid (keepBelow B3.out hb4); clear hb4 B3)
      | (go_at_call 20; have tok := B4; clear tok; refine (C4.out _ ?_).mono ?_; exact B4.out; rintro e v5 ⟨rfl, hb5⟩; have B5 := Lib.hid (keepBelow B4.out hb5); clear hb5 B4)
      | (go_at_call 21; have tok := B5; clear tok; refine (C5.out _ ?_).mono ?_; exact B5.out; rintro e v6 ⟨rfl, hb6⟩; have B6 := Lib.hid (keepBelow B5.out hb6); clear hb6 B5)
      | (go_at_call 20; have tok := B6; clear tok; refine (C1.out _ ?_).mono ?_; exact B6.out; rintro e v7 ⟨rfl, hb7⟩; have B7 := Lib.hid (keepBelow B6.out hb7); clear hb7 B6)
      | (go_at_call 19; have tok := B7; clear tok; refine (C6.out _ ?_).mono ?_; exact B7.out; rintro e v8 ⟨rfl, hb8⟩; have B8 := Lib.hid (keepBelow B7.out hb8); clear hb8 B7)
      | (go_at_call 19; have tok := B8; clear tok; refine (C7.out _ ?_).mono ?_; exact B8.out; rintro e v9 ⟨rfl, hb9⟩; have B9 := Lib.hid (keepBelow B8.out hb9); clear hb9 B8))
  obtain ⟨cap, hcap⟩ : ∃ c, c = grownCap v9 (s.size + t.size) 0 5 := ⟨_, rfl⟩
  rw [← hcap]
  have hrow : (bytesRow (s ++ t) cap).size = (s ++ t).size + (cap - (s ++ t).size) := by simp [bytesRow]; omega
  obtain ⟨W1, hW1⟩ : ∃ W1, W1 = (v9.alloc (.cells (bytesRow (s ++ t) cap) 5 ((bytesRow (s ++ t) cap).size, (bytesRow (s ++ t) cap).size + 1))).drew := ⟨_, rfl⟩
  have hs1 : W1.heap[v9.heap.size]? = some (.cells (bytesRow (s ++ t) cap) 5 ((bytesRow (s ++ t) cap).size, (bytesRow (s ++ t) cap).size + 1)) := by rw [hW1]; exact heap_alloc_new v9 _
  have hB1 : Below w.heap.size w W1 := by rw [hW1]; exact ((B9.out).alloc B9.out.size _).drew
  have hgs : w.heap.size ≤ v9.heap.size := B9.out.size
  obtain ⟨L, hL⟩ : ∃ L, L = (s ++ t).data.toList := ⟨_, rfl⟩
  have hLs : L.length = s.size + t.size := by rw [hL, bytes_len, ByteArray.size_append]
  have hc1 : ∀ j, j < L.length → W1.cell? ⟨v9.heap.size, j, none⟩ = some (.int .u8 (((fl L a bt 0).getD j 0).toNat : Nat)) ∧ W1.frozen? ⟨v9.heap.size, j, none⟩ = false := by
    intro j hj
    have hj' : j < (s ++ t).data.size := by rw [hL] at hj; simpa using hj
    refine ⟨?_, ?_⟩
    · rw [cell_of_row W1 v9.heap.size j _ 5 _ hs1, bytesRow_at (s ++ t) cap j hj']
      show some _ = some (Value.int .u8 ((L.getD j 0).toNat : Nat))
      rw [List.getD_eq_getElem?_getD, List.getElem?_eq_getElem hj]
      subst hL
      rfl
    · unfold World.frozen?
      rw [hs1]
      have h1 : (s ++ t).data.size = (s ++ t).size := rfl
      simp [hrow]; omega
  rw [← hW1]
  have HC1 := Lib.hid hc1
  have HB1 := Lib.hid hB1
  have HLS := Lib.hid hLs
  have HL := Lib.hid hL
  have HGS := Lib.hid hgs
  generalize v9.heap.size = g at *
  clear hc1 hB1 hs1 hW1 hrow hcap hLs hL hgs hcv
  go_loopw [106] (fun i wr => ∃ u : Nat, u ≤ 32 ∧ i = .int .i64 u ∧ (∀ j, j < L.length → wr.cell? ⟨g, j, none⟩ = some (.int .u8 (((fl L a bt u).getD j 0).toNat : Nat)) ∧ wr.frozen? ⟨g, j, none⟩ = false) ∧ Below w.heap.size w wr) (fun i _ => 32 - (intOf i).toNat)
  case atStart => exact ⟨0, by omega, rfl, HC1.out, HB1.out⟩
  case round =>
    obtain ⟨u, hu, rfl, hC, hB⟩ := hrel
    have HC := Lib.hid hC
    have HB := Lib.hid hB
    clear hC hB HC1 HB1
    by_cases hul : u < 32
    · have p8 : (0 : Int) ≤ u := by omega
      have p9 : (u : Int) < 32 := by omega
      have hand : bits .and .u32 ((bt : Int) / 2 ^ u) 1 = ((bt / 2 ^ u % 2 : Nat) : Int) := by
        rw [show (bt : Int) / 2 ^ u = ((bt / 2 ^ u : Nat) : Int) by simp, show (1 : Int) = ((1 : Nat) : Int) from rfl, u32_and_nat _ _ (Nat.lt_of_le_of_lt (Nat.div_le_self _ _) hbt) (by decide), Nat.and_one_is_mod]
      by_cases hbit : bt.testBit u = true
      · have hb1 : bits .and .u32 ((bt : Int) / 2 ^ u) 1 = 1 := by
          rw [hand]
          rw [Nat.testBit_eq_decide_div_mod_eq] at hbit
          have := of_decide_eq_true hbit
          omega
        obtain ⟨x1, hx1⟩ : ∃ x, x = a + u := ⟨_, rfl⟩
        obtain ⟨k, hk⟩ : ∃ k, k = x1 / 8 := ⟨_, rfl⟩
        obtain ⟨j, hj⟩ : ∃ j, j = x1 % 8 := ⟨_, rfl⟩
        have m1 : IntKind.i64.wrap ((a : Int) + u) = (x1 : Int) := by rw [IntWalk.i64_in _ (by omega)]; omega
        have m2 : Int.tdiv (x1 : Int) 8 = (k : Int) := by rw [hk]; exact (Int.ofNat_tdiv x1 8).symm
        have m3 : IntKind.i64.wrap (k : Int) = (k : Int) := IntWalk.i64_in _ (by omega)
        have m4 : Int.tmod (x1 : Int) 8 = (j : Int) := by rw [hj]; exact (Int.ofNat_tmod x1 8).symm
        have m5 : IntKind.i64.wrap (j : Int) = (j : Int) := IntWalk.i64_in _ (by omega)
        have hkl : k < L.length := by have := HLS.out; omega
        have n1 : (0 : Int) ≤ k := by omega
        have n2 : (k : Int) < (s.size : Int) + t.size := by have := HLS.out; omega
        have n3 : (k : Int) < ((s.size + t.size : Nat) : Int) := by have := HLS.out; omega
        have n4 : (0 : Int) ≤ j := by omega
        have hj8 : j < 8 := by omega
        have HFL := Lib.hid (show fl L a bt (u + 1) = (fl L a bt u).set k ((fl L a bt u).getD k 0 ^^^ UInt8.ofNat (2 ^ j)) by rw [fl, if_pos hbit, hk, hj, hx1])
        have HLEN := Lib.hid (fl_len L a bt u)
        have ck0 := (HC.out k hkl).1
        have fk0 := (HC.out k hkl).2
        have hxor := xor_pow ((fl L a bt u).getD k 0) j hj8
        have HX := Lib.hid hxor
        generalize hb0 : (fl L a bt u).getD k 0 = b0 at *
        have HB0 := Lib.hid hb0
        clear hand hbit hx1 hk hj hxor hb0
        go_wp2_with fail
        go_region
        go_wp2_with fail
        refine ⟨⟨u + 1, by omega, rfl, ?_, (HB.out.setCell HGS.out _).drew⟩, by simp [intOf]; omega⟩
        intro q hq
        rw [HX.out]
        by_cases hqk : q = k
        · subst hqk
          refine ⟨?_, by rw [World.frozen?_drew, World.frozen?_setCell]; exact fk0⟩
          rw [World.cell?_drew]
          refine (World.cell?_setCell_same (h := ck0) ..).trans ?_
          rw [HFL.out, List.getD_eq_getElem?_getD, List.getElem?_set_self (by rw [HLEN.out]; exact hq)]
          rfl
        · refine ⟨?_, by rw [World.frozen?_drew, World.frozen?_setCell]; exact (HC.out q hq).2⟩
          rw [World.cell?_drew]
          refine (World.cell?_setCell_other (h := fun e => hqk (Addr.mk.inj e).2.1.symm) ..).trans ((HC.out q hq).1.trans ?_)
          rw [HFL.out, List.getD_eq_getElem?_getD, List.getD_eq_getElem?_getD, List.getElem?_set_ne (fun h => hqk h.symm)]
      · have hb1 : bits .and .u32 ((bt : Int) / 2 ^ u) 1 = 0 := by
          rw [hand]
          rw [Nat.testBit_eq_decide_div_mod_eq] at hbit
          have : ¬ bt / 2 ^ u % 2 = 1 := fun h => hbit (decide_eq_true h)
          omega
        have HFL := Lib.hid (show fl L a bt (u + 1) = fl L a bt u by rw [fl, if_neg hbit])
        clear hand hbit
        go_wp2_with fail
        exact ⟨⟨u + 1, by omega, rfl, by rw [HFL.out]; exact HC.out, HB.out⟩, by simp [intOf]; omega⟩
    · obtain rfl : u = 32 := by omega
      have hfl : (fl L a bt 32).length = s.size + t.size := by rw [fl_len]; exact HLS.out
      have hcv2 : (convert 39 9 (.slice (some ⟨g, 0, none⟩) (s.size + t.size) cap)).run Tryd.prog wr = .ok (.string ⟨(fl L a bt 32).toArray⟩) wr := by
        have := run_convert_bytes_back wr 39 9 5 ⟨g, 0, none⟩ cap (fl L a bt 32) Tryd.underlying39 Tryd.underlying5 Tryd.underlying9 (fun j hj => by
          rw [Addr.add_mid, Nat.zero_add, (HC.out j (by rw [fl_len] at hj; exact hj)).1, List.getD_eq_getElem?_getD, List.getElem?_eq_getElem hj]
          rfl)
        rw [hfl] at this
        exact this
      obtain ⟨FB, hFB⟩ : ∃ F : ByteArray, F = ⟨(fl L a bt 32).toArray⟩ := ⟨_, rfl⟩
      rw [← hFB] at hcv2
      have hFs : FB.size = s.size + t.size := by rw [hFB, str_size]; exact hfl
      obtain ⟨cf, hcf⟩ : ∃ c, c = ck FB.data.toList := ⟨_, rfl⟩
      have C10 := Lib.hid (fun W => crc_ck FB (by have := HSZ.out; rw [ByteArray.size_append] at this; omega) W)
      rw [← hcf] at C10
      have hne : cf ≠ cb := by
        rw [hcf, HCB.out, ← HL.out, hFB]
        exact ck_ne _ _ (fl_seen 4294967295 L a bt (by have := HLS.out; omega) hz hbt)
      have hne2 : ((cf : Int) != cb) = true := by rw [bne_iff_ne]; omega
      clear hne hcf hFs hFB hfl
      go_wp2_with (go_at_call 20; refine (C10.out _).mono ?_; rintro e v10 ⟨rfl, hb⟩; have B10 := Lib.hid (keepBelow HB.out hb); clear hb)
      go_ret
      exact ⟨rfl, B10.out⟩
theorem checks_walk (s t : ByteArray) (A : Int) (bt : Nat) (hbt : bt < 4294967296) (w : World) (hT : Tabs w) : Calls Tryd.prog 5 #[.string s, .string t, .int .i64 A, .int .u32 bt] w fun e w' => e = .returned (.bool true) ∧ Below w.heap.size w w' := by
  by_cases hs : 500 < s.size
  · exact checks_s s t A bt hbt hs w hT
  · by_cases ht : 500 < t.size
    · exact checks_t s t A bt hbt hs ht w hT
    · by_cases hz : bt = 0
      · exact checks_z s t A bt hbt hs ht hz w hT
      · by_cases hA : A < 0
        · exact checks_n s t A bt hbt hs ht hz hA w hT
        · by_cases hA2 : 8 * ((s.size : Int) + t.size) < A
          · exact checks_b s t A bt hbt hs ht hz (by omega) hA2 w hT
          · by_cases hA3 : 8 * ((s.size : Int) + t.size) - A < 32
            · exact checks_r s t A bt hbt hs ht hz (by omega) (by omega) hA3 w hT
            · exact checks_m s t A bt hbt hs ht hz (by omega) (by omega) w hT
end Go.Proofs.YtklikkmnemooeaaDoor
