/- DigestKeys: the law's walk. -/
import Derived.Test.YtklikkmnemooeaaDoorDF
import Derived.Test.YtklikkmnemooeaaDoorDG
namespace Go.Proofs.YtklikkmnemooeaaDoor
open Go.RowKit
/-- what Key says -/
def kv (x : Int) : Int := if sec x then (pw 4 x : Nat) else 0
def ke (x : Int) : Int := if sec x then 0 else 11
theorem Key_two (x : Int) (w : World) : Calls Tryd.prog 24 #[.int .i64 x] w fun e w' => e = .returned (.tuple #[.int .i64 (kv x), .int .i64 (ke x)]) ∧ Below w.heap.size w w' := by
  refine (Key_any x w).mono ?_
  rintro e w' ⟨rfl, hb⟩
  refine ⟨?_, hb⟩
  unfold kv ke
  split <;> rfl
def sv (x k : Int) : Int := if sec x ∧ val k then (pw k x : Nat) else 0
def se (x k : Int) : Int := if sec x then (if val k then 0 else 26) else 11
theorem Shared_two (x k : Int) (w : World) : Calls Tryd.prog 25 #[.int .i64 x, .int .i64 k] w fun e w' => e = .returned (.tuple #[.int .i64 (sv x k), .int .i64 (se x k)]) ∧ Below w.heap.size w w' := by
  refine (Shared_any x k w).mono ?_
  rintro e w' ⟨rfl, hb⟩
  refine ⟨?_, hb⟩
  unfold sv se
  by_cases h1 : sec x
  · by_cases h2 : val k <;> simp [h1, h2]
  · simp [h1]
theorem rsecret_two (x : Int) (w : World) : Calls Tryd.prog 26 #[.int .i64 x] w fun e w' => e = .returned (.bool (decide (sec x))) ∧ Below w.heap.size w w' := by
  refine (rsecret_any x w).mono ?_
  rintro e w' ⟨rfl, rfl⟩
  exact ⟨rfl, Below.refl _ _⟩
theorem prime_P : NT.IsPrime 2305843009213691579 := NT.prime_prime
theorem prime_Q : NT.IsPrime 1152921504606845789 := NT.prime_order
theorem pw4_pos (x : Int) : 1 ≤ pw 4 x := (NT.pow_pos_mod prime_P (by decide) (NT.four (by decide)) x.toNat).1
theorem pw_def (a n : Nat) : pw a n = a ^ n % 2305843009213691579 := rfl
theorem val_of (k n : Nat) (h1 : 1 < k) (h2 : k < 2305843009213691579) (hn : n = 1152921504606845789) (h : k ^ n % 2305843009213691579 = 1) : val k := by
  refine ⟨⟨by omega, by omega⟩, by omega, ?_⟩
  rw [show (1152921504606845789 : Int) = (n : Int) by omega, pw_def]
  exact h
theorem key_valid' (P Q : Nat) (hP : NT.IsPrime P) (hQ : NT.IsPrime Q) (hPQ : P = 2 * Q + 1) (h5 : 5 < P) (x : Nat) (h0 : 0 < x) (h1 : x < Q) : 1 < 4 ^ x % P ∧ 4 ^ x % P < P ∧ (4 ^ x % P) ^ Q % P = 1 := NT.key_valid hP hQ hPQ h5 h0 h1
theorem val_key (x : Int) (h : sec x) : val (pw 4 x) := by
  have h1 := h.1
  have h2 := h.2
  obtain ⟨Q, hQ⟩ : ∃ Q : Nat, Q = 1152921504606845789 := ⟨_, rfl⟩
  have hk := key_valid' 2305843009213691579 Q prime_P (by rw [hQ]; exact prime_Q) (by omega) (by decide) x.toNat (by omega) (by omega)
  have e : pw 4 x = 4 ^ x.toNat % 2305843009213691579 := rfl
  rw [← e] at hk
  exact val_of (pw 4 x) Q hk.1 hk.2.1 hQ hk.2.2
theorem shared_eq (x y : Int) : pw (pw 4 y : Nat) x = pw (pw 4 x : Nat) y := NT.shared 2305843009213691579 x.toNat y.toNat
set_option maxRecDepth 100000 in
set_option maxHeartbeats 800000 in
theorem keys_no (x y key : Int) (hx : ¬ sec x) (w : World) (hT : Tabs w) : Calls Tryd.prog 6 #[.int .i64 x, .int .i64 y, .int .i64 key] w fun e w' => e = .returned (.bool true) ∧ Below w.heap.size w w' := by
  have B0 := Lib.hid (Below.refl w.heap.size w)
  have CA := Lib.hid (fun W (hb : Below w.heap.size w W) => awake_any W (hT.keep hb))
  obtain ⟨bv, hbv⟩ : ∃ b, b = decide (val key) := ⟨_, rfl⟩
  have CV := Lib.hid (fun W (_ : Below w.heap.size w W) => valid_any key W)
  have CR := Lib.hid (fun W (_ : Below w.heap.size w W) => rvalid_any key W)
  rw [← hbv] at CV CR
  have CK := Lib.hid (fun W (_ : Below w.heap.size w W) => Key_two x W)
  have CY := Lib.hid (fun W (_ : Below w.heap.size w W) => Key_two y W)
  have CS := Lib.hid (fun W (_ : Below w.heap.size w W) => Shared_two x key W)
  have CX := Lib.hid (fun W (_ : Below w.heap.size w W) => rsecret_two x W)
  have e1 : kv x = 0 := if_neg hx
  have e2 : ke x = 11 := if_neg hx
  have e3 : sv x key = 0 := if_neg (fun h => hx h.1)
  have e4 : se x key = 11 := if_neg hx
  rw [e1, e2] at CK
  rw [e3, e4] at CS
  rw [decide_eq_false hx] at CX
  clear e1 e2 e3 e4 hbv hx hT
  generalize kv y = ky at CY
  generalize ke y = ey at CY
  go_enter Tryd.func6, Tryd.ntmps6
  go_wp2_with (first
      | (go_at_call 11; have tok := B0; clear tok; refine (CA.out _ ?_).mono ?_; exact B0.out; rintro e v1 ⟨rfl, hb1⟩; have B1 := Lib.hid (keepBelow B0.out hb1); clear hb1 B0)
      | (go_at_call 22; have tok := B1; clear tok; refine (CV.out _ ?_).mono ?_; exact B1.out; rintro e v2 ⟨rfl, hb2⟩; have B2 := Lib.hid (keepBelow B1.out hb2); clear hb2 B1)
      | (go_at_call 23; have tok := B2; clear tok; refine (CR.out _ ?_).mono ?_; exact B2.out; rintro e v3 ⟨rfl, hb3⟩; have B3 := Lib.hid (keepBelow B2.out hb3); clear hb3 B2)
      | (go_at_call 24; have tok := B3; clear tok; refine (CK.out _ ?_).mono ?_; exact B3.out; rintro e v4 ⟨rfl, hb4⟩; have B4 := Lib.hid (keepBelow B3.out hb4); clear hb4 B3)
      | (go_at_call 24; have tok := B4; clear tok; refine (CY.out _ ?_).mono ?_; exact B4.out; rintro e v5 ⟨rfl, hb5⟩; have B5 := Lib.hid (keepBelow B4.out hb5); clear hb5 B4)
      | (go_at_call 25; have tok := B5; clear tok; refine (CS.out _ ?_).mono ?_; exact B5.out; rintro e v6 ⟨rfl, hb6⟩; have B6 := Lib.hid (keepBelow B5.out hb6); clear hb6 B5)
      | (go_at_call 26; have tok := B6; clear tok; refine (CX.out _ ?_).mono ?_; exact B6.out; rintro e v7 ⟨rfl, hb7⟩; have B7 := Lib.hid (keepBelow B6.out hb7); clear hb7 B6))
  go_ret
  exact ⟨rfl, B7.out⟩
set_option maxRecDepth 100000 in
set_option maxHeartbeats 800000 in
theorem keys_vy (x y key : Int) (hx : sec x) (hv : val key) (hy : sec y) (w : World) (hT : Tabs w) : Calls Tryd.prog 6 #[.int .i64 x, .int .i64 y, .int .i64 key] w fun e w' => e = .returned (.bool true) ∧ Below w.heap.size w w' := by
  have B0 := Lib.hid (Below.refl w.heap.size w)
  have CA := Lib.hid (fun W (hb : Below w.heap.size w W) => awake_any W (hT.keep hb))
  obtain ⟨bv, hbv⟩ : ∃ b, b = decide (val key) := ⟨_, rfl⟩
  have CV := Lib.hid (fun W (_ : Below w.heap.size w W) => valid_any key W)
  have CR := Lib.hid (fun W (_ : Below w.heap.size w W) => rvalid_any key W)
  rw [← hbv] at CV CR
  have CK := Lib.hid (fun W (_ : Below w.heap.size w W) => Key_two x W)
  have CY := Lib.hid (fun W (_ : Below w.heap.size w W) => Key_two y W)
  have CS := Lib.hid (fun W (_ : Below w.heap.size w W) => Shared_two x key W)
  have CX := Lib.hid (fun W (_ : Below w.heap.size w W) => rsecret_two x W)
  obtain ⟨A, hA⟩ : ∃ A, A = pw 4 x := ⟨_, rfl⟩
  have e1 : kv x = A := by rw [hA]; exact if_pos hx
  have e2 : ke x = 0 := if_pos hx
  rw [e1, e2] at CK
  rw [decide_eq_true hx] at CX
  have CVA := Lib.hid (fun W (_ : Below w.heap.size w W) => valid_any A W)
  rw [decide_eq_true (show val (A : Int) by rw [hA]; exact val_key x hx)] at CVA
  have CP := Lib.hid (fun W (_ : Below w.heap.size w W) => rpower_any 4 x mem4 (by have := hx.1; omega) (by have := hx.2; omega) A hA W)
  obtain ⟨S, hS⟩ : ∃ S, S = pw key x := ⟨_, rfl⟩
  have e3 : sv x key = S := by rw [hS]; exact if_pos ⟨hx, hv⟩
  have e4 : se x key = 0 := by unfold se; rw [if_pos hx, if_pos hv]
  have CQ := Lib.hid (fun W (_ : Below w.heap.size w W) => rpower_any key x hv.1 (by have := hx.1; omega) (by have := hx.2; omega) S hS W)
  obtain rfl : bv = true := by rw [hbv]; exact decide_eq_true hv
  clear hS
  rw [e3, e4] at CS
  have CZ := Lib.hid (fun W (_ : Below w.heap.size w W) => rsecret_two y W)
  obtain ⟨Bk, hB⟩ : ∃ B, B = pw 4 y := ⟨_, rfl⟩
  have e5 : kv y = Bk := by rw [hB]; exact if_pos hy
  have e6 : ke y = 0 := if_pos hy
  rw [e5, e6] at CY
  rw [decide_eq_true hy] at CZ
  obtain ⟨M, hM⟩ : ∃ M, M = pw Bk x := ⟨_, rfl⟩
  have hvb : val (Bk : Int) := by rw [hB]; exact val_key y hy
  have hva : val (A : Int) := by rw [hA]; exact val_key x hx
  have CM := Lib.hid (fun W (_ : Below w.heap.size w W) => Shared_two x Bk W)
  have CN := Lib.hid (fun W (_ : Below w.heap.size w W) => Shared_two y A W)
  have e7 : sv x Bk = M := by rw [hM]; exact if_pos ⟨hx, hvb⟩
  have e8 : se x Bk = 0 := by unfold se; rw [if_pos hx, if_pos hvb]
  have e9 : sv y A = M := by rw [hM, hB, shared_eq, ← hA]; exact if_pos ⟨hy, hva⟩
  have e10 : se y A = 0 := by unfold se; rw [if_pos hy, if_pos hva]
  rw [e7, e8] at CM
  rw [e9, e10] at CN
  clear e5 e6 e7 e8 e9 e10 hvb hva hM hB
  clear e1 e2 e3 e4 hbv hx hv hy hA hT
  go_enter Tryd.func6, Tryd.ntmps6
  go_wp2_with (first
      | (go_at_call 11; have tok := B0; clear tok; refine (CA.out _ ?_).mono ?_; exact B0.out; rintro e v1 ⟨rfl, hb1⟩; have B1 := Lib.hid (keepBelow B0.out hb1); clear hb1 B0)
      | (go_at_call 22; have tok := B1; clear tok; refine (CV.out _ ?_).mono ?_; exact B1.out; rintro e v2 ⟨rfl, hb2⟩; have B2 := Lib.hid (keepBelow B1.out hb2); clear hb2 B1)
      | (go_at_call 23; have tok := B2; clear tok; refine (CR.out _ ?_).mono ?_; exact B2.out; rintro e v3 ⟨rfl, hb3⟩; have B3 := Lib.hid (keepBelow B2.out hb3); clear hb3 B2)
      | (go_at_call 24; have tok := B3; clear tok; refine (CK.out _ ?_).mono ?_; exact B3.out; rintro e v4 ⟨rfl, hb4⟩; have B4 := Lib.hid (keepBelow B3.out hb4); clear hb4 B3)
      | (go_at_call 24; have tok := B4; clear tok; refine (CY.out _ ?_).mono ?_; exact B4.out; rintro e v5 ⟨rfl, hb5⟩; have B5 := Lib.hid (keepBelow B4.out hb5); clear hb5 B4)
      | (go_at_call 25; have tok := B5; clear tok; refine (CS.out _ ?_).mono ?_; exact B5.out; rintro e v6 ⟨rfl, hb6⟩; have B6 := Lib.hid (keepBelow B5.out hb6); clear hb6 B5)
      | (go_at_call 26; have tok := B6; clear tok; refine (CX.out _ ?_).mono ?_; exact B6.out; rintro e v7 ⟨rfl, hb7⟩; have B7 := Lib.hid (keepBelow B6.out hb7); clear hb7 B6)
      | (go_at_call 22; have tok := B7; clear tok; refine (CVA.out _ ?_).mono ?_; exact B7.out; rintro e v8 ⟨rfl, hb8⟩; have B8 := Lib.hid (keepBelow B7.out hb8); clear hb8 B7)
      | (go_at_call 27; have tok := B8; clear tok; refine (CP.out _ ?_).mono ?_; exact B8.out; rintro e v9 ⟨rfl, hb9⟩; have B9 := Lib.hid (keepBelow B8.out hb9); clear hb9 B8)
      | (go_at_call 23; have tok := B9; clear tok; refine (CR.out _ ?_).mono ?_; exact B9.out; rintro e v10 ⟨rfl, hb10⟩; have B10 := Lib.hid (keepBelow B9.out hb10); clear hb10 B9)
      | (go_at_call 27; have tok := B10; clear tok; refine (CQ.out _ ?_).mono ?_; exact B10.out; rintro e v11 ⟨rfl, hb11⟩; have B11 := Lib.hid (keepBelow B10.out hb11); clear hb11 B10)
      | (go_at_call 26; have tok := B11; clear tok; refine (CZ.out _ ?_).mono ?_; exact B11.out; rintro e v12 ⟨rfl, hb12⟩; have B12 := Lib.hid (keepBelow B11.out hb12); clear hb12 B11)
      | (go_at_call 25; have tok := B12; clear tok; refine (CM.out _ ?_).mono ?_; exact B12.out; rintro e v13 ⟨rfl, hb13⟩; have B13 := Lib.hid (keepBelow B12.out hb13); clear hb13 B12)
      | (go_at_call 25; have tok := B13; clear tok; refine (CN.out _ ?_).mono ?_; exact B13.out; rintro e v14 ⟨rfl, hb14⟩; have B14 := Lib.hid (keepBelow B13.out hb14); clear hb14 B13))
  go_ret
  exact ⟨rfl, B14.out⟩
set_option maxRecDepth 100000 in
set_option maxHeartbeats 800000 in
theorem keys_vz (x y key : Int) (hx : sec x) (hv : val key) (hy : ¬ sec y) (w : World) (hT : Tabs w) : Calls Tryd.prog 6 #[.int .i64 x, .int .i64 y, .int .i64 key] w fun e w' => e = .returned (.bool true) ∧ Below w.heap.size w w' := by
  have B0 := Lib.hid (Below.refl w.heap.size w)
  have CA := Lib.hid (fun W (hb : Below w.heap.size w W) => awake_any W (hT.keep hb))
  obtain ⟨bv, hbv⟩ : ∃ b, b = decide (val key) := ⟨_, rfl⟩
  have CV := Lib.hid (fun W (_ : Below w.heap.size w W) => valid_any key W)
  have CR := Lib.hid (fun W (_ : Below w.heap.size w W) => rvalid_any key W)
  rw [← hbv] at CV CR
  have CK := Lib.hid (fun W (_ : Below w.heap.size w W) => Key_two x W)
  have CY := Lib.hid (fun W (_ : Below w.heap.size w W) => Key_two y W)
  have CS := Lib.hid (fun W (_ : Below w.heap.size w W) => Shared_two x key W)
  have CX := Lib.hid (fun W (_ : Below w.heap.size w W) => rsecret_two x W)
  obtain ⟨A, hA⟩ : ∃ A, A = pw 4 x := ⟨_, rfl⟩
  have e1 : kv x = A := by rw [hA]; exact if_pos hx
  have e2 : ke x = 0 := if_pos hx
  rw [e1, e2] at CK
  rw [decide_eq_true hx] at CX
  have CVA := Lib.hid (fun W (_ : Below w.heap.size w W) => valid_any A W)
  rw [decide_eq_true (show val (A : Int) by rw [hA]; exact val_key x hx)] at CVA
  have CP := Lib.hid (fun W (_ : Below w.heap.size w W) => rpower_any 4 x mem4 (by have := hx.1; omega) (by have := hx.2; omega) A hA W)
  obtain ⟨S, hS⟩ : ∃ S, S = pw key x := ⟨_, rfl⟩
  have e3 : sv x key = S := by rw [hS]; exact if_pos ⟨hx, hv⟩
  have e4 : se x key = 0 := by unfold se; rw [if_pos hx, if_pos hv]
  have CQ := Lib.hid (fun W (_ : Below w.heap.size w W) => rpower_any key x hv.1 (by have := hx.1; omega) (by have := hx.2; omega) S hS W)
  obtain rfl : bv = true := by rw [hbv]; exact decide_eq_true hv
  clear hS
  rw [e3, e4] at CS
  have CZ := Lib.hid (fun W (_ : Below w.heap.size w W) => rsecret_two y W)
  have e5 : kv y = 0 := if_neg hy
  have e6 : ke y = 11 := if_neg hy
  rw [e5, e6] at CY
  rw [decide_eq_false hy] at CZ
  clear e5 e6
  clear e1 e2 e3 e4 hbv hx hv hy hA hT
  go_enter Tryd.func6, Tryd.ntmps6
  go_wp2_with (first
      | (go_at_call 11; have tok := B0; clear tok; refine (CA.out _ ?_).mono ?_; exact B0.out; rintro e v1 ⟨rfl, hb1⟩; have B1 := Lib.hid (keepBelow B0.out hb1); clear hb1 B0)
      | (go_at_call 22; have tok := B1; clear tok; refine (CV.out _ ?_).mono ?_; exact B1.out; rintro e v2 ⟨rfl, hb2⟩; have B2 := Lib.hid (keepBelow B1.out hb2); clear hb2 B1)
      | (go_at_call 23; have tok := B2; clear tok; refine (CR.out _ ?_).mono ?_; exact B2.out; rintro e v3 ⟨rfl, hb3⟩; have B3 := Lib.hid (keepBelow B2.out hb3); clear hb3 B2)
      | (go_at_call 24; have tok := B3; clear tok; refine (CK.out _ ?_).mono ?_; exact B3.out; rintro e v4 ⟨rfl, hb4⟩; have B4 := Lib.hid (keepBelow B3.out hb4); clear hb4 B3)
      | (go_at_call 24; have tok := B4; clear tok; refine (CY.out _ ?_).mono ?_; exact B4.out; rintro e v5 ⟨rfl, hb5⟩; have B5 := Lib.hid (keepBelow B4.out hb5); clear hb5 B4)
      | (go_at_call 25; have tok := B5; clear tok; refine (CS.out _ ?_).mono ?_; exact B5.out; rintro e v6 ⟨rfl, hb6⟩; have B6 := Lib.hid (keepBelow B5.out hb6); clear hb6 B5)
      | (go_at_call 26; have tok := B6; clear tok; refine (CX.out _ ?_).mono ?_; exact B6.out; rintro e v7 ⟨rfl, hb7⟩; have B7 := Lib.hid (keepBelow B6.out hb7); clear hb7 B6)
      | (go_at_call 22; have tok := B7; clear tok; refine (CVA.out _ ?_).mono ?_; exact B7.out; rintro e v8 ⟨rfl, hb8⟩; have B8 := Lib.hid (keepBelow B7.out hb8); clear hb8 B7)
      | (go_at_call 27; have tok := B8; clear tok; refine (CP.out _ ?_).mono ?_; exact B8.out; rintro e v9 ⟨rfl, hb9⟩; have B9 := Lib.hid (keepBelow B8.out hb9); clear hb9 B8)
      | (go_at_call 23; have tok := B9; clear tok; refine (CR.out _ ?_).mono ?_; exact B9.out; rintro e v10 ⟨rfl, hb10⟩; have B10 := Lib.hid (keepBelow B9.out hb10); clear hb10 B9)
      | (go_at_call 27; have tok := B10; clear tok; refine (CQ.out _ ?_).mono ?_; exact B10.out; rintro e v11 ⟨rfl, hb11⟩; have B11 := Lib.hid (keepBelow B10.out hb11); clear hb11 B10)
      | (go_at_call 26; have tok := B11; clear tok; refine (CZ.out _ ?_).mono ?_; exact B11.out; rintro e v12 ⟨rfl, hb12⟩; have B12 := Lib.hid (keepBelow B11.out hb12); clear hb12 B11))
  go_ret
  exact ⟨rfl, B12.out⟩
set_option maxRecDepth 100000 in
set_option maxHeartbeats 800000 in
theorem keys_ny (x y key : Int) (hx : sec x) (hv : ¬ val key) (hy : sec y) (w : World) (hT : Tabs w) : Calls Tryd.prog 6 #[.int .i64 x, .int .i64 y, .int .i64 key] w fun e w' => e = .returned (.bool true) ∧ Below w.heap.size w w' := by
  have B0 := Lib.hid (Below.refl w.heap.size w)
  have CA := Lib.hid (fun W (hb : Below w.heap.size w W) => awake_any W (hT.keep hb))
  obtain ⟨bv, hbv⟩ : ∃ b, b = decide (val key) := ⟨_, rfl⟩
  have CV := Lib.hid (fun W (_ : Below w.heap.size w W) => valid_any key W)
  have CR := Lib.hid (fun W (_ : Below w.heap.size w W) => rvalid_any key W)
  rw [← hbv] at CV CR
  have CK := Lib.hid (fun W (_ : Below w.heap.size w W) => Key_two x W)
  have CY := Lib.hid (fun W (_ : Below w.heap.size w W) => Key_two y W)
  have CS := Lib.hid (fun W (_ : Below w.heap.size w W) => Shared_two x key W)
  have CX := Lib.hid (fun W (_ : Below w.heap.size w W) => rsecret_two x W)
  obtain ⟨A, hA⟩ : ∃ A, A = pw 4 x := ⟨_, rfl⟩
  have e1 : kv x = A := by rw [hA]; exact if_pos hx
  have e2 : ke x = 0 := if_pos hx
  rw [e1, e2] at CK
  rw [decide_eq_true hx] at CX
  have CVA := Lib.hid (fun W (_ : Below w.heap.size w W) => valid_any A W)
  rw [decide_eq_true (show val (A : Int) by rw [hA]; exact val_key x hx)] at CVA
  have CP := Lib.hid (fun W (_ : Below w.heap.size w W) => rpower_any 4 x mem4 (by have := hx.1; omega) (by have := hx.2; omega) A hA W)
  have e3 : sv x key = 0 := if_neg (fun h => hv h.2)
  have e4 : se x key = 26 := by unfold se; rw [if_pos hx, if_neg hv]
  obtain rfl : bv = false := by rw [hbv]; exact decide_eq_false hv
  rw [e3, e4] at CS
  have CZ := Lib.hid (fun W (_ : Below w.heap.size w W) => rsecret_two y W)
  obtain ⟨Bk, hB⟩ : ∃ B, B = pw 4 y := ⟨_, rfl⟩
  have e5 : kv y = Bk := by rw [hB]; exact if_pos hy
  have e6 : ke y = 0 := if_pos hy
  rw [e5, e6] at CY
  rw [decide_eq_true hy] at CZ
  obtain ⟨M, hM⟩ : ∃ M, M = pw Bk x := ⟨_, rfl⟩
  have hvb : val (Bk : Int) := by rw [hB]; exact val_key y hy
  have hva : val (A : Int) := by rw [hA]; exact val_key x hx
  have CM := Lib.hid (fun W (_ : Below w.heap.size w W) => Shared_two x Bk W)
  have CN := Lib.hid (fun W (_ : Below w.heap.size w W) => Shared_two y A W)
  have e7 : sv x Bk = M := by rw [hM]; exact if_pos ⟨hx, hvb⟩
  have e8 : se x Bk = 0 := by unfold se; rw [if_pos hx, if_pos hvb]
  have e9 : sv y A = M := by rw [hM, hB, shared_eq, ← hA]; exact if_pos ⟨hy, hva⟩
  have e10 : se y A = 0 := by unfold se; rw [if_pos hy, if_pos hva]
  rw [e7, e8] at CM
  rw [e9, e10] at CN
  clear e5 e6 e7 e8 e9 e10 hvb hva hM hB
  clear e1 e2 e3 e4 hbv hx hv hy hA hT
  go_enter Tryd.func6, Tryd.ntmps6
  go_wp2_with (first
      | (go_at_call 11; have tok := B0; clear tok; refine (CA.out _ ?_).mono ?_; exact B0.out; rintro e v1 ⟨rfl, hb1⟩; have B1 := Lib.hid (keepBelow B0.out hb1); clear hb1 B0)
      | (go_at_call 22; have tok := B1; clear tok; refine (CV.out _ ?_).mono ?_; exact B1.out; rintro e v2 ⟨rfl, hb2⟩; have B2 := Lib.hid (keepBelow B1.out hb2); clear hb2 B1)
      | (go_at_call 23; have tok := B2; clear tok; refine (CR.out _ ?_).mono ?_; exact B2.out; rintro e v3 ⟨rfl, hb3⟩; have B3 := Lib.hid (keepBelow B2.out hb3); clear hb3 B2)
      | (go_at_call 24; have tok := B3; clear tok; refine (CK.out _ ?_).mono ?_; exact B3.out; rintro e v4 ⟨rfl, hb4⟩; have B4 := Lib.hid (keepBelow B3.out hb4); clear hb4 B3)
      | (go_at_call 24; have tok := B4; clear tok; refine (CY.out _ ?_).mono ?_; exact B4.out; rintro e v5 ⟨rfl, hb5⟩; have B5 := Lib.hid (keepBelow B4.out hb5); clear hb5 B4)
      | (go_at_call 25; have tok := B5; clear tok; refine (CS.out _ ?_).mono ?_; exact B5.out; rintro e v6 ⟨rfl, hb6⟩; have B6 := Lib.hid (keepBelow B5.out hb6); clear hb6 B5)
      | (go_at_call 26; have tok := B6; clear tok; refine (CX.out _ ?_).mono ?_; exact B6.out; rintro e v7 ⟨rfl, hb7⟩; have B7 := Lib.hid (keepBelow B6.out hb7); clear hb7 B6)
      | (go_at_call 22; have tok := B7; clear tok; refine (CVA.out _ ?_).mono ?_; exact B7.out; rintro e v8 ⟨rfl, hb8⟩; have B8 := Lib.hid (keepBelow B7.out hb8); clear hb8 B7)
      | (go_at_call 27; have tok := B8; clear tok; refine (CP.out _ ?_).mono ?_; exact B8.out; rintro e v9 ⟨rfl, hb9⟩; have B9 := Lib.hid (keepBelow B8.out hb9); clear hb9 B8)
      | (go_at_call 23; have tok := B9; clear tok; refine (CR.out _ ?_).mono ?_; exact B9.out; rintro e v10 ⟨rfl, hb10⟩; have B10 := Lib.hid (keepBelow B9.out hb10); clear hb10 B9)
      | (go_at_call 26; have tok := B10; clear tok; refine (CZ.out _ ?_).mono ?_; exact B10.out; rintro e v11 ⟨rfl, hb11⟩; have B11 := Lib.hid (keepBelow B10.out hb11); clear hb11 B10)
      | (go_at_call 25; have tok := B11; clear tok; refine (CM.out _ ?_).mono ?_; exact B11.out; rintro e v12 ⟨rfl, hb12⟩; have B12 := Lib.hid (keepBelow B11.out hb12); clear hb12 B11)
      | (go_at_call 25; have tok := B12; clear tok; refine (CN.out _ ?_).mono ?_; exact B12.out; rintro e v13 ⟨rfl, hb13⟩; have B13 := Lib.hid (keepBelow B12.out hb13); clear hb13 B12))
  go_ret
  exact ⟨rfl, B13.out⟩
set_option maxRecDepth 100000 in
set_option maxHeartbeats 800000 in
theorem keys_nz (x y key : Int) (hx : sec x) (hv : ¬ val key) (hy : ¬ sec y) (w : World) (hT : Tabs w) : Calls Tryd.prog 6 #[.int .i64 x, .int .i64 y, .int .i64 key] w fun e w' => e = .returned (.bool true) ∧ Below w.heap.size w w' := by
  have B0 := Lib.hid (Below.refl w.heap.size w)
  have CA := Lib.hid (fun W (hb : Below w.heap.size w W) => awake_any W (hT.keep hb))
  obtain ⟨bv, hbv⟩ : ∃ b, b = decide (val key) := ⟨_, rfl⟩
  have CV := Lib.hid (fun W (_ : Below w.heap.size w W) => valid_any key W)
  have CR := Lib.hid (fun W (_ : Below w.heap.size w W) => rvalid_any key W)
  rw [← hbv] at CV CR
  have CK := Lib.hid (fun W (_ : Below w.heap.size w W) => Key_two x W)
  have CY := Lib.hid (fun W (_ : Below w.heap.size w W) => Key_two y W)
  have CS := Lib.hid (fun W (_ : Below w.heap.size w W) => Shared_two x key W)
  have CX := Lib.hid (fun W (_ : Below w.heap.size w W) => rsecret_two x W)
  obtain ⟨A, hA⟩ : ∃ A, A = pw 4 x := ⟨_, rfl⟩
  have e1 : kv x = A := by rw [hA]; exact if_pos hx
  have e2 : ke x = 0 := if_pos hx
  rw [e1, e2] at CK
  rw [decide_eq_true hx] at CX
  have CVA := Lib.hid (fun W (_ : Below w.heap.size w W) => valid_any A W)
  rw [decide_eq_true (show val (A : Int) by rw [hA]; exact val_key x hx)] at CVA
  have CP := Lib.hid (fun W (_ : Below w.heap.size w W) => rpower_any 4 x mem4 (by have := hx.1; omega) (by have := hx.2; omega) A hA W)
  have e3 : sv x key = 0 := if_neg (fun h => hv h.2)
  have e4 : se x key = 26 := by unfold se; rw [if_pos hx, if_neg hv]
  obtain rfl : bv = false := by rw [hbv]; exact decide_eq_false hv
  rw [e3, e4] at CS
  have CZ := Lib.hid (fun W (_ : Below w.heap.size w W) => rsecret_two y W)
  have e5 : kv y = 0 := if_neg hy
  have e6 : ke y = 11 := if_neg hy
  rw [e5, e6] at CY
  rw [decide_eq_false hy] at CZ
  clear e5 e6
  clear e1 e2 e3 e4 hbv hx hv hy hA hT
  go_enter Tryd.func6, Tryd.ntmps6
  go_wp2_with (first
      | (go_at_call 11; have tok := B0; clear tok; refine (CA.out _ ?_).mono ?_; exact B0.out; rintro e v1 ⟨rfl, hb1⟩; have B1 := Lib.hid (keepBelow B0.out hb1); clear hb1 B0)
      | (go_at_call 22; have tok := B1; clear tok; refine (CV.out _ ?_).mono ?_; exact B1.out; rintro e v2 ⟨rfl, hb2⟩; have B2 := Lib.hid (keepBelow B1.out hb2); clear hb2 B1)
      | (go_at_call 23; have tok := B2; clear tok; refine (CR.out _ ?_).mono ?_; exact B2.out; rintro e v3 ⟨rfl, hb3⟩; have B3 := Lib.hid (keepBelow B2.out hb3); clear hb3 B2)
      | (go_at_call 24; have tok := B3; clear tok; refine (CK.out _ ?_).mono ?_; exact B3.out; rintro e v4 ⟨rfl, hb4⟩; have B4 := Lib.hid (keepBelow B3.out hb4); clear hb4 B3)
      | (go_at_call 24; have tok := B4; clear tok; refine (CY.out _ ?_).mono ?_; exact B4.out; rintro e v5 ⟨rfl, hb5⟩; have B5 := Lib.hid (keepBelow B4.out hb5); clear hb5 B4)
      | (go_at_call 25; have tok := B5; clear tok; refine (CS.out _ ?_).mono ?_; exact B5.out; rintro e v6 ⟨rfl, hb6⟩; have B6 := Lib.hid (keepBelow B5.out hb6); clear hb6 B5)
      | (go_at_call 26; have tok := B6; clear tok; refine (CX.out _ ?_).mono ?_; exact B6.out; rintro e v7 ⟨rfl, hb7⟩; have B7 := Lib.hid (keepBelow B6.out hb7); clear hb7 B6)
      | (go_at_call 22; have tok := B7; clear tok; refine (CVA.out _ ?_).mono ?_; exact B7.out; rintro e v8 ⟨rfl, hb8⟩; have B8 := Lib.hid (keepBelow B7.out hb8); clear hb8 B7)
      | (go_at_call 27; have tok := B8; clear tok; refine (CP.out _ ?_).mono ?_; exact B8.out; rintro e v9 ⟨rfl, hb9⟩; have B9 := Lib.hid (keepBelow B8.out hb9); clear hb9 B8)
      | (go_at_call 23; have tok := B9; clear tok; refine (CR.out _ ?_).mono ?_; exact B9.out; rintro e v10 ⟨rfl, hb10⟩; have B10 := Lib.hid (keepBelow B9.out hb10); clear hb10 B9)
      | (go_at_call 26; have tok := B10; clear tok; refine (CZ.out _ ?_).mono ?_; exact B10.out; rintro e v11 ⟨rfl, hb11⟩; have B11 := Lib.hid (keepBelow B10.out hb11); clear hb11 B10))
  go_ret
  exact ⟨rfl, B11.out⟩
theorem keys_walk (x y key : Int) (w : World) (hT : Tabs w) : Calls Tryd.prog 6 #[.int .i64 x, .int .i64 y, .int .i64 key] w fun e w' => e = .returned (.bool true) ∧ Below w.heap.size w w' := by
  by_cases hx : sec x
  · by_cases hv : val key
    · by_cases hy : sec y
      · exact keys_vy x y key hx hv hy w hT
      · exact keys_vz x y key hx hv hy w hT
    · by_cases hy : sec y
      · exact keys_ny x y key hx hv hy w hT
      · exact keys_nz x y key hx hv hy w hT
  · exact keys_no x y key hx w hT
end Go.Proofs.YtklikkmnemooeaaDoor
