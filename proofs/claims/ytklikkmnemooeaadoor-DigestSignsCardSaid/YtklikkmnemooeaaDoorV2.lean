/- The reference's Verify (func 44) and Sign (func 42). -/
import Derived.Test.YtklikkmnemooeaaDoorV1
import Derived.Test.YtklikkmnemooeaaDoorRI
namespace Go.Proofs.YtklikkmnemooeaaDoor
open Go.RowKit
theorem pw_mem (a n : Int) (ha : mem a) : mem (pw a n) := by
  have h := NT.pow_pos_mod NT.prime_prime (by decide) (NT.not_dvd (show 1 ≤ a.toNat by have := ha.1; omega) (show a.toNat < 2305843009213691579 by have := ha.2; omega)) n.toNat
  have e : pw a n = a.toNat ^ n.toNat % 2305843009213691579 := rfl
  rw [← e] at h
  exact ⟨by omega, by omega⟩
set_option maxRecDepth 100000 in
set_option maxHeartbeats 800000 in
theorem rVerify_no (key E S : Int) (h : ¬ (val key ∧ inq E ∧ inq S)) (s : ByteArray) (w : World) :
    Calls Tryd.prog 44 #[.int .i64 key, .string s, .int .i64 E, .int .i64 S] w fun e w' => e = .returned (.bool (decide (vf key s.data.toList E S))) ∧ Below w.heap.size w w' := by
  have HV := Lib.hid (show decide (vf key s.data.toList E S) = false from decide_eq_false fun hv => h ⟨hv.1, hv.2.1, hv.2.2.1⟩)
  rw [HV.out]
  have CV := Lib.hid (fun W => rvalid_any key W)
  by_cases hk : val key
  · rw [decide_eq_true hk] at CV
    by_cases h1 : E < 0
    · clear h hk
      go_enter Tryd.func44, Tryd.ntmps44
      go_wp2_with (go_at_call 23; refine (CV.out _).mono ?_; rintro e v1 ⟨rfl, hb1⟩; have B1 := Lib.hid hb1; clear hb1)
      go_ret
      exact ⟨rfl, B1.out⟩
    · by_cases h2 : 1152921504606845789 ≤ E
      · clear h hk
        go_enter Tryd.func44, Tryd.ntmps44
        go_wp2_with (go_at_call 23; refine (CV.out _).mono ?_; rintro e v1 ⟨rfl, hb1⟩; have B1 := Lib.hid hb1; clear hb1)
        go_ret
        exact ⟨rfl, B1.out⟩
      · by_cases h3 : S < 0
        · clear h hk
          go_enter Tryd.func44, Tryd.ntmps44
          go_wp2_with (go_at_call 23; refine (CV.out _).mono ?_; rintro e v1 ⟨rfl, hb1⟩; have B1 := Lib.hid hb1; clear hb1)
          go_ret
          exact ⟨rfl, B1.out⟩
        · have h4 : 1152921504606845789 ≤ S := by
            by_cases hs : 1152921504606845789 ≤ S
            · exact hs
            · exact absurd ⟨hk, ⟨by omega, by omega⟩, ⟨by omega, by omega⟩⟩ h
          clear h hk
          go_enter Tryd.func44, Tryd.ntmps44
          go_wp2_with (go_at_call 23; refine (CV.out _).mono ?_; rintro e v1 ⟨rfl, hb1⟩; have B1 := Lib.hid hb1; clear hb1)
          go_ret
          exact ⟨rfl, B1.out⟩
  · rw [decide_eq_false hk] at CV
    clear h hk
    go_enter Tryd.func44, Tryd.ntmps44
    go_wp2_with (go_at_call 23; refine (CV.out _).mono ?_; rintro e v1 ⟨rfl, hb1⟩; have B1 := Lib.hid hb1; clear hb1)
    go_ret
    exact ⟨rfl, B1.out⟩
theorem inv_at (a p2 : Nat) (hp2 : p2 = P2) (ha : a < 2305843009213691579) (R : Nat) (hR : R = a ^ p2 % 2305843009213691579) (w : World) :
    Calls Tryd.prog 65 #[.int .i64 a] w fun e w' => e = .returned (.int .i64 R) ∧ Below w.heap.size w w' := Inverse65_any a ha R (by rw [hR, hp2]; rfl) w
set_option maxRecDepth 100000 in
set_option maxHeartbeats 800000 in
theorem rVerify_in (key E S : Int) (hk : val key) (hE : inq E) (hS : inq S) (s : ByteArray) (hs : s.size < 144115188075855872) (w : World) :
    Calls Tryd.prog 44 #[.int .i64 key, .string s, .int .i64 E, .int .i64 S] w fun e w' => e = .returned (.bool (decide (vf key s.data.toList E S))) ∧ Below w.heap.size w w' := by
  have CV := Lib.hid (fun W => rvalid_any key W)
  rw [decide_eq_true hk] at CV
  obtain ⟨p2, hp2⟩ : ∃ p, p = P2 := ⟨_, rfl⟩
  obtain ⟨A1, hA1⟩ : ∃ A, A = pw 4 S := ⟨_, rfl⟩
  obtain ⟨A2, hA2⟩ : ∃ A, A = pw key E := ⟨_, rfl⟩
  obtain ⟨A3, hA3⟩ : ∃ A, A = A2 ^ p2 % 2305843009213691579 := ⟨_, rfl⟩
  obtain ⟨R, hR⟩ : ∃ A, A = A1 * A3 % 2305843009213691579 := ⟨_, rfl⟩
  have l1 : A1 < 2305843009213691579 := by rw [hA1]; exact Nat.mod_lt _ (by decide)
  have l2 : A2 < 2305843009213691579 := by rw [hA2]; exact Nat.mod_lt _ (by decide)
  have l3 : A3 < 2305843009213691579 := by rw [hA3]; exact Nat.mod_lt _ (by decide)
  have hRo : rOf key E S = R := by rw [hR, hA1, hA3, hA2, hp2]; rfl
  obtain ⟨M, hM⟩ : ∃ M, M = markOf R s.data.toList := ⟨_, rfl⟩
  have HV : Hid (decide (vf key s.data.toList E S) = ((M : Int) == E)) := by
    refine Lib.hid ?_
    rw [hM, ← hRo]
    by_cases he : ((markOf (rOf key E S) s.data.toList : Nat) : Int) = E
    · rw [decide_eq_true ⟨hk, hE, hS, he⟩, beq_iff_eq.2 he]
    · rw [decide_eq_false fun h => he h.2.2.2, beq_eq_false_iff_ne.2 he]
  rw [HV.out]
  have C1 := Lib.hid (fun W => rpower_any 4 S mem4 hS.1 (by have := hS.2; omega) A1 hA1 W)
  have C2 := Lib.hid (fun W => rpower_any key E hk.1 hE.1 (by have := hE.2; omega) A2 hA2 W)
  have C3 := Lib.hid (fun W => inv_at A2 p2 hp2 l2 A3 hA3 W)
  have C4 := Lib.hid (fun W => rtimes_told A1 A3 R l1 l3 hR W)
  have CM := Lib.hid (fun W => (number_any R s hs W).mono (fun e w' h => by rw [← hM] at h; exact h))
  have q1 : ¬ E < 0 := by have := hE.1; omega
  have q2 : E < 1152921504606845789 := hE.2
  have q3 : ¬ S < 0 := by have := hS.1; omega
  have q4 : S < 1152921504606845789 := hS.2
  clear hA1 hA2 hA3 hR hRo hM hk hs l1 l2 l3 hE hS hp2
  generalize (A1 : Int) = a1 at *
  generalize (A2 : Int) = a2 at *
  generalize (A3 : Int) = a3 at *
  generalize (R : Int) = r at *
  generalize (M : Int) = m at *
  go_enter Tryd.func44, Tryd.ntmps44
  go_wp2_with (first
    | (go_at_call 23; refine (CV.out _).mono ?_; rintro e v1 ⟨rfl, hb1⟩; have B1 := Lib.hid hb1; clear hb1)
    | (go_at_call 27; have tok := B2; clear tok; refine (C2.out _).mono ?_; rintro e v3 ⟨rfl, hb3⟩; have B3 := Lib.hid (keepBelow B2.out hb3); clear hb3)
    | (go_at_call 27; have tok := B1; clear tok; refine (C1.out _).mono ?_; rintro e v2 ⟨rfl, hb2⟩; have B2 := Lib.hid (keepBelow B1.out hb2); clear hb2)
    | (go_at_call 65; refine (C3.out _).mono ?_; rintro e v4 ⟨rfl, hb4⟩; have B4 := Lib.hid (keepBelow B3.out hb4); clear hb4)
    | (go_at_call 32; refine (C4.out _).mono ?_; rintro e v5 ⟨rfl, hb5⟩; have B5 := Lib.hid (keepBelow B4.out hb5); clear hb5)
    | (go_at_call 64; refine (CM.out _).mono ?_; rintro e v6 ⟨rfl, hb6⟩; have B6 := Lib.hid (keepBelow B5.out hb6); clear hb6))
  go_ret
  exact ⟨rfl, B6.out⟩
theorem rVerify_any (key E S : Int) (s : ByteArray) (hs : s.size < 144115188075855872) (w : World) :
    Calls Tryd.prog 44 #[.int .i64 key, .string s, .int .i64 E, .int .i64 S] w fun e w' => e = .returned (.bool (decide (vf key s.data.toList E S))) ∧ Below w.heap.size w w' := by
  by_cases h : val key ∧ inq E ∧ inq S
  · exact rVerify_in key E S h.1 h.2.1 h.2.2 s hs w
  · exact rVerify_no key E S h s w
set_option maxRecDepth 100000 in
set_option maxHeartbeats 800000 in
theorem rSign_any (x n : Int) (hx : sec x) (hn : sec n) (s : ByteArray) (hs : s.size < 144115188075855872) (w : World) (E S : Nat) (hE : E = markOf (pw 4 n) s.data.toList) (hS : S = (n.toNat + x.toNat * E % 1152921504606845789) % 1152921504606845789) :
    Calls Tryd.prog 42 #[.int .i64 x, .int .i64 n, .string s] w fun e w' => e = .returned (.tuple #[.int .i64 E, .int .i64 S]) ∧ Below w.heap.size w w' := by
  obtain ⟨R, hR⟩ : ∃ R, R = pw 4 n := ⟨_, rfl⟩
  have CP := Lib.hid (fun W => rpower_any 4 n mem4 (by have := hn.1; omega) (by have := hn.2; omega) R hR W)
  have CM := Lib.hid (fun W => (number_any R s hs W).mono (fun e w' h => by rw [hR, ← hE] at h; exact h))
  have hEl : E < 1152921504606845789 := by rw [hE]; exact markOf_lt _ _
  obtain ⟨X, hX⟩ : ∃ X, X = x.toNat * E % 1152921504606845789 := ⟨_, rfl⟩
  have hXl : X < 1152921504606845789 := by rw [hX]; exact Nat.mod_lt _ (by decide)
  have CT : Hid (∀ W, Calls Tryd.prog 59 #[.int .i64 x, .int .i64 E, .int .i64 1152921504606845789] W fun e w' => e = .returned (.int .i64 X) ∧ Below W.heap.size W w') := by
    refine Lib.hid (fun W => ?_)
    have := times_told x.toNat E 1152921504606845789 X (by have := hx.1; have := hx.2; omega) (by decide) (by omega) hX W
    rw [show ((x.toNat : Nat) : Int) = x by have := hx.1; omega] at this
    exact this
  rw [← hX] at hS
  have f1 : IntKind.i64.wrap (n + (X : Int)) = n + (X : Int) := IntWalk.i64_in _ (by have := hn.1; have := hn.2; omega)
  have f2 : Int.tmod (n + (X : Int)) 1152921504606845789 = (S : Int) := by
    rw [show n + (X : Int) = ((n.toNat + X : Nat) : Int) by have := hn.1; omega, hS]; exact (Int.ofNat_tmod _ 1152921504606845789).symm
  have f3 : IntKind.i64.wrap (S : Int) = S := IntWalk.i64_in _ (by have : S < 1152921504606845789 := by { rw [hS]; exact Nat.mod_lt _ (by decide) }; omega)
  clear hS hX hXl hE hEl hR hx hn hs
  go_enter Tryd.func42, Tryd.ntmps42
  go_wp2_with (first
    | (go_at_call 27; refine (CP.out _).mono ?_; rintro e v1 ⟨rfl, hb1⟩; have B1 := Lib.hid hb1; clear hb1)
    | (go_at_call 64; refine (CM.out _).mono ?_; rintro e v2 ⟨rfl, hb2⟩; have B2 := Lib.hid (keepBelow B1.out hb2); clear hb2)
    | (go_at_call 59; refine (CT.out _).mono ?_; rintro e v3 ⟨rfl, hb3⟩; have B3 := Lib.hid (keepBelow B2.out hb3); clear hb3))
  go_ret2
  exact ⟨rfl, B3.out⟩
end Go.Proofs.YtklikkmnemooeaaDoor
