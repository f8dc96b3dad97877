/- Verify (func 43): whether a signature belongs to a key and a message. -/
import Derived.Test.YtklikkmnemooeaaDoorQ1
import Derived.Test.YtklikkmnemooeaaDoorDJ
import Derived.Deep.RegionHeld3
import Derived.BigQuiet
namespace Go.Proofs.YtklikkmnemooeaaDoor
open Go.RowKit
def inq (x : Int) : Prop := 0 ≤ x ∧ x < 1152921504606845789
instance (x : Int) : Decidable (inq x) := by unfold inq; exact inferInstance
def P2 : Nat := 2305843009213691577
/-- the number that a signature's text is marked with -/
def rOf (key E S : Int) : Nat := pw 4 S * (pw key E ^ P2 % 2305843009213691579) % 2305843009213691579
theorem rOf_lt (key E S : Int) : rOf key E S < 2305843009213691579 := Nat.mod_lt _ (by decide)
/-- whether the signature (E, S) belongs to the key and the message -/
def vf (key : Int) (s : List UInt8) (E S : Int) : Prop := val key ∧ inq E ∧ inq S ∧ ((markOf (rOf key E S) s : Nat) : Int) = E
instance (key : Int) (s : List UInt8) (E S : Int) : Decidable (vf key s E S) := by unfold vf; exact inferInstance
theorem pw_nat (k n : Nat) : pw (k : Int) (n : Int) = k ^ n % 2305843009213691579 := rfl
set_option maxRecDepth 100000 in
set_option maxHeartbeats 800000 in
theorem Verify_no (key E S : Int) (h : ¬ (val key ∧ inq E ∧ inq S)) (s : ByteArray) (w : World) :
    Calls Tryd.prog 43 #[.int .i64 key, .string s, .agg #[.int .i64 E, .int .i64 S]] w fun e w' => e = .returned (.bool (decide (vf key s.data.toList E S))) ∧ Below w.heap.size w w' := by
  have HV := Lib.hid (show decide (vf key s.data.toList E S) = false from decide_eq_false fun hv => h ⟨hv.1, hv.2.1, hv.2.2.1⟩)
  rw [HV.out]
  have CV := Lib.hid (fun W => valid_any key W)
  by_cases hk : val key
  · rw [decide_eq_true hk] at CV
    by_cases h1 : E < 0
    · clear h hk
      go_enter Tryd.func43, Tryd.ntmps43
      go_wp2_with (go_at_call 22; refine (CV.out _).mono ?_; rintro e v1 ⟨rfl, hb1⟩; have K1 := Lib.hid (keepBlk hb1 (Blk.new w 58 [.int .i64 E, .int .i64 S])); have B1 := Lib.hid (keepBelow ((Below.refl _ _).alloc (Nat.le_refl _) _) hb1); clear hb1; have z0 : v1.cell? ⟨w.heap.size, 0, none⟩ = some (.int .i64 E) := K1.out.cell 0; have z1 : v1.cell? ⟨w.heap.size, 1, none⟩ = some (.int .i64 S) := K1.out.cell 1)
      go_ret
      exact ⟨rfl, B1.out⟩
    · by_cases h2 : 1152921504606845789 ≤ E
      · clear h hk
        go_enter Tryd.func43, Tryd.ntmps43
        go_wp2_with (go_at_call 22; refine (CV.out _).mono ?_; rintro e v1 ⟨rfl, hb1⟩; have K1 := Lib.hid (keepBlk hb1 (Blk.new w 58 [.int .i64 E, .int .i64 S])); have B1 := Lib.hid (keepBelow ((Below.refl _ _).alloc (Nat.le_refl _) _) hb1); clear hb1; have z0 : v1.cell? ⟨w.heap.size, 0, none⟩ = some (.int .i64 E) := K1.out.cell 0; have z1 : v1.cell? ⟨w.heap.size, 1, none⟩ = some (.int .i64 S) := K1.out.cell 1)
        go_ret
        exact ⟨rfl, B1.out⟩
      · by_cases h3 : S < 0
        · clear h hk
          go_enter Tryd.func43, Tryd.ntmps43
          go_wp2_with (go_at_call 22; refine (CV.out _).mono ?_; rintro e v1 ⟨rfl, hb1⟩; have K1 := Lib.hid (keepBlk hb1 (Blk.new w 58 [.int .i64 E, .int .i64 S])); have B1 := Lib.hid (keepBelow ((Below.refl _ _).alloc (Nat.le_refl _) _) hb1); clear hb1; have z0 : v1.cell? ⟨w.heap.size, 0, none⟩ = some (.int .i64 E) := K1.out.cell 0; have z1 : v1.cell? ⟨w.heap.size, 1, none⟩ = some (.int .i64 S) := K1.out.cell 1)
          go_ret
          exact ⟨rfl, B1.out⟩
        · have h4 : 1152921504606845789 ≤ S := by
            by_cases hs : 1152921504606845789 ≤ S
            · exact hs
            · exact absurd ⟨hk, ⟨by omega, by omega⟩, ⟨by omega, by omega⟩⟩ h
          clear h hk
          go_enter Tryd.func43, Tryd.ntmps43
          go_wp2_with (go_at_call 22; refine (CV.out _).mono ?_; rintro e v1 ⟨rfl, hb1⟩; have K1 := Lib.hid (keepBlk hb1 (Blk.new w 58 [.int .i64 E, .int .i64 S])); have B1 := Lib.hid (keepBelow ((Below.refl _ _).alloc (Nat.le_refl _) _) hb1); clear hb1; have z0 : v1.cell? ⟨w.heap.size, 0, none⟩ = some (.int .i64 E) := K1.out.cell 0; have z1 : v1.cell? ⟨w.heap.size, 1, none⟩ = some (.int .i64 S) := K1.out.cell 1)
          go_ret
          exact ⟨rfl, B1.out⟩
  · rw [decide_eq_false hk] at CV
    clear h hk
    go_enter Tryd.func43, Tryd.ntmps43
    go_wp2_with (go_at_call 22; refine (CV.out _).mono ?_; rintro e v1 ⟨rfl, hb1⟩; have K1 := Lib.hid (keepBlk hb1 (Blk.new w 58 [.int .i64 E, .int .i64 S])); have B1 := Lib.hid (keepBelow ((Below.refl _ _).alloc (Nat.le_refl _) _) hb1); clear hb1)
    go_ret
    exact ⟨rfl, B1.out⟩
set_option maxRecDepth 100000 in
set_option maxHeartbeats 800000 in
theorem Verify_in (key E S : Int) (hk : val key) (hE : inq E) (hS : inq S) (s : ByteArray) (hs : s.size < 288230376151711744) (w : World) (hT : Tabs w) :
    Calls Tryd.prog 43 #[.int .i64 key, .string s, .agg #[.int .i64 E, .int .i64 S]] w fun e w' => e = .returned (.bool (decide (vf key s.data.toList E S))) ∧ Below w.heap.size w w' := by
  have HT := Lib.hid hT
  have CV := Lib.hid (fun W => valid_any key W)
  rw [decide_eq_true hk] at CV
  obtain ⟨p2, hp2⟩ : ∃ p, p = P2 := ⟨_, rfl⟩
  obtain ⟨A1, hA1⟩ : ∃ A, A = pw 4 S := ⟨_, rfl⟩
  obtain ⟨A2, hA2⟩ : ∃ A, A = pw key E := ⟨_, rfl⟩
  obtain ⟨A3, hA3⟩ : ∃ A, A = A2 ^ p2 % 2305843009213691579 := ⟨_, rfl⟩
  obtain ⟨R, hR⟩ : ∃ A, A = A1 * A3 % 2305843009213691579 := ⟨_, rfl⟩
  have l1 : A1 < 2305843009213691579 := by rw [hA1]; exact Nat.mod_lt _ (by decide)
  have l2 : A2 < 2305843009213691579 := by rw [hA2]; exact Nat.mod_lt _ (by decide)
  have l3 : A3 < 2305843009213691579 := by rw [hA3]; exact Nat.mod_lt _ (by decide)
  have l4 : R < 2305843009213691579 := by rw [hR]; exact Nat.mod_lt _ (by decide)
  have hRo : rOf key E S = R := by rw [hR, hA1, hA3, hA2, hp2]; rfl
  obtain ⟨M, hM⟩ : ∃ M, M = markOf R s.data.toList := ⟨_, rfl⟩
  have hMl : M < 1152921504606845789 := by rw [hM]; exact markOf_lt _ _
  have HV : Hid (decide (vf key s.data.toList E S) = ((M : Int) == E)) := by
    refine Lib.hid ?_
    rw [hM, ← hRo]
    by_cases he : ((markOf (rOf key E S) s.data.toList : Nat) : Int) = E
    · rw [decide_eq_true ⟨hk, hE, hS, he⟩, beq_iff_eq.2 he]
    · rw [decide_eq_false fun h => he h.2.2.2, beq_eq_false_iff_ne.2 he]
  rw [HV.out]
  have C1 := Lib.hid (fun W => Qt.power_any 4 S mem4 hS.1 (by have := hS.2; omega) A1 hA1 W)
  have C2 := Lib.hid (fun W => Qt.power_any key E hk.1 hE.1 (by have := hE.2; omega) A2 hA2 W)
  have C3 : Hid (∀ W, Calls Tryd.prog 56 #[.int .i64 A2, .int .i64 2305843009213691577] W fun e w' => e = .returned (.int .i64 A3) ∧ (∃ n, w' = W.drewN n)) := Lib.hid (fun W => by
    have := Qt.power_told A2 p2 A3 l2 (by rw [hp2]; decide) hA3 W
    rw [hp2] at this
    exact this)
  have C4 := Lib.hid (fun W => Qt.product_told A1 A3 R l1 l3 hR W)
  have CM := Lib.hid (fun W (hW : Tabs W) => (mark_any R (by omega) s hs W hW).mono (fun e w' h => by rw [← hM] at h; exact h))
  have q1 : ¬ E < 0 := by have := hE.1; omega
  have q2 : E < 1152921504606845789 := hE.2
  have q3 : ¬ S < 0 := by have := hS.1; omega
  have q4 : S < 1152921504606845789 := hS.2
  clear hA1 hA2 hA3 hR hRo hM hk hs hT l1 l2 l3 l4 hE hS hMl hp2
  generalize (A1 : Int) = a1 at *
  generalize (A2 : Int) = a2 at *
  generalize (A3 : Int) = a3 at *
  generalize (R : Int) = r at *
  generalize (M : Int) = m at *
  go_enter Tryd.func43, Tryd.ntmps43
  go_upto_region 3 with (go_at_call 22; refine (CV.out _).mono ?_; rintro e v1 ⟨rfl, hb1⟩; have K1 := Lib.hid (keepBlk hb1 (Blk.new w 58 [.int .i64 E, .int .i64 S])); have B1 := Lib.hid (keepBelow ((Below.refl _ _).alloc (Nat.le_refl _) _) hb1); clear hb1; have z0 : v1.cell? ⟨w.heap.size, 0, none⟩ = some (.int .i64 E) := K1.out.cell 0; have z1 : v1.cell? ⟨w.heap.size, 1, none⟩ = some (.int .i64 S) := K1.out.cell 1)
  go_quiet (first
    | (go_at_call 56; with_reducible exact Calls.quiet_of (C1.out _))
    | (go_at_call 56; with_reducible exact Calls.quiet_of (C2.out _))
    | (go_at_call 56; with_reducible exact Calls.quiet_of (C3.out _))
    | (go_at_call 58; with_reducible exact Calls.quiet_of (C4.out _)))
  go_upto_region 4 with fail
  obtain ⟨V, hV⟩ : ∃ V, V = v1.drewN nq := ⟨_, rfl⟩
  rw [← hV]
  have zV : V.cell? ⟨w.heap.size, 0, none⟩ = some (.int .i64 E) := by rw [hV, World.cell?_drewN]; exact z0
  have BV : Hid (Below w.heap.size w V) := by rw [hV]; exact Lib.hid ⟨B1.out.os, B1.out.tape, B1.out.output, B1.out.size, B1.out.block⟩
  have TV := Lib.hid (HT.out.keep BV.out.drew)
  have KV : Hid (Blk V w.heap.size 58 [.int .i64 E, .int .i64 S]) := by rw [hV]; exact Lib.hid K1.out
  clear hV z0 z1 q1 q2 q3 q4
  go_region_held3 (fun W => W.cell? ⟨w.heap.size, 0, none⟩ = some (.int .i64 E)) (first | go_keep | exact z4) ((go_at_call 63; refine (CM.out _ ?_).mono ?_; exact TV.out; rintro e v4 ⟨rfl, hb4⟩; have B4 := Lib.hid (keepBelow (BV.out.drew) hb4); have z4 : v4.cell? ⟨w.heap.size, 0, none⟩ = some (.int .i64 E) := (keepBlk hb4 (blk_drew KV.out)).cell 0; clear hb4))
  all_goals go_wp2_with fail
  all_goals go_ret
  all_goals exact ⟨rfl, B4.out⟩
theorem Verify_any (key E S : Int) (s : ByteArray) (hs : s.size < 288230376151711744) (w : World) (hT : Tabs w) :
    Calls Tryd.prog 43 #[.int .i64 key, .string s, .agg #[.int .i64 E, .int .i64 S]] w fun e w' => e = .returned (.bool (decide (vf key s.data.toList E S))) ∧ Below w.heap.size w w' := by
  by_cases h : val key ∧ inq E ∧ inq S
  · exact Verify_in key E S h.1 h.2.1 h.2.2 s hs w hT
  · exact Verify_no key E S h s w
end Go.Proofs.YtklikkmnemooeaaDoor
