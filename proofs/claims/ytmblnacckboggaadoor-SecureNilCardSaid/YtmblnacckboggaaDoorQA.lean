/- SecureNil: the law's walk. -/
import Derived.Test.YtmblnacckboggaaDoorQ9
namespace Go.Proofs.YtmblnacckboggaaDoor
open Go.RowKit
set_option maxRecDepth 100000 in
set_option maxHeartbeats 1600000 in
theorem nil_any (k d : ByteArray) (side : Int) (w : World) (hT : Tabs w) : Calls Tryd.prog 7 #[.string k, .string d, .int .i64 side] w fun e w' => e = .returned (.bool true) ∧ Below w.heap.size w w' := by
  have CA := Lib.hid (awake_any w hT)
  have SZ := Lib.hid (fun (W : World) (o : Obj) => (show (W.alloc o).heap.size = W.heap.size + 1 by simp))
  by_cases hk : k.size ≤ 100
  · by_cases hd : d.size ≤ 100
    · have d1 : decide ((100 : Int) < k.size) = false := decide_eq_false (by omega)
      have d2 : decide ((100 : Int) < d.size) = false := decide_eq_false (by omega)
      have C0 := Lib.hid (fun W => new_nil k side W)
      have CE := Lib.hid (fun W => ended_nil W)
      have CC := Lib.hid (fun W => counts_nil W)
      have CS := Lib.hid (fun W => send_nil d W)
      have CR := Lib.hid (fun W => receive_nil W)
      by_cases hb : badE k.data.toList side 0 = 0
      · have CN := Lib.hid (fun wb W => new_ok wb k side hb W)
        have CF := Lib.hid (fun lb wb W h => ended_any lb wb ⟨k, side, 0, 0, ⟨#[]⟩, false⟩ W h)
        obtain ⟨hkl, hs, _⟩ := bad_ok hb
        have k32 : (k.size : Int) = 32 := by rw [← bytes_len, hkl]; rfl
        clear hb hkl hk hd
        rcases hs with rfl | rfl
        all_goals
          go_enter Tryd.func7, Tryd.ntmps7
          go_wp2_with (first
            | (go_at_call 8; refine (CA.out).mono ?_; rintro e v1 ⟨rfl, hb1⟩; have B1 := Lib.hid hb1; clear hb1)
            | (go_at_call 24; (with_reducible refine (C0.out _).mono ?_); rintro e v2 ⟨rfl, rfl⟩)
            | (go_at_call 24; (with_reducible refine (CN.out _ _).mono ?_); rintro e v3 ⟨rfl, hL3, hb3⟩; rw [SZ.out] at hL3; have L3 := Lib.hid hL3; have B3 := Lib.hid (keepBelow (keepBelow B1.out ((Below.refl _ _).alloc (Nat.le_refl _) _)) hb3); clear hL3 hb3)
            | (go_at_call 16; (with_reducible refine (CF.out _ _ _ L3.out).mono ?_); rintro e v4 ⟨rfl, rfl⟩)
            | (go_at_call 16; (with_reducible refine (CE.out _).mono ?_); rintro e v5 ⟨rfl, rfl⟩)
            | (go_at_call 15; refine (CR.out _).mono ?_; rintro e v6 ⟨rfl, rfl⟩)
            | (go_at_call 25; refine (CC.out _).mono ?_; rintro e v7 ⟨rfl, rfl⟩)
            | (go_at_call 14; refine (CS.out _).mono ?_; rintro e v8 ⟨rfl, rfl⟩))
          go_ret
          exact ⟨rfl, B3.out⟩
      · have CN := Lib.hid (fun wb W => new_bad wb k side hb W)
        by_cases hkl : k.size = 32
        · have hb1 : badE k.data.toList side 0 = 1 := by
            unfold badE at hb ⊢
            rw [bytes_len] at hb ⊢
            rw [if_neg (fun h => h hkl)] at hb ⊢
            by_cases h : side ≠ 1 ∧ side ≠ 2
            · rw [if_pos h]
            · rw [if_neg h, if_neg (by decide)] at hb; exact absurd rfl hb
          have hs : side ≠ 1 ∧ side ≠ 2 := by
            unfold badE at hb1
            rw [bytes_len, if_neg (fun h => h hkl)] at hb1
            by_cases h : side ≠ 1 ∧ side ≠ 2
            · exact h
            · rw [if_neg h, if_neg (by decide)] at hb1; cases hb1
          rw [hb1] at CN
          have k32 : (k.size : Int) = 32 := by omega
          have s1 : (side != 1) = true := by rw [bne_iff_ne]; exact hs.1
          have s2 : (side != 2) = true := by rw [bne_iff_ne]; exact hs.2
          have s3 : (side == 1) = false := by rw [beq_eq_false_iff_ne]; exact hs.1
          have s4 : (side == 2) = false := by rw [beq_eq_false_iff_ne]; exact hs.2
          clear hb hb1 hs hk hd hkl
          go_enter Tryd.func7, Tryd.ntmps7
          go_wp2_with (first
            | (go_at_call 8; refine (CA.out).mono ?_; rintro e v1 ⟨rfl, hb1⟩; have B1 := Lib.hid hb1; clear hb1)
            | (go_at_call 24; (with_reducible refine (C0.out _).mono ?_); rintro e v2 ⟨rfl, rfl⟩)
            | (go_at_call 24; (with_reducible refine (CN.out _ _).mono ?_); rintro e v3 ⟨rfl, rfl⟩)
            | (go_at_call 16; (with_reducible refine (CE.out _).mono ?_); rintro e v5 ⟨rfl, rfl⟩)
            | (go_at_call 15; refine (CR.out _).mono ?_; rintro e v6 ⟨rfl, rfl⟩)
            | (go_at_call 25; refine (CC.out _).mono ?_; rintro e v7 ⟨rfl, rfl⟩)
            | (go_at_call 14; refine (CS.out _).mono ?_; rintro e v8 ⟨rfl, rfl⟩))
          go_ret
          exact ⟨rfl, keepBelow B1.out ((Below.refl _ _).alloc (Nat.le_refl _) _)⟩
        · have hb1 : badE k.data.toList side 0 = 26 := by
            unfold badE
            rw [bytes_len, if_pos hkl]
          rw [hb1] at CN
          have k1 : ((k.size : Int) == 32) = false := by rw [beq_eq_false_iff_ne]; omega
          have k2 : ((k.size : Int) != 32) = true := by rw [bne_iff_ne]; omega
          clear hb hb1 hk hd hkl
          go_enter Tryd.func7, Tryd.ntmps7
          go_wp2_with (first
            | (go_at_call 8; refine (CA.out).mono ?_; rintro e v1 ⟨rfl, hb1⟩; have B1 := Lib.hid hb1; clear hb1)
            | (go_at_call 24; (with_reducible refine (C0.out _).mono ?_); rintro e v2 ⟨rfl, rfl⟩)
            | (go_at_call 24; (with_reducible refine (CN.out _ _).mono ?_); rintro e v3 ⟨rfl, rfl⟩)
            | (go_at_call 16; (with_reducible refine (CE.out _).mono ?_); rintro e v5 ⟨rfl, rfl⟩)
            | (go_at_call 15; refine (CR.out _).mono ?_; rintro e v6 ⟨rfl, rfl⟩)
            | (go_at_call 25; refine (CC.out _).mono ?_; rintro e v7 ⟨rfl, rfl⟩)
            | (go_at_call 14; refine (CS.out _).mono ?_; rintro e v8 ⟨rfl, rfl⟩))
          go_ret
          exact ⟨rfl, keepBelow B1.out ((Below.refl _ _).alloc (Nat.le_refl _) _)⟩
    · have d1 : decide ((100 : Int) < k.size) = false := decide_eq_false (by omega)
      have d2 : (100 : Int) < d.size := by omega
      clear hk hd
      go_enter Tryd.func7, Tryd.ntmps7
      go_wp2_with (go_at_call 8; refine (CA.out).mono ?_; rintro e v1 ⟨rfl, hb1⟩; have B1 := Lib.hid hb1; clear hb1)
      go_ret
      exact ⟨rfl, B1.out⟩
  · have d1 : (100 : Int) < k.size := by omega
    clear hk
    go_enter Tryd.func7, Tryd.ntmps7
    go_wp2_with (go_at_call 8; refine (CA.out).mono ?_; rintro e v1 ⟨rfl, hb1⟩; have B1 := Lib.hid hb1; clear hb1)
    go_ret
    exact ⟨rfl, B1.out⟩
end Go.Proofs.YtmblnacckboggaaDoor
