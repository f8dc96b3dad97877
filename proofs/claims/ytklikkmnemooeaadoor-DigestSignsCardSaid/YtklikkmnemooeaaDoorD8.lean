/- Div64 (func 73) at Prime. -/
import Derived.Test.YtklikkmnemooeaaDoorSh
import Derived.Test.YtklikkmnemooeaaDoorD7
import Derived.Test.YtklikkmnemooeaaDoorF4
import Derived.Deep.DeepCutAuto
namespace Go.Proofs.YtklikkmnemooeaaDoor
open Go.RowKit
set_option maxRecDepth 100000 in
set_option maxHeartbeats 1600000 in
theorem div_told (hi lo QQ RR : Nat) (h1 : hi < 2305843009213691579) (h2 : lo < 18446744073709551616) (hQQ : QQ = (hi * 18446744073709551616 + lo) / 2305843009213691579) (hRR : RR = (hi * 18446744073709551616 + lo) % 2305843009213691579) (w : World) :
    Calls Tryd.prog 73 #[.int .u64 hi, .int .u64 lo, .int .u64 2305843009213691579] w fun e w' => e = .returned (.tuple #[.int .u64 QQ, .int .u64 RR]) ∧ Below w.heap.size w w' := by
  have HQQ := Lib.hid hQQ
  have HRR := Lib.hid hRR
  clear hQQ hRR
  by_cases h0 : hi = 0
  · subst h0
    have q3 : ¬ (2305843009213691579 : Int) ≤ 0 := by omega
    have e1 : Int.tdiv (lo : Int) 2305843009213691579 = (QQ : Int) := by rw [HQQ.out, Nat.zero_mul, Nat.zero_add]; exact (Int.ofNat_tdiv lo 2305843009213691579).symm
    have e2 : Int.tmod (lo : Int) 2305843009213691579 = (RR : Int) := by rw [HRR.out, Nat.zero_mul, Nat.zero_add]; exact (Int.ofNat_tmod lo 2305843009213691579).symm
    have e3 : IntKind.u64.wrap (QQ : Int) = (QQ : Int) := wrapu QQ (by rw [HQQ.out]; exact quo_lt 0 lo h1 h2)
    have e4 : IntKind.u64.wrap (RR : Int) = (RR : Int) := wrapu RR (by rw [HRR.out]; exact Nat.lt_of_lt_of_le (Nat.mod_lt _ (by decide)) (by decide))
    change Calls Tryd.prog 73 #[.int .u64 0, .int .u64 lo, .int .u64 2305843009213691579] w _
    go_enter Tryd.func73, Tryd.ntmps73
    go_upto_region 6 with fail
    go_quiet (fail)
    go_wp2_with fail
    go_ret2
    exact ⟨rfl, below_drewNd (Below.refl _ _) _⟩
  · have q1 : ¬ (hi : Int) = 0 := by omega
    have q2 : ((hi : Int) == 0) = false := by simpa using q1
    have q3 : ¬ (2305843009213691579 : Int) ≤ hi := by omega
    have hlz : (64 - (Lib.bitLen 2305843009213691579 : Int)) = 3 := by decide +kernel
    have hlz2 : ∀ W, Calls Tryd.prog 80 #[.int .u64 2305843009213691579] W fun e w' => e = .returned (.int .i64 3) ∧ w' = W := fun W => (Tryd.bits_LeadingZeros64 2305843009213691579 W (by decide) (by decide)).mono (by rintro e w' ⟨rfl, rfl⟩; exact ⟨by rw [← hlz]; rfl, rfl⟩)
    have HLZ := Lib.hid hlz2
    clear hlz hlz2
    obtain ⟨t, ht⟩ : ∃ t, t = lo / 2305843009213693952 := ⟨_, rfl⟩
    obtain ⟨l8, hl8⟩ : ∃ l8, l8 = lo * 8 % 18446744073709551616 := ⟨_, rfl⟩
    obtain ⟨u, hu⟩ : ∃ u, u = hi * 8 + t := ⟨_, rfl⟩
    obtain ⟨a1, ha1⟩ : ∃ a1, a1 = l8 / 4294967296 := ⟨_, rfl⟩
    obtain ⟨a0, ha0⟩ : ∃ a0, a0 = l8 % 4294967296 := ⟨_, rfl⟩
    obtain ⟨q0, hq0⟩ : ∃ q0, q0 = u / 4294967295 := ⟨_, rfl⟩
    obtain ⟨r0, hr0⟩ : ∃ r0, r0 = u % 4294967295 := ⟨_, rfl⟩
    have hqr : q0 * 4294967295 + r0 = u := by rw [hq0, hr0, Nat.mul_comm]; exact Nat.div_add_mod u _
    have hq0l : q0 < 18446744073709551616 := by rw [hq0, hu]; clear hqr hq0 hr0 ha1 ha0 hl8; omega
    have hu8 : u < YY := by rw [hu]; unfold YY; clear hqr hq0 hr0 ha1 ha0 hl8; omega
    have ha1l : a1 < 4294967296 := by rw [ha1]; clear hqr hq0 hr0 ha0 ha1 hu; omega
    have ha0l : a0 < 4294967296 := by rw [ha0]; exact Nat.mod_lt _ (by decide)
    have HQUO := Lib.hid (w_quo hi lo l8 t u a1 a0 ht hl8 hu ha1 ha0)
    have HDZ := Lib.hid (show DZ u a1 q0 r0 by rw [hq0, hr0]; exact dz_start u a1 hu8 ha1l)
    have f7 := digit_le q0 u r0 hqr (by unfold YY at hu8; clear hq0 hr0 ha1 ha0 hl8 ht hu hqr; omega)
    have f8 := digit_rest q0 u r0 hqr (by rw [hr0]; exact Nat.mod_lt _ (by decide))
    have f1 : bits .or .u64 ((hi : Int) * 8) ((lo : Int) / 2305843009213693952) = (u : Int) := by
      rw [show (lo : Int) / (2305843009213693952 : Int) = (t : Nat) by clear hqr hq0 hr0 ha1 ha0 hl8; omega, or8 hi t h1 (by clear hqr hq0 hr0 ha1 ha0 hl8; omega), hu]
    have f2 : IntKind.u64.wrap ((lo : Int) * 8) = (l8 : Int) := by rw [IntKind.wrap_u64]; clear hqr hq0 hr0 ha1 ha0 ht; omega
    have f3 : (l8 : Int) / 4294967296 = (a1 : Int) := by rw [ha1]; clear hqr hq0 hr0 ha0 ha1 hu; omega
    have f4 : bits .and .u64 (l8 : Int) 4294967295 = (a0 : Int) := by rw [and32 l8 (by rw [hl8]; exact Nat.mod_lt _ (by decide)), ha0]
    have f5 : Int.tdiv (u : Int) 4294967295 = (q0 : Int) := by rw [hq0]; exact (Int.ofNat_tdiv u 4294967295).symm
    have f6 : IntKind.u64.wrap (q0 : Int) = (q0 : Int) := wrapu q0 hq0l
    have f9 : bits .and .u64 18446744073709532632 4294967295 = 4294948312 := by decide +kernel
    have HU := Lib.hid hu8
    have HA1 := Lib.hid ha1l
    have HA0 := Lib.hid ha0l
    obtain ⟨U, hU⟩ : ∃ U : Int, U = u := ⟨_, rfl⟩
    obtain ⟨A1, hA1⟩ : ∃ A : Int, A = a1 := ⟨_, rfl⟩
    obtain ⟨A0, hA0⟩ : ∃ A : Int, A = a0 := ⟨_, rfl⟩
    obtain ⟨Q0, hQ0⟩ : ∃ Q : Int, Q = q0 := ⟨_, rfl⟩
    obtain ⟨R0, hR0⟩ : ∃ R : Int, R = r0 := ⟨_, rfl⟩
    rw [← hU, ← hA1, ← hQ0, ← hR0] at HDZ
    rw [← hU, ← hQ0] at f5 f8
    rw [← hQ0] at f7
    rw [← hU] at f1
    rw [← hR0] at f8
    rw [← hQ0] at f6
    rw [← hA1] at f3
    rw [← hA0] at f4
    have HUU := Lib.hid (And.intro hU (And.intro hA1 hA0))
    clear ht hl8 hu ha1 ha0 hq0 hr0 hqr hq0l hu8 ha1l ha0l hU hA1 hA0 hQ0 hR0
    go_enter Tryd.func73, Tryd.ntmps73
    go_upto_block 0 with (go_at_call 80; refine (HLZ.out _).mono ?_; rintro e w5 ⟨rfl, rfl⟩)
    go_cut [15, 16] (fun c d wx => ∃ Q R : Int, c = .int .u64 Q ∧ d = .int .u64 R ∧ DE U A1 Q ∧ wx = w5)
    case first =>
      clear f1 f2 f3 f4 f5 f6 f7 f8 f9
      go_wp2_with fail
      go_loopw [15, 16] (fun a b wr => ∃ Q R : Int, a = .int .u64 Q ∧ b = .int .u64 R ∧ DZ U A1 Q R ∧ wr = w5) (fun a _ _ => (intOf a).toNat)
      case atStart => exact ⟨Q0, R0, rfl, rfl, HDZ.out, rfl⟩
      case round =>
        obtain ⟨Q, R, rfl, rfl, hd, rfl⟩ := hrel
        have HD := Lib.hid hd
        clear hd
        by_cases hc : 4294967296 ≤ Q
        · have hh := dz_hard HD.out (Or.inl hc)
          have HH := Lib.hid hh
          have g1 := wd1 HD.out hh.1
          have g2 := wd2 HD.out
          clear hh
          by_cases hr : 4294967296 ≤ R + 4294967295
          · go_wp2_with fail
            go_meet
            exact ⟨_, _, rfl, rfl, HH.out.2.2 hr, rfl⟩
          · go_wp2_with fail
            exact ⟨⟨Q - 1, R + 4294967295, rfl, rfl, HH.out.2.1 (by omega), trivial⟩, by have := HH.out.1; simp [intOf]; omega⟩
        · have hq : Q < 4294967296 := by omega
          have g3 := wd3 HD.out hq
          have g4 := wd4 HD.out
          have g5 := wd5 HD.out
          by_cases hx : 4294967296 * R + A1 < Q * 4294948312
          · have hh := dz_hard HD.out (Or.inr hx)
            have HH := Lib.hid hh
            have g1 := wd1 HD.out hh.1
            have g2 := wd2 HD.out
            clear hh
            by_cases hr : 4294967296 ≤ R + 4294967295
            · go_wp2_with fail
              go_meet
              exact ⟨_, _, rfl, rfl, HH.out.2.2 hr, rfl⟩
            · go_wp2_with fail
              exact ⟨⟨Q - 1, R + 4294967295, rfl, rfl, HH.out.2.1 (by omega), trivial⟩, by have := HH.out.1; simp [intOf]; omega⟩
          · have HE := Lib.hid (dz_end HD.out (by omega))
            go_wp2_with fail
            go_meet
            exact ⟨_, _, rfl, rfl, HE.out, rfl⟩
    case rest =>
      obtain ⟨Q1, R1, rfl, rfl, hde, rfl⟩ := hcut
      have HDE := Lib.hid hde
      clear hde f1 f2 f3 f4 f5 f6 f7 f8
      obtain ⟨n, hn⟩ : ∃ n, n = (u * 4294967296 + a1) % YY := ⟨_, rfl⟩
      have k1 := rest_at HDE.out u a1 n HUU.out.1 HUU.out.2.1 hn
      have hnl : n < YY := by rw [hn]; exact Nat.mod_lt _ (by decide)
      obtain ⟨q0, hq0⟩ : ∃ q0, q0 = n / 4294967295 := ⟨_, rfl⟩
      obtain ⟨r0, hr0⟩ : ∃ r0, r0 = n % 4294967295 := ⟨_, rfl⟩
      have hqr : q0 * 4294967295 + r0 = n := by rw [hq0, hr0, Nat.mul_comm]; exact Nat.div_add_mod n _
      have hq0l : q0 < 18446744073709551616 := by rw [hq0]; unfold YY at hnl; clear hqr hq0 hr0 hn; omega
      have HDZ2 := Lib.hid (show DZ n a0 q0 r0 by rw [hq0, hr0]; exact dz_start n a0 hnl HA0.out)
      have k7 := digit_le q0 n r0 hqr (by unfold YY at hnl; clear hq0 hr0 hqr hn; omega)
      have k8 := digit_rest q0 n r0 hqr (by rw [hr0]; exact Nat.mod_lt _ (by decide))
      have k5 : Int.tdiv (n : Int) 4294967295 = (q0 : Int) := by rw [hq0]; exact (Int.ofNat_tdiv n 4294967295).symm
      have k6 : IntKind.u64.wrap (q0 : Int) = (q0 : Int) := wrapu q0 hq0l
      obtain ⟨NN, hNN⟩ : ∃ X : Int, X = n := ⟨_, rfl⟩
      obtain ⟨Q2, hQ2⟩ : ∃ Q : Int, Q = q0 := ⟨_, rfl⟩
      obtain ⟨R2, hR2⟩ : ∃ R : Int, R = r0 := ⟨_, rfl⟩
      rw [← HUU.out.2.2, ← hNN, ← hQ2, ← hR2] at HDZ2
      rw [← hNN] at k1
      rw [← hNN, ← hQ2] at k5 k8
      rw [← hQ2] at k6 k7
      rw [← hR2] at k8
      have HN := Lib.hid hn
      have HNN := Lib.hid hNN
      clear hq0 hr0 hqr hq0l hnl hn hNN hQ2 hR2
      go_upto_block 2 with fail
      go_cut [18, 16] (fun c d wx => ∃ Q R : Int, c = .int .u64 Q ∧ d = .int .u64 R ∧ DE NN A0 Q ∧ wx = wc)
      case first =>
        clear k1 k5 k6 k7 k8
        go_wp2_with fail
        go_loopw [18, 16] (fun a b wr => ∃ Q R : Int, a = .int .u64 Q ∧ b = .int .u64 R ∧ DZ NN A0 Q R ∧ wr = wc) (fun a _ _ => (intOf a).toNat)
        case atStart => exact ⟨Q2, R2, rfl, rfl, HDZ2.out, rfl⟩
        case round =>
          obtain ⟨Q, R, rfl, rfl, hd, rfl⟩ := hrel
          have HD := Lib.hid hd
          clear hd
          by_cases hc : 4294967296 ≤ Q
          · have hh := dz_hard HD.out (Or.inl hc)
            have HH := Lib.hid hh
            have g1 := wd1 HD.out hh.1
            have g2 := wd2 HD.out
            clear hh
            by_cases hr : 4294967296 ≤ R + 4294967295
            · go_wp2_with fail
              go_meet
              exact ⟨_, _, rfl, rfl, HH.out.2.2 hr, rfl⟩
            · go_wp2_with fail
              exact ⟨⟨Q - 1, R + 4294967295, rfl, rfl, HH.out.2.1 (by omega), trivial⟩, by have := HH.out.1; simp [intOf]; omega⟩
          · have hq : Q < 4294967296 := by omega
            have g3 := wd3 HD.out hq
            have g4 := wd4 HD.out
            have g5 := wd5 HD.out
            by_cases hx : 4294967296 * R + A0 < Q * 4294948312
            · have hh := dz_hard HD.out (Or.inr hx)
              have HH := Lib.hid hh
              have g1 := wd1 HD.out hh.1
              have g2 := wd2 HD.out
              clear hh
              by_cases hr : 4294967296 ≤ R + 4294967295
              · go_wp2_with fail
                go_meet
                exact ⟨_, _, rfl, rfl, HH.out.2.2 hr, rfl⟩
              · go_wp2_with fail
                exact ⟨⟨Q - 1, R + 4294967295, rfl, rfl, HH.out.2.1 (by omega), trivial⟩, by have := HH.out.1; simp [intOf]; omega⟩
            · have HE := Lib.hid (dz_end HD.out (by omega))
              go_wp2_with fail
              go_meet
              exact ⟨_, _, rfl, rfl, HE.out, rfl⟩
      case rest =>
        obtain ⟨Q3, R3, rfl, rfl, hde, rfl⟩ := hcut
        have HDE2 := Lib.hid hde
        clear hde k1 k5 k6 k7 k8
        obtain ⟨MM, hMM⟩ : ∃ M, M = (n * 4294967296 + a0) % YY := ⟨_, rfl⟩
        have l1 := rest_at HDE2.out n a0 MM HNN.out HUU.out.2.2 hMM
        have l2 := fin_quo _ _ QQ Q1 Q3 (HDE.out.at u a1 HUU.out.1 HUU.out.2.1) (HDE2.out.at n a0 HNN.out HUU.out.2.2) (by rw [HN.out, HQQ.out]; exact HQUO.out.1) (by rw [HQQ.out]; exact quo_lt hi lo h1 h2)
        have l3 := fin_rem hi lo n a0 MM RR (by rw [HN.out]; exact HQUO.out.2) hMM HRR.out
        clear hMM
        generalize (MM : Int) = MI at *
        go_wp2_with fail
        go_ret2
        exact ⟨rfl, Below.refl _ _⟩
theorem div_any (hi lo : Nat) (h1 : hi < 2305843009213691579) (h2 : lo < 18446744073709551616) (w : World) :
    Calls Tryd.prog 73 #[.int .u64 hi, .int .u64 lo, .int .u64 2305843009213691579] w fun e w' => e = .returned (.tuple #[.int .u64 ((hi * 18446744073709551616 + lo) / 2305843009213691579 : Nat), .int .u64 ((hi * 18446744073709551616 + lo) % 2305843009213691579 : Nat)]) ∧ Below w.heap.size w w' := div_told hi lo _ _ h1 h2 rfl rfl w
end Go.Proofs.YtklikkmnemooeaaDoor
