/- The reference's digit (func 62), Hex (func 36), Unhex (func 35). -/
import Derived.Test.YtklikkmnemooeaaDoorH1
import Derived.Test.YtklikkmnemooeaaDoorDG
import Derived.Deep.AppendLies
import Derived.Deep.RegionLaw
namespace Go.Proofs.YtklikkmnemooeaaDoor
open Go.RowKit
theorem hv_low (b : UInt8) (h1 : 48 ≤ b.toNat) (h2 : b.toNat ≤ 57) : hv b = (b.toNat : Int) - 48 := if_pos ⟨h1, h2⟩
theorem hv_high (b : UInt8) (h1 : 97 ≤ b.toNat) (h2 : b.toNat ≤ 102) : hv b = (b.toNat : Int) - 87 := by
  unfold hv
  rw [if_neg (by omega), if_pos ⟨h1, h2⟩]
theorem hv_none (b : UInt8) (h1 : ¬ (48 ≤ b.toNat ∧ b.toNat ≤ 57)) (h2 : ¬ (97 ≤ b.toNat ∧ b.toNat ≤ 102)) : hv b = -1 := by
  unfold hv
  rw [if_neg h1, if_neg h2]
set_option maxRecDepth 100000 in
theorem rdigit_any (b : UInt8) (w : World) : Calls Tryd.prog 62 #[.int .u8 (b.toNat : Nat)] w fun e w' => e = .returned (.int .i64 (hv b)) ∧ w' = w := by
  have hb := b.toNat_lt
  by_cases h1 : 48 ≤ b.toNat
  · by_cases h2 : b.toNat ≤ 57
    · rw [hv_low b h1 h2]
      obtain ⟨x, hx⟩ : ∃ x : Int, x = b.toNat := ⟨_, rfl⟩
      rw [← hx]
      have g1 : (48 : Int) ≤ x := by omega
      have g2 : x ≤ 57 := by omega
      have g3 : IntKind.u8.wrap (x - 48) = x - 48 := by rw [IntKind.wrap_u8]; omega
      have g4 : IntKind.i64.wrap (x - 48) = x - 48 := IntWalk.i64_in _ (by omega)
      clear hx h1 h2 hb
      go_enter Tryd.func62, Tryd.ntmps62
      go_wp2_with fail
      go_ret
      exact ⟨rfl, rfl⟩
    · by_cases h3 : 97 ≤ b.toNat
      · by_cases h4 : b.toNat ≤ 102
        · rw [hv_high b h3 h4]
          obtain ⟨x, hx⟩ : ∃ x : Int, x = b.toNat := ⟨_, rfl⟩
          rw [← hx]
          have g1 : (48 : Int) ≤ x := by omega
          have g2 : ¬ x ≤ 57 := by omega
          have g5 : (97 : Int) ≤ x := by omega
          have g6 : x ≤ 102 := by omega
          have g3 : IntKind.u8.wrap (x - 97) = x - 97 := by rw [IntKind.wrap_u8]; omega
          have g4 : IntKind.i64.wrap (x - 97) = x - 97 := IntWalk.i64_in _ (by omega)
          have g7 : IntKind.i64.wrap (x - 97 + 10) = x - 87 := by rw [IntWalk.i64_in _ (by omega)]; omega
          clear hx h1 h2 h3 h4 hb
          go_enter Tryd.func62, Tryd.ntmps62
          go_wp2_with fail
          go_ret
          exact ⟨rfl, rfl⟩
        · rw [hv_none b (by omega) (by omega)]
          obtain ⟨x, hx⟩ : ∃ x : Int, x = b.toNat := ⟨_, rfl⟩
          rw [← hx]
          have g1 : (48 : Int) ≤ x := by omega
          have g2 : ¬ x ≤ 57 := by omega
          have g5 : (97 : Int) ≤ x := by omega
          have g6 : ¬ x ≤ 102 := by omega
          clear hx h1 h2 h3 h4 hb
          go_enter Tryd.func62, Tryd.ntmps62
          go_wp2_with fail
          go_ret
          exact ⟨rfl, rfl⟩
      · rw [hv_none b (by omega) (by omega)]
        obtain ⟨x, hx⟩ : ∃ x : Int, x = b.toNat := ⟨_, rfl⟩
        rw [← hx]
        have g1 : (48 : Int) ≤ x := by omega
        have g2 : ¬ x ≤ 57 := by omega
        have g5 : ¬ (97 : Int) ≤ x := by omega
        clear hx h1 h2 h3 hb
        go_enter Tryd.func62, Tryd.ntmps62
        go_wp2_with fail
        go_ret
        exact ⟨rfl, rfl⟩
  · rw [hv_none b (by omega) (by omega)]
    obtain ⟨x, hx⟩ : ∃ x : Int, x = b.toNat := ⟨_, rfl⟩
    rw [← hx]
    have g1 : ¬ (48 : Int) ≤ x := by omega
    have g5 : ¬ (97 : Int) ≤ x := by omega
    clear hx h1 hb
    go_enter Tryd.func62, Tryd.ntmps62
    go_wp2_with fail
    go_ret
    exact ⟨rfl, rfl⟩
theorem info5 : (Tryd.prog.info? 5).map (fun i => (i.zero, i.size, i.bytes)) = some (some (Value.int .u8 0), 1, 1) := by kernel_rfl
theorem rdigit_same (b : UInt8) (w : World) : Calls Tryd.prog 62 #[.int .u8 (b.toNat : Nat)] w fun e w' => e = .returned (.int .i64 (hv b)) ∧ w = w' := by
  refine (rdigit_any b w).mono ?_
  rintro e w' ⟨h1, h2⟩
  exact ⟨h1, h2.symm⟩
theorem own_below {B : Nat} {a w w1 : World} {e : TypeId} {size n : Nat} {v : Value} {xs : List Value} (h : Below B a w) (ho : w.ownsRow B e size v n xs) (hg : w.grownBy w1 v.ownBlock) (hB : B ≤ a.heap.size) : Below B a w1 := by
  obtain ⟨h1, h2, h3, h4, h5⟩ := hg
  refine h.trans ⟨h1, h2, h3, h4, fun k hk => h5 k (Nat.lt_of_lt_of_le hk (Nat.le_trans hB h.size)) fun e => ?_⟩
  rcases ho.2 with ⟨rfl, _⟩ | ⟨g, cap, cur, rfl, hbg, _⟩
  · cases e
  · simp only [Value.ownBlock, Option.some.injEq] at e
    omega
theorem own0 (w : World) : (w.alloc (.cells #[] 5)).ownsRow w.heap.size 5 1 (.slice (some ⟨w.heap.size, 0, none⟩) 0 0) 0 [] :=
  ⟨rfl, .inr ⟨w.heap.size, 0, #[], rfl, Nat.le_refl _, heap_alloc_new w _, Nat.le_refl _, Nat.zero_le _, rfl, rfl⟩⟩
theorem own_back {w : World} {B g n cap : Nat} {l : List UInt8} (ho : w.ownsRow B 5 1 (.slice (some ⟨g, 0, none⟩) n cap) n (Lib.byteCells l)) : (convert 39 9 (.slice (some ⟨g, 0, none⟩) n cap)).run Tryd.prog w = .ok (.string ⟨l.toArray⟩) w := by
  have hl : n = l.length := by have := ho.1; rw [Lib.byteCells_length] at this; omega
  subst hl
  exact run_convert_bytes_back w 39 9 5 ⟨g, 0, none⟩ cap l Tryd.underlying39 Tryd.underlying5 Tryd.underlying9 (fun j hj => ho.cells (g := g) rfl j _ (by rw [Lib.byteCells, List.getElem?_map, List.getElem?_eq_getElem hj]; rfl))
set_option maxRecDepth 100000 in
set_option maxHeartbeats 1600000 in
theorem rhex_any (s : ByteArray) (hs : s.size ≤ 100000) (w : World) :
    Calls Tryd.prog 36 #[.string s] w fun e w' => e = .returned (.string ⟨(hexL s.data.toList).toArray⟩) ∧ Below w.heap.size w w' := by
  obtain ⟨i0, hi, hz0, hz1, hz2⟩ := info_parts info5
  go_enter Tryd.func36, Tryd.ntmps36
  go_wp2_with fail
  go_loopw [4, 5] (fun s4 i wr => ∃ u g cap N : Nat, u ≤ s.size ∧ i = .int .i64 u ∧ N = 2 * u ∧ s4 = .slice (some ⟨g, 0, none⟩) N cap ∧ wr.ownsRow w.heap.size 5 1 (.slice (some ⟨g, 0, none⟩) N cap) N (Lib.byteCells (hexL (s.data.toList.take u))) ∧ Below w.heap.size w wr) (fun _ i _ => s.size - (intOf i).toNat)
  case atStart => exact ⟨0, _, 0, 0, by omega, rfl, rfl, rfl, own0 w, (Below.refl _ _).alloc (Nat.le_refl _) _⟩
  case round =>
    obtain ⟨u, g, cap, N, hu, rfl, hNu, rfl, hown, hB⟩ := hrel
    have HO := Lib.hid hown
    have HB := Lib.hid hB
    have HN := Lib.hid hNu
    clear hown hB hNu
    by_cases hlu : u < s.size
    · have HST := Lib.hid (hexL_step s.data.toList u (by rw [bytes_len]; exact hlu))
      rw [getD_str s u hlu] at HST
      have hb := s[u].toNat_lt
      have q1 : (u : Int) < s.size := by omega
      have q2 : (0 : Int) ≤ u := by omega
      obtain ⟨h1, hh1⟩ : ∃ h1, h1 = s[u].toNat / 16 := ⟨_, rfl⟩
      obtain ⟨l1, hl1⟩ : ∃ l1, l1 = s[u].toNat % 16 := ⟨_, rfl⟩
      have e1 : Int.tdiv ((s[u].toNat : Nat) : Int) 16 = (h1 : Int) := by rw [hh1]; exact (Int.ofNat_tdiv s[u].toNat 16).symm
      have e2 : Int.tmod ((s[u].toNat : Nat) : Int) 16 = (l1 : Int) := by rw [hl1]; exact (Int.ofNat_tmod s[u].toNat 16).symm
      have e3 : IntKind.u8.wrap (h1 : Int) = (h1 : Int) := by rw [IntKind.wrap_u8]; omega
      have e4 : IntKind.u8.wrap (l1 : Int) = (l1 : Int) := by rw [IntKind.wrap_u8]; omega
      have r1 := digits_run h1 (by omega)
      have r2 := digits_run l1 (by omega)
      rw [← hh1, ← hl1] at HST
      clear hh1 hl1 hb
      have hNb : N ≤ 200000 := by have := HN.out; omega
      go_wp2_with fail
      go_region_law ((refine step_append_lies _ (by rfl) _ _ _ (by rfl) w.heap.size 5 i0 _ 1 1 Tryd.underlying39 hi hz0 hz1 hz2 rfl (by omega) (.slice (some ⟨g, 0, none⟩) N cap) N (Lib.byteCells (hexL (s.data.toList.take u))) (by rfl) ((HO.out.alloc _).drew) ⟨wr.heap.size, 0, none⟩ 2 2 [.int .u8 ((hexd h1).toNat : Nat), .int .u8 ((hexd l1).toNat : Nat)] (by rfl) (by rfl) (World.news_of_block (cs := #[.int .u8 ((hexd h1).toNat : Nat), .int .u8 ((hexd l1).toNat : Nat)]) (t := 5) (fr := (0, 0)) (heap_alloc_new wr _)) (by simp [Value.oneCell']) (by omega) (by unfold maxLen; omega) (by omega) (by have := HB.out.size; simp; omega) (wr.heap.size + 1) (by simp) ?_; intro g1 cap1 w1 hown1 hgrow _ _; have O1 := Lib.hid hown1; have G1 := Lib.hid hgrow; clear hown1 hgrow))
      all_goals
        go_wp2_with fail
        go_roundw
        case rel =>
          refine ⟨u + 1, g1, cap1, N + 2, by omega, by go_num, by have := HN.out; omega, rfl, ?_, own_below ((HB.out.alloc HB.out.size _).drew) ((HO.out.alloc _).drew) G1.out (Nat.le_refl _)⟩
          rw [HST.out, Lib.byteCells_append, Lib.byteCells_append, List.append_assoc]
          exact O1.out
        case measure => simp [intOf]; omega
    · obtain rfl : u = s.size := by omega
      have hcv := own_back HO.out
      go_wp2_with fail
      go_ret
      exact ⟨by rw [List.take_of_length_le (by rw [bytes_len]; exact Nat.le_refl _)]; rfl, HB.out⟩
set_option maxRecDepth 100000 in
set_option maxHeartbeats 1600000 in
theorem runhex_any (t : ByteArray) (ht : t.size ≤ 100000) (w : World) :
    Calls Tryd.prog 35 #[.string t] w fun e w' => e = .returned (.tuple #[.string ⟨(unR t.data.toList).1.toArray⟩, .int .i64 (unR t.data.toList).2]) ∧ Below w.heap.size w w' := by
  by_cases hodd : t.size % 2 = 1
  · have t1 : Int.tmod (t.size : Int) 2 = 1 := by rw [show (1 : Int) = ((t.size % 2 : Nat) : Int) by omega]; exact (Int.ofNat_tmod t.size 2).symm
    have HR := Lib.hid (show unR t.data.toList = ([], 14) by unfold unR; rw [bytes_len, if_pos hodd])
    rw [HR.out]
    clear hodd
    go_enter Tryd.func35, Tryd.ntmps35
    go_wp2_with fail
    go_ret2
    exact ⟨rfl, Below.refl _ _⟩
  · have t1 : Int.tmod (t.size : Int) 2 = 0 := by rw [show (0 : Int) = ((t.size % 2 : Nat) : Int) by omega]; exact (Int.ofNat_tmod t.size 2).symm
    obtain ⟨n, hn⟩ : ∃ n, n = t.size / 2 := ⟨_, rfl⟩
    have hts : t.size = 2 * n := by omega
    obtain ⟨L, hL⟩ : ∃ L, L = t.data.toList := ⟨_, rfl⟩
    have hLn : L.length = 2 * n := by rw [hL, bytes_len]; exact hts
    have HR := Lib.hid (show unR L = if okP L n then (outP L n, 0) else ([], 9) by unfold unR; rw [hLn, if_neg (by omega), show 2 * n / 2 = n by omega])
    rw [← hL]
    obtain ⟨R, hR⟩ : ∃ R, R = unR L := ⟨_, rfl⟩
    rw [← hR]
    rw [← hR] at HR
    have HTS := Lib.hid hts
    have HL := Lib.hid hL
    clear hn hodd hLn hL hR hts
    obtain ⟨i0, hi, hz0, hz1, hz2⟩ := info_parts info5
    go_enter Tryd.func35, Tryd.ntmps35
    go_wp2_with fail
    go_loopw [4, 5] (fun s4 i wr => ∃ X u g cap N : Nat, u ≤ n ∧ X = 2 * u ∧ i = .int .i64 X ∧ N = u ∧ s4 = .slice (some ⟨g, 0, none⟩) N cap ∧ okP L u ∧ wr.ownsRow w.heap.size 5 1 (.slice (some ⟨g, 0, none⟩) N cap) N (Lib.byteCells (outP L u)) ∧ Below w.heap.size w wr) (fun _ i _ => t.size - (intOf i).toNat)
    case atStart => exact ⟨0, 0, _, 0, 0, by omega, rfl, rfl, rfl, rfl, fun j hj => by omega, own0 w, (Below.refl _ _).alloc (Nat.le_refl _) _⟩
    case round =>
      obtain ⟨X, u, g, cap, N, hu, hX, rfl, hNu, rfl, hok, hB, hN⟩ := hrel
      have HX := Lib.hid hX
      have HOK := Lib.hid hok
      have HB := Lib.hid hB
      have HN := Lib.hid hN
      have HNU := Lib.hid hNu
      clear hX hok hB hN hNu
      by_cases hun : u < n
      · obtain ⟨Y, hY⟩ : ∃ Y, Y = X + 1 := ⟨_, rfl⟩
        have hXs : X < t.size := by have := HTS.out; have := HX.out; omega
        have hYs : Y < t.size := by have := HTS.out; have := HX.out; omega
        have p1 : (X : Int) < t.size := by omega
        have p2 : (Y : Int) < t.size := by omega
        have p3 : (0 : Int) ≤ X := by omega
        have p4 : (0 : Int) ≤ Y := by omega
        have m1 : IntKind.i64.wrap ((X : Int) + 1) = (Y : Int) := by rw [IntWalk.i64_in _ (by omega)]; omega
        have A1 := Lib.hid (show L.getD (2 * u) 0 = t[X] by rw [HL.out, ← HX.out, getD_str t X hXs])
        have A2 := Lib.hid (show L.getD (2 * u + 1) 0 = t[Y] by rw [HL.out, ← HX.out, ← hY, getD_str t Y hYs])
        have I1 := Lib.hid (fun W => rdigit_same t[X] W)
        have I2 := Lib.hid (fun W => rdigit_same t[Y] W)
        have b1 := hv_lt t[X]
        have b2 := hv_lt t[Y]
        have HP := Lib.hid (show pairB t[X] t[Y] = UInt8.ofNat (16 * (hv t[X]).toNat + (hv t[Y]).toNat) from rfl)
        have HO := Lib.hid (show outP L (u + 1) = outP L u ++ [pairB t[X] t[Y]] by rw [outP, A1.out, A2.out])
        have HS := Lib.hid (fun (h1 : 0 ≤ hv t[X]) (h2 : 0 ≤ hv t[Y]) => okP_step L u HOK.out (by rw [A1.out]; exact h1) (by rw [A2.out]; exact h2))
        have HBAD := Lib.hid (fun (h : hv t[X] < 0 ∨ hv t[Y] < 0) => show R = ([], 9) by
          rw [HR.out, if_neg]
          intro hk
          have := hk u hun
          rw [A1.out, A2.out] at this
          omega)
        have HY := Lib.hid hY
        clear hY
        obtain ⟨h1, hh1⟩ : ∃ h, h = hv t[X] := ⟨_, rfl⟩
        obtain ⟨h2, hh2⟩ : ∃ h, h = hv t[Y] := ⟨_, rfl⟩
        rw [← hh1] at I1 b1 HP HS HBAD
        rw [← hh2] at I2 b2 HP HS HBAD
        clear hh1 hh2
        by_cases c1 : h1 < 0
        · have HR2 := Lib.hid (HBAD.out (.inl c1))
          go_wp2_with (first
            | (go_at_call 62; (with_reducible refine (I1.out _).mono ?_); rintro e v1 ⟨rfl, rfl⟩)
            | (go_at_call 62; (with_reducible refine (I2.out _).mono ?_); rintro e v1 ⟨rfl, rfl⟩))
          go_ret2
          exact ⟨by rw [HR2.out]; rfl, HN.out⟩
        · by_cases c2 : h2 < 0
          · have HR2 := Lib.hid (HBAD.out (.inr c2))
            go_wp2_with (first
              | (go_at_call 62; (with_reducible refine (I1.out _).mono ?_); rintro e v1 ⟨rfl, rfl⟩)
              | (go_at_call 62; (with_reducible refine (I2.out _).mono ?_); rintro e v1 ⟨rfl, rfl⟩))
            go_ret2
            exact ⟨by rw [HR2.out]; rfl, HN.out⟩
          · obtain ⟨k1, rfl⟩ := Int.eq_ofNat_of_zero_le (show 0 ≤ h1 by omega)
            obtain ⟨k2, rfl⟩ := Int.eq_ofNat_of_zero_le (show 0 ≤ h2 by omega)
            obtain ⟨v, hv1⟩ : ∃ v, v = 16 * k1 + k2 := ⟨_, rfl⟩
            have m2 : IntKind.i64.wrap (16 * (k1 : Int)) = 16 * (k1 : Int) := IntWalk.i64_in _ (by omega)
            have m3 : IntKind.i64.wrap (16 * (k1 : Int) + k2) = (v : Int) := by rw [IntWalk.i64_in _ (by omega)]; omega
            have m4 : (v : Int) % 256 = (v : Int) := by omega
            have m4b : IntKind.u8.wrap (v : Int) = (v : Int) := by rw [IntKind.wrap_u8]; omega
            have m5 : IntKind.i64.wrap (X + 2) = (((X + 2 : Nat)) : Int) := by rw [IntWalk.i64_in _ (by omega)]; omega
            have HV := Lib.hid (show (pairB t[X] t[Y]).toNat = v by rw [HP.out, UInt8.toNat_ofNat', Int.toNat_natCast, Int.toNat_natCast]; omega)
            have HS2 := Lib.hid (HS.out (by omega) (by omega))
            have hNb : N ≤ 100000 := by have := HNU.out; have := HTS.out; omega
            clear hv1 HS HBAD
            go_wp2_with (first
              | (go_at_call 62; (with_reducible refine (I1.out _).mono ?_); rintro e v1 ⟨rfl, rfl⟩)
              | (go_at_call 62; (with_reducible refine (I2.out _).mono ?_); rintro e v1 ⟨rfl, rfl⟩))
            go_region_law (first
              | (refine step_append_lies _ (by rfl) _ _ _ (by rfl) w.heap.size 5 i0 _ 1 1 Tryd.underlying39 hi hz0 hz1 hz2 rfl (by omega) (.slice (some ⟨g, 0, none⟩) N cap) N (Lib.byteCells (outP L u)) (by rfl) ((HB.out.alloc _).drew) ⟨wr.heap.size, 0, none⟩ 1 1 [.int .u8 (v : Nat)] (by rfl) (by rfl) (World.news_of_block (cs := #[.int .u8 (v : Nat)]) (t := 5) (fr := (0, 0)) (heap_alloc_new wr _)) (by simp [Value.oneCell']) (by omega) (by unfold maxLen; omega) (by omega) (by have := HN.out.size; simp; omega) (wr.heap.size + 1) (by simp) ?_; intro g1 cap1 w1 hown1 hgrow _ _; have O1 := Lib.hid hown1; have G1 := Lib.hid hgrow; clear hown1 hgrow)
              | (go_simp; go_at_call 62; (with_reducible refine (I1.out _).mono ?_); rintro e v1 ⟨rfl, rfl⟩)
              | (go_simp; go_at_call 62; (with_reducible refine (I2.out _).mono ?_); rintro e v1 ⟨rfl, rfl⟩))
            all_goals
              go_wp2_with fail
              go_roundw
              case rel =>
                refine ⟨X + 2, u + 1, g1, cap1, N + 1, by omega, by have := HX.out; omega, rfl, by have := HNU.out; omega, rfl, HS2.out, ?_, own_below ((HN.out.alloc HN.out.size _).drew) ((HB.out.alloc _).drew) G1.out (Nat.le_refl _)⟩
                rw [HO.out, Lib.byteCells_append, show Lib.byteCells [pairB t[X] t[Y]] = [.int .u8 (v : Nat)] by rw [← HV.out]; rfl]
                exact O1.out
              case measure => have := HX.out; have := HTS.out; simp [intOf]; omega
      · obtain rfl : u = n := by omega
        have r1 : ¬ (X : Int) < t.size := by have := HTS.out; have := HX.out; omega
        have HR2 := Lib.hid (show R = (outP L u, 0) by rw [HR.out, if_pos HOK.out])
        have hcv := own_back HB.out
        go_wp2_with fail
        go_ret2
        exact ⟨by rw [HR2.out]; rfl, HN.out⟩
end Go.Proofs.YtklikkmnemooeaaDoor
