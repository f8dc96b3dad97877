/- Unhex: the plain law, IndexByte at the digits, Unhex (func 33), the reference's digit (func 62). -/
import Derived.Test.YtklikkmnemooeaaDoorDC
namespace Go.Proofs.YtklikkmnemooeaaDoor
open Go.RowKit
/-- what a digit stands for, or -1 -/
def hv (b : UInt8) : Int := if 48 ≤ b.toNat ∧ b.toNat ≤ 57 then (b.toNat : Int) - 48 else if 97 ≤ b.toNat ∧ b.toNat ≤ 102 then (b.toNat : Int) - 87 else -1
theorem all_bytes {p : UInt8 → Prop} (h : ∀ n, n < 256 → p (UInt8.ofNat n)) (b : UInt8) : p b := by
  have := h b.toNat b.toNat_lt
  rwa [UInt8.ofNat_toNat] at this
theorem hv_lt (b : UInt8) : hv b < 16 := all_bytes (p := fun b => hv b < 16) (by decide +kernel) b
theorem hv_index (b : UInt8) : Lib.indexByte digitsB.data.toList b = hv b := all_bytes (p := fun b => Lib.indexByte digitsB.data.toList b = hv b) (by decide +kernel) b
theorem hexd_hv (b : UInt8) (h : 0 ≤ hv b) : hexd (hv b).toNat = b := all_bytes (p := fun b => 0 ≤ hv b → hexd (hv b).toNat = b) (by decide +kernel) b h
theorem hv_hexd (d : Nat) (h : d < 16) : hv (hexd d) = d := (by decide +kernel : ∀ d, d < 16 → hv (hexd d) = d) d h
theorem or16 (h l : Nat) (hh : h < 16) (hl : l < 16) : bits .or .i64 ((h : Int) * 16) (l : Int) = ((16 * h + l : Nat) : Int) :=
  (by decide +kernel : ∀ h : Nat, h < 16 → ∀ l : Nat, l < 16 → bits .or .i64 ((h : Int) * 16) (l : Int) = ((16 * h + l : Nat) : Int)) h hh l hl
def okP (l : List UInt8) (u : Nat) : Prop := ∀ j, j < u → 0 ≤ hv (l.getD (2 * j) 0) ∧ 0 ≤ hv (l.getD (2 * j + 1) 0)
instance (l : List UInt8) (u : Nat) : Decidable (okP l u) := by unfold okP; exact inferInstance
def pairB (a b : UInt8) : UInt8 := UInt8.ofNat (16 * (hv a).toNat + (hv b).toNat)
def outP (l : List UInt8) : Nat → List UInt8
  | 0 => []
  | u + 1 => outP l u ++ [pairB (l.getD (2 * u) 0) (l.getD (2 * u + 1) 0)]
theorem outP_len (l : List UInt8) (u : Nat) : (outP l u).length = u := by
  induction u with
  | zero => rfl
  | succ u ih => simp [outP, ih]
/-- what Unhex says -/
def unR (l : List UInt8) : List UInt8 × Int := if l.length % 2 = 1 then ([], 14) else if okP l (l.length / 2) then (outP l (l.length / 2), 0) else ([], 9)
theorem okP_step (l : List UInt8) (u : Nat) (h : okP l u) (h1 : 0 ≤ hv (l.getD (2 * u) 0)) (h2 : 0 ≤ hv (l.getD (2 * u + 1) 0)) : okP l (u + 1) := by
  intro j hj
  by_cases e : j = u
  · subst e; exact ⟨h1, h2⟩
  · exact h j (by omega)
theorem hex_out (l : List UInt8) (u : Nat) (hu : 2 * u ≤ l.length) (h : okP l u) : hexL (outP l u) = l.take (2 * u) := by
  induction u with
  | zero => rfl
  | succ u ih =>
    have hh := h u (by omega)
    have e1 : hexL (outP l u ++ [pairB (l.getD (2 * u) 0) (l.getD (2 * u + 1) 0)]) = hexL (outP l u) ++ [hexd ((pairB (l.getD (2 * u) 0) (l.getD (2 * u + 1) 0)).toNat / 16), hexd ((pairB (l.getD (2 * u) 0) (l.getD (2 * u + 1) 0)).toNat % 16)] := by
      simp only [hexL, List.flatMap_append, List.flatMap_cons, List.flatMap_nil, List.append_nil]
    have b1 := hv_lt (l.getD (2 * u) 0)
    have b2 := hv_lt (l.getD (2 * u + 1) 0)
    have e2 : (pairB (l.getD (2 * u) 0) (l.getD (2 * u + 1) 0)).toNat = 16 * (hv (l.getD (2 * u) 0)).toNat + (hv (l.getD (2 * u + 1) 0)).toNat := by
      unfold pairB
      rw [UInt8.toNat_ofNat']
      omega
    rw [outP, e1, ih (by omega) (fun j hj => h j (by omega)), e2, show (16 * (hv (l.getD (2 * u) 0)).toNat + (hv (l.getD (2 * u + 1) 0)).toNat) / 16 = (hv (l.getD (2 * u) 0)).toNat by omega, show (16 * (hv (l.getD (2 * u) 0)).toNat + (hv (l.getD (2 * u + 1) 0)).toNat) % 16 = (hv (l.getD (2 * u + 1) 0)).toNat by omega, hexd_hv _ hh.1, hexd_hv _ hh.2]
    rw [show 2 * (u + 1) = 2 * u + 1 + 1 by omega, List.take_succ_eq_append_getElem (by omega), List.take_succ_eq_append_getElem (by omega), List.getD_eq_getElem?_getD, List.getElem?_eq_getElem (by omega), List.getD_eq_getElem?_getD, List.getElem?_eq_getElem (by omega), List.append_assoc]
    rfl
theorem hexL_at (l : List UInt8) (j : Nat) (h : j < l.length) : (hexL l).getD (2 * j) 0 = hexd ((l.getD j 0).toNat / 16) ∧ (hexL l).getD (2 * j + 1) 0 = hexd ((l.getD j 0).toNat % 16) := by
  induction l generalizing j with
  | nil => cases h
  | cons a l ih =>
    cases j with
    | zero => exact ⟨rfl, rfl⟩
    | succ j =>
      have := ih j (by simpa using h)
      have e : hexL (a :: l) = hexd (a.toNat / 16) :: hexd (a.toNat % 16) :: hexL l := rfl
      rw [e, show 2 * (j + 1) = 2 * j + 1 + 1 by omega]
      exact this
theorem byte_join (b : UInt8) : UInt8.ofNat (16 * (b.toNat / 16) + b.toNat % 16) = b := by
  rw [Nat.div_add_mod, UInt8.ofNat_toNat]
theorem outP_hex (l : List UInt8) (u : Nat) (hu : u ≤ l.length) : okP (hexL l) u ∧ outP (hexL l) u = l.take u := by
  induction u with
  | zero => exact ⟨fun j hj => by omega, rfl⟩
  | succ u ih =>
    obtain ⟨h1, h2⟩ := ih (by omega)
    obtain ⟨a1, a2⟩ := hexL_at l u (by omega)
    have hb := (l.getD u 0).toNat_lt
    have v1 := hv_hexd ((l.getD u 0).toNat / 16) (by omega)
    have v2 := hv_hexd ((l.getD u 0).toNat % 16) (by omega)
    refine ⟨okP_step _ _ h1 (by rw [a1, v1]; omega) (by rw [a2, v2]; omega), ?_⟩
    rw [outP, h2, a1, a2, pairB, v1, v2, Int.toNat_natCast, Int.toNat_natCast, byte_join, List.take_succ_eq_append_getElem (by omega), List.getD_eq_getElem?_getD, List.getElem?_eq_getElem (by omega)]
    rfl
theorem unR_hex (l : List UInt8) : unR (hexL l) = (l, 0) := by
  have h := outP_hex l l.length (Nat.le_refl _)
  unfold unR
  rw [hexL_len, if_neg (by omega), show 2 * l.length / 2 = l.length by omega, if_pos h.1, h.2, List.take_length]
theorem hex_unR (l : List UInt8) (h : (unR l).2 = 0) : hexL (unR l).1 = l := by
  unfold unR at h ⊢
  by_cases h1 : l.length % 2 = 1
  · rw [if_pos h1] at h; cases h
  · rw [if_neg h1] at h ⊢
    by_cases h2 : okP l (l.length / 2)
    · rw [if_pos h2, hex_out l _ (by omega) h2, show 2 * (l.length / 2) = l.length by omega, List.take_length]
    · rw [if_neg h2] at h; cases h
theorem ib (b : UInt8) (W : World) : Calls Tryd.prog 60 #[.string ⟨#[48, 49, 50, 51, 52, 53, 54, 55, 56, 57, 97, 98, 99, 100, 101, 102]⟩, .int .u8 (b.toNat : Nat)] W fun e w' => e = .returned (.int .i64 (hv b)) ∧ w' = W := by
  have h := Tryd.strings_IndexByte digitsB (b.toNat : Nat) W
  rw [show (((b.toNat : Nat) : Int).toNat).toUInt8 = b from UInt8.ofNat_toNat, hv_index] at h
  exact h
set_option maxRecDepth 100000 in
set_option maxHeartbeats 800000 in
theorem unhex_any (t : ByteArray) (ht : t.size ≤ 100000) (w : World) :
    Calls Tryd.prog 33 #[.string t] w fun e w' => e = .returned (.tuple #[.string ⟨(unR t.data.toList).1.toArray⟩, .int .i64 (unR t.data.toList).2]) ∧ Below w.heap.size w w' := by
  by_cases hodd : t.size % 2 = 1
  · have t1 : Int.tmod (t.size : Int) 2 = 1 := by rw [show (1 : Int) = ((t.size % 2 : Nat) : Int) by omega]; exact (Int.ofNat_tmod t.size 2).symm
    have HR := Lib.hid (show unR t.data.toList = ([], 14) by unfold unR; rw [bytes_len, if_pos hodd])
    rw [HR.out]
    clear hodd
    go_enter Tryd.func33, Tryd.ntmps33
    go_wp2_with fail
    go_ret2
    exact ⟨rfl, Below.refl _ _⟩
  · have t1 : Int.tmod (t.size : Int) 2 = 0 := by rw [show (0 : Int) = ((t.size % 2 : Nat) : Int) by omega]; exact (Int.ofNat_tmod t.size 2).symm
    obtain ⟨n, hn⟩ : ∃ n, n = t.size / 2 := ⟨_, rfl⟩
    have hts : t.size = 2 * n := by omega
    obtain ⟨L, hL⟩ : ∃ L, L = t.data.toList := ⟨_, rfl⟩
    have hLn : L.length = 2 * n := by rw [hL, bytes_len]; exact hts
    have HR := Lib.hid (show unR L = if okP L n then (outP L n, 0) else ([], 9) by unfold unR; rw [hLn, if_neg (by omega), show 2 * n / 2 = n by omega])
    rw [← hL]
    obtain ⟨R, hR⟩ : ∃ R, R = unR L := ⟨_, rfl⟩
    rw [← hR]
    rw [← hR] at HR
    have HTS := Lib.hid hts
    have HL := Lib.hid hL
    clear hn hodd hLn hL hR hts
    go_enter Tryd.func33, Tryd.ntmps33
    go_wp2_with fail
    go_loopw [5] (fun i wr => ∃ X u : Nat, u ≤ n ∧ X = 2 * u ∧ i = .int .i64 X ∧ okP L u ∧ Lib.IsBuilderF 72 5 w.heap.size w.heap.size (Lib.byteCells (outP L u)) wr ∧ w.heap.size ≤ wr.heap.size ∧ Below w.heap.size w wr) (fun i _ => t.size - (intOf i).toNat)
    case atStart => exact ⟨0, 0, by omega, rfl, rfl, fun j hj => by omega, Lib.IsBuilderF.of (Lib.fresh_isBuilder 72 5 w), by simp, (Below.refl _ _).alloc (Nat.le_refl _) _⟩
    case round =>
      obtain ⟨X, u, hu, hX, rfl, hok, hB, hsz, hN⟩ := hrel
      have HX := Lib.hid hX
      have HOK := Lib.hid hok
      have HB := Lib.hid hB
      have HN := Lib.hid hN
      have HSZ := Lib.hid hsz
      clear hX hok hB hN hsz
      by_cases hun : u < n
      · obtain ⟨Y, hY⟩ : ∃ Y, Y = X + 1 := ⟨_, rfl⟩
        have hXs : X < t.size := by have := HTS.out; have := HX.out; omega
        have hYs : Y < t.size := by have := HTS.out; have := HX.out; omega
        have p1 : (X : Int) < t.size := by omega
        have p2 : (Y : Int) < t.size := by omega
        have p3 : (0 : Int) ≤ X := by omega
        have p4 : (0 : Int) ≤ Y := by omega
        have m1 : IntKind.i64.wrap ((X : Int) + 1) = (Y : Int) := by rw [IntWalk.i64_in _ (by omega)]; omega
        have A1 := Lib.hid (show L.getD (2 * u) 0 = t[X] by rw [HL.out, ← HX.out, getD_str t X hXs])
        have A2 := Lib.hid (show L.getD (2 * u + 1) 0 = t[Y] by rw [HL.out, ← HX.out, ← hY, getD_str t Y hYs])
        have I1 := Lib.hid (fun W => ib t[X] W)
        have I2 := Lib.hid (fun W => ib t[Y] W)
        have b1 := hv_lt t[X]
        have b2 := hv_lt t[Y]
        have HP := Lib.hid (show pairB t[X] t[Y] = UInt8.ofNat (16 * (hv t[X]).toNat + (hv t[Y]).toNat) from rfl)
        have HO := Lib.hid (show outP L (u + 1) = outP L u ++ [pairB t[X] t[Y]] by rw [outP, A1.out, A2.out])
        have HS := Lib.hid (fun (h1 : 0 ≤ hv t[X]) (h2 : 0 ≤ hv t[Y]) => okP_step L u HOK.out (by rw [A1.out]; exact h1) (by rw [A2.out]; exact h2))
        have HBAD := Lib.hid (fun (h : hv t[X] < 0 ∨ hv t[Y] < 0) => show R = ([], 9) by
          rw [HR.out, if_neg]
          intro hk
          have := hk u hun
          rw [A1.out, A2.out] at this
          omega)
        have HY := Lib.hid hY
        clear hY
        obtain ⟨h1, hh1⟩ : ∃ h, h = hv t[X] := ⟨_, rfl⟩
        obtain ⟨h2, hh2⟩ : ∃ h, h = hv t[Y] := ⟨_, rfl⟩
        rw [← hh1] at I1 b1 HP HS HBAD
        rw [← hh2] at I2 b2 HP HS HBAD
        clear hh1 hh2
        by_cases c1 : h1 < 0
        · have HR2 := Lib.hid (HBAD.out (.inl c1))
          go_wp2_with fail
          go_quiet (first
            | (go_at_call 60; with_reducible exact Calls.quiet_of_same (I1.out _))
            | (go_at_call 60; with_reducible exact Calls.quiet_of_same (I2.out _)))
          go_wp2_with fail
          go_ret2
          exact ⟨by rw [HR2.out]; rfl, below_drewNd HN.out _⟩
        · by_cases c2 : h2 < 0
          · have HR2 := Lib.hid (HBAD.out (.inr c2))
            go_wp2_with fail
            go_quiet (first
              | (go_at_call 60; with_reducible exact Calls.quiet_of_same (I1.out _))
              | (go_at_call 60; with_reducible exact Calls.quiet_of_same (I2.out _)))
            go_wp2_with fail
            go_ret2
            exact ⟨by rw [HR2.out]; rfl, below_drewNd HN.out _⟩
          · obtain ⟨k1, rfl⟩ := Int.eq_ofNat_of_zero_le (show 0 ≤ h1 by omega)
            obtain ⟨k2, rfl⟩ := Int.eq_ofNat_of_zero_le (show 0 ≤ h2 by omega)
            obtain ⟨v, hv1⟩ : ∃ v, v = 16 * k1 + k2 := ⟨_, rfl⟩
            have m2 : bits .or .i64 ((k1 : Int) * 16) (k2 : Int) = (v : Int) := by rw [or16 k1 k2 (by omega) (by omega), hv1]
            have m3 : IntKind.i64.wrap ((k1 : Int) * 16) = (k1 : Int) * 16 := IntWalk.i64_in _ (by omega)
            have m4 : (v : Int) % 256 = (v : Int) := by omega
            have m5 : IntKind.i64.wrap (X + 2) = (((X + 2 : Nat)) : Int) := by rw [IntWalk.i64_in _ (by omega)]; omega
            have HV := Lib.hid (show (pairB t[X] t[Y]).toNat = v by rw [HP.out, UInt8.toNat_ofNat', Int.toNat_natCast, Int.toNat_natCast]; omega)
            have HS2 := Lib.hid (HS.out (by omega) (by omega))
            have HLN := Lib.hid (show (Lib.byteCells (outP L u)).length + 1 ≤ 140737488355328 by rw [Lib.byteCells_length, outP_len]; have := HTS.out; omega)
            clear hv1 HS HBAD
            go_wp2_with fail
            go_quiet (first
              | (go_at_call 60; with_reducible exact Calls.quiet_of_same (I1.out _))
              | (go_at_call 60; with_reducible exact Calls.quiet_of_same (I2.out _)))
            generalize hwq : wr.drewN nq = wq
            have HBq := Lib.hid (show Lib.IsBuilderF 72 5 w.heap.size w.heap.size (Lib.byteCells (outP L u)) wq by rw [← hwq]; exact HB.out)
            have HNq := Lib.hid (show Below w.heap.size w wq by rw [← hwq]; exact below_drewNd HN.out _)
            have HSq := Lib.hid (show w.heap.size ≤ wq.heap.size by rw [← hwq]; exact HSZ.out)
            clear hwq
            go_wp2_with (go_at_call 61; refine (wbyte _ _ _ _ _ HBq.out HLN.out HSq.out).mono ?_; rintro e v2 ⟨rfl, hB2, hb2, _⟩; have B2 := Lib.hid hB2; have N2 := Lib.hid (HNq.out.trans hb2); have S2 := Lib.hid (Nat.le_trans HSq.out hb2.size); clear hB2 hb2)
            refine ⟨⟨X + 2, u + 1, by omega, by have := HX.out; omega, rfl, HS2.out, ?_, S2.out, N2.out⟩, by have := HX.out; have := HTS.out; simp [intOf]; omega⟩
            rw [HO.out, Lib.byteCells_append, show Lib.byteCells [pairB t[X] t[Y]] = [.int .u8 (v : Nat)] by rw [← HV.out]; rfl]
            exact Or.inr B2.out
      · obtain rfl : u = n := by omega
        have r1 : ¬ (X : Int) < t.size := by have := HTS.out; have := HX.out; omega
        have HR2 := Lib.hid (show R = (outP L u, 0) by rw [HR.out, if_pos HOK.out])
        go_wp2_with (go_at_call 49; refine (Tryd.Builder_String_any_k _ _ _ _ HB.out HSZ.out).mono ?_; rintro e v1 ⟨rfl, _, hb1, _⟩)
        go_ret2
        exact ⟨by rw [HR2.out]; rfl, HN.out.trans hb1⟩
end Go.Proofs.YtklikkmnemooeaaDoor
