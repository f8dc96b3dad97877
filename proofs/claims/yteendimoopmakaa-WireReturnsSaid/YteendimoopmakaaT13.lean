/- The reference's Number, String are the same bytes as the program's. For every int64, strings within the reach. -/
import Derived.Test.YteendimoopmakaaT12
namespace Go.Proofs.Yteendimoopmakaa
open Go.RowKit

theorem and64_127 (u : Nat) (hu : u < 18446744073709551616) : bits .and .u64 (u : Int) 127 = ((u % 128 : Nat) : Int) := by
  rw [show (127 : Int) = ((127 : Nat) : Int) from rfl, u64_and_nat u 127 hu (by omega), nat_mask7]
theorem and64_63 (u : Nat) (hu : u < 18446744073709551616) : bits .and .u64 (u : Int) 63 = ((u % 64 : Nat) : Int) := by
  rw [show (63 : Int) = ((63 : Nat) : Int) from rfl, u64_and_nat u 63 hu (by omega), nat_mask6]
theorem and64_31 (u : Nat) (hu : u < 18446744073709551616) : bits .and .u64 (u : Int) 31 = ((u % 32 : Nat) : Int) := by
  rw [show (31 : Int) = ((31 : Nat) : Int) from rfl, u64_and_nat u 31 hu (by omega), nat_mask5]
theorem or128' (x : Int) (h0 : 0 ≤ x) (h1 : x < 128) : bits .or .u8 128 x = 128 + x := by
  rw [u8_or _ _ (by omega) (by omega) (by omega) (by omega)]
  show ((128 ||| x.toNat : Nat) : Int) = _
  rw [nat_join 7 128 x.toNat (by decide) (by omega)]; omega
theorem or192' (x : Int) (h0 : 0 ≤ x) (h1 : x < 64) : bits .or .u8 192 x = 192 + x := by
  rw [u8_or _ _ (by omega) (by omega) (by omega) (by omega)]
  show ((192 ||| x.toNat : Nat) : Int) = _
  rw [nat_join 6 192 x.toNat (by decide) (by omega)]; omega

--GEN
theorem conv_lit {w : World} {cs : Array Value} {m : Nat} {bs : List UInt8} (hm : cs.size = m) (hm2 : m ≤ 100) (h : cs.toList = u8s bs) :
    (convert 62 9 (.slice (some ⟨w.heap.size, 0, none⟩) m m)).run Try.prog (w.alloc (.cells cs 5)) = .ok (.string ⟨bs.toArray⟩) (w.alloc (.cells cs 5)) := by
  have ho := World.ownsRow_lit (base := 0) (size := 1) (e := 5) w cs m (Nat.zero_le _) (by unfold maxLen; omega) (by omega)
  rw [h] at ho
  exact conv_bytes ho
def revTop (n : Int) (r : Nat) : List UInt8 := (revB n 8).take (8 - r)
theorem revTop_step (n : Int) (r : Nat) (hr : r < 8) : revTop n r = revTop n (r + 1) ++ [UInt8.ofNat (n / 256 ^ r % 256).toNat] := by
  rcases (show r = 0 ∨ r = 1 ∨ r = 2 ∨ r = 3 ∨ r = 4 ∨ r = 5 ∨ r = 6 ∨ r = 7 by omega) with rfl | rfl | rfl | rfl | rfl | rfl | rfl | rfl <;> rfl
theorem revTop_length (n : Int) (r : Nat) (hr : r ≤ 8) : (revTop n r).length = 8 - r := by unfold revTop; rw [List.length_take, revB_length]; omega
theorem u_byte (n : Int) (u r : Nat) (hu : (u : Int) = n % 18446744073709551616) (hr : r < 8) : ((u / 256 ^ r % 256 : Nat) : Int) = n / 256 ^ r % 256 := by
  have hd : ((u / 256 ^ r % 256 : Nat) : Int) = (u : Int) / 256 ^ r % 256 := by simp
  rw [hd, hu]
  rcases (show r = 0 ∨ r = 1 ∨ r = 2 ∨ r = 3 ∨ r = 4 ∨ r = 5 ∨ r = 6 ∨ r = 7 by omega) with rfl | rfl | rfl | rfl | rfl | rfl | rfl | rfl <;> simp <;> omega

theorem refNum_lit1 (n : Int) (u : Nat) (hu : (u : Int) = n % 18446744073709551616) (HNB : numB n = [UInt8.ofNat (n % 128).toNat]) : [.int .u8 (bits .and .u64 (u : Int) 127 % 256)] = u8s (numB n) := by
  have hu2 : u < 18446744073709551616 := by omega
  rw [HNB, and64_127 u hu2]
  show _ = [Value.int .u8 _]
  rw [u8cell _ (by omega) (by omega)]
  show [Value.int .u8 _] = _
  congr 2
  omega

set_option maxRecDepth 100000 in
set_option maxHeartbeats 1600000 in
theorem refNumber_1 (n : Int) (w : World) (hs : sizeN n = 1) :
    Calls Try.prog 38 #[.int .i64 n] w fun e w' => e = .returned (.string ⟨(numB n).toArray⟩) ∧ Below w.heap.size w w' := by
  obtain ⟨u, hu⟩ : ∃ u : Nat, (u : Int) = n % 18446744073709551616 := ⟨(n % 18446744073709551616).toNat, by omega⟩
  have eu : IntKind.u64.wrap n = (u : Int) := by rw [u64conv]; omega
  have hcv := conv_lit (w := w) (cs := #[.int .u8 (bits .and .u64 (u : Int) 127 % 256)]) (m := 1) rfl (by omega) (refNum_lit1 n u hu (numB_1 n hs))
  have HS := Lib.hid hs
  clear hs hu
  go_enter Try.func38, Try.ntmps38
  go_wp2_with fail
  refine (refSize_any n _).mono ?_
  rintro e w1 ⟨rfl, rfl⟩
  rw [HS.out]
  go_wp2
  go_ret
  exact ⟨rfl, (Below.refl _ _).alloc (Nat.le_refl _) _⟩

theorem refNum_lit2 (n : Int) (u : Nat) (hu : (u : Int) = n % 18446744073709551616) (HNB : numB n = UInt8.ofNat (128 + n / 256 % 64).toNat :: revB n 1) : [.int .u8 (bits .or .u8 128 (bits .and .u64 ((u : Int) / 256) 63 % 256)), .int .u8 ((u : Int) % 256)] = u8s (numB n) := by
  have hu2 : u < 18446744073709551616 := by omega
  rw [HNB, show ((u : Int) / 256) = ((u / 256 : Nat) : Int) from rfl, and64_63 (u / 256) (by omega), or128' _ (by omega) (by omega)]
  show _ = [Value.int .u8 _, Value.int .u8 _]
  rw [u8cell _ (by omega) (by omega), u8cell _ (by omega) (by omega)]
  have e1 : (128 + ((u / 256 % 64 : Nat) : Int) % 256) = 128 + n / 256 % 64 := by omega
  have e2 : (u : Int) % 256 = n / 256 ^ 0 % 256 := by simp; omega
  rw [e1, e2]

set_option maxRecDepth 100000 in
set_option maxHeartbeats 1600000 in
theorem refNumber_2 (n : Int) (w : World) (hs : sizeN n = 2) :
    Calls Try.prog 38 #[.int .i64 n] w fun e w' => e = .returned (.string ⟨(numB n).toArray⟩) ∧ Below w.heap.size w w' := by
  obtain ⟨u, hu⟩ : ∃ u : Nat, (u : Int) = n % 18446744073709551616 := ⟨(n % 18446744073709551616).toNat, by omega⟩
  have eu : IntKind.u64.wrap n = (u : Int) := by rw [u64conv]; omega
  have hcv := conv_lit (w := w) (cs := #[.int .u8 (bits .or .u8 128 (bits .and .u64 ((u : Int) / 256) 63 % 256)), .int .u8 ((u : Int) % 256)]) (m := 2) rfl (by omega) (refNum_lit2 n u hu (numB_2 n hs))
  have HS := Lib.hid hs
  clear hs hu
  go_enter Try.func38, Try.ntmps38
  go_wp2_with fail
  refine (refSize_any n _).mono ?_
  rintro e w1 ⟨rfl, rfl⟩
  rw [HS.out]
  go_wp2
  go_ret
  exact ⟨rfl, (Below.refl _ _).alloc (Nat.le_refl _) _⟩

theorem refNum_lit4 (n : Int) (u : Nat) (hu : (u : Int) = n % 18446744073709551616) (HNB : numB n = UInt8.ofNat (192 + n / 16777216 % 32).toNat :: revB n 3) : [.int .u8 (bits .or .u8 192 (bits .and .u64 ((u : Int) / 16777216) 31 % 256)), .int .u8 ((u : Int) / 65536 % 256), .int .u8 ((u : Int) / 256 % 256), .int .u8 ((u : Int) % 256)] = u8s (numB n) := by
  have hu2 : u < 18446744073709551616 := by omega
  rw [HNB, show ((u : Int) / 16777216) = ((u / 16777216 : Nat) : Int) from rfl, and64_31 (u / 16777216) (by omega), or192' _ (by omega) (by omega)]
  show _ = [Value.int .u8 _, Value.int .u8 _, Value.int .u8 _, Value.int .u8 _]
  rw [u8cell _ (by omega) (by omega), u8cell _ (by omega) (by omega), u8cell _ (by omega) (by omega), u8cell _ (by omega) (by omega)]
  have e1 : (192 + ((u / 16777216 % 32 : Nat) : Int) % 256) = 192 + n / 16777216 % 32 := by omega
  have e2 : (u : Int) / 65536 % 256 = n / 256 ^ 2 % 256 := by simp; omega
  have e3 : (u : Int) / 256 % 256 = n / 256 ^ 1 % 256 := by simp; omega
  have e4 : (u : Int) % 256 = n / 256 ^ 0 % 256 := by simp; omega
  rw [e1, e2, e3, e4]

set_option maxRecDepth 100000 in
set_option maxHeartbeats 1600000 in
theorem refNumber_4 (n : Int) (w : World) (hs : sizeN n = 4) :
    Calls Try.prog 38 #[.int .i64 n] w fun e w' => e = .returned (.string ⟨(numB n).toArray⟩) ∧ Below w.heap.size w w' := by
  obtain ⟨u, hu⟩ : ∃ u : Nat, (u : Int) = n % 18446744073709551616 := ⟨(n % 18446744073709551616).toNat, by omega⟩
  have eu : IntKind.u64.wrap n = (u : Int) := by rw [u64conv]; omega
  have hcv := conv_lit (w := w) (cs := #[.int .u8 (bits .or .u8 192 (bits .and .u64 ((u : Int) / 16777216) 31 % 256)), .int .u8 ((u : Int) / 65536 % 256), .int .u8 ((u : Int) / 256 % 256), .int .u8 ((u : Int) % 256)]) (m := 4) rfl (by omega) (refNum_lit4 n u hu (numB_4 n hs))
  have HS := Lib.hid hs
  clear hs hu
  go_enter Try.func38, Try.ntmps38
  go_wp2_with fail
  refine (refSize_any n _).mono ?_
  rintro e w1 ⟨rfl, rfl⟩
  rw [HS.out]
  go_wp2
  go_ret
  exact ⟨rfl, (Below.refl _ _).alloc (Nat.le_refl _) _⟩

set_option maxRecDepth 100000 in
set_option maxHeartbeats 3200000 in
theorem refNumber_9 (n : Int) (w : World) (hs : sizeN n = 9) :
    Calls Try.prog 38 #[.int .i64 n] w fun e w' => e = .returned (.string ⟨(numB n).toArray⟩) ∧ Below w.heap.size w w' := by
  obtain ⟨i0, hi, hz0, hz1, hz2⟩ := info_parts Try.info5
  obtain ⟨u, hu⟩ : ∃ u : Nat, (u : Int) = n % 18446744073709551616 := ⟨(n % 18446744073709551616).toNat, by omega⟩
  have hu2 : u < 18446744073709551616 := by omega
  have eu : IntKind.u64.wrap n = (u : Int) := by rw [u64conv]; omega
  have HN := Lib.hid (numB_9 n hs)
  have HS := Lib.hid hs
  have HU := Lib.hid hu
  have HU2 := Lib.hid hu2
  clear hs hu hu2
  go_enter Try.func38, Try.ntmps38
  go_wp2_with fail
  refine (refSize_any n _).mono ?_
  rintro e w1 ⟨rfl, rfl⟩
  rw [HS.out]
  go_wp2_with fail
  go_loopw [4, 5] (fun v i wr => ∃ r : Nat, r ≤ 8 ∧ i = .int .i64 ((r : Int) - 1) ∧ wr.ownsRow w.heap.size 5 1 v (9 - r) (u8s (224 :: revTop n r)) ∧ Below w.heap.size w wr) (fun _ i _ => (intOf i + 1).toNat)
  case atStart =>
    refine ⟨8, by omega, rfl, ?_, (Below.refl _ _).alloc (Nat.le_refl _) _⟩
    exact World.ownsRow_lit (base := w.heap.size) (size := 1) (e := 5) w #[.int .u8 224] 1 (Nat.le_refl _) (by unfold maxLen; omega) rfl
  case round =>
    obtain ⟨r, hr, rfl, hown, hb⟩ := hrel
    have hbs := hb.size
    rcases r with _ | r
    · have hcv := conv_bytes hown
      have HC := Lib.hid (show (224 :: revTop n 0 : List UInt8) = numB n by rw [HN.out]; rfl)
      rw [HC.out] at hcv
      clear hown
      go_wp2
      go_ret
      exact ⟨rfl, hb⟩
    · have HT := Lib.hid (revTop_step n r (by omega))
      have HB := Lib.hid (show (u : Int) / 2 ^ (8 * r) % 256 = n / 256 ^ r % 256 by rw [← u_byte n u r HU.out (by omega), p256]; simp)
      have HNS := Lib.hid (u8s_single (n / 256 ^ r % 256) (Int.emod_nonneg _ (by omega)) (Int.emod_lt_of_pos _ (by omega)))
      have ei : (((r + 1 : Nat) : Int) - 1) = (r : Int) := by omega
      rw [ei]
      clear ei
      have hpos : (0 : Int) ≤ (u : Int) / 2 ^ (8 * r) % 256 := by omega
      go_wp2_with (at_builtin; refine wpList_append_own_at _ rfl (.tmp 50) (.tmp 56) 62 rfl w.heap.size 5 i0 (.int .u8 0) 1 1 Try.underlying62 hi hz0 hz1 hz2 rfl (by decide) _ (9 - (r + 1)) (u8s (224 :: revTop n (r + 1))) rfl (hown.alloc _) ⟨wr.heap.size, 0, none⟩ 1 1 [.int .u8 ((u : Int) / 2 ^ (8 * r) % 256)] rfl rfl (cell_one_new _ _ _) (by simp [Value.oneCell']) ?b1 ?b2 ?b3 ?go)
      case b1 => unfold maxLen; omega
      case b2 => omega
      case b3 => simp; omega
      case go =>
        intro v' w2 hown2 hg _ _
        have hb2 := (hb.alloc hbs _).grown hg (by simp; omega) (fun g e => (hown.lt g e).1)
        rw [HB.out, ← HNS.out, ← u8s_append] at hown2
        rw [show 224 :: revTop n (r + 1) ++ [UInt8.ofNat (n / 256 ^ r % 256).toNat] = 224 :: revTop n r by rw [HT.out]; rfl, show 8 - r + 1 = 9 - r by omega] at hown2
        clear hown hg hpos
        have HO := Lib.hid hown2
        have HB2 := Lib.hid hb2
        clear hown2 hb2
        go_wp2
        go_roundw
        case rel => exact ⟨r, by omega, rfl, HO.out, HB2.out⟩
        case measure => simp [intOf]
theorem refNumber_any (n : Int) (w : World) : Calls Try.prog 38 #[.int .i64 n] w fun e w' => e = .returned (.string ⟨(numB n).toArray⟩) ∧ Below w.heap.size w w' := by
  rcases sizeN_cases n with h | h | h | h
  · exact refNumber_1 n w h
  · exact refNumber_2 n w h
  · exact refNumber_4 n w h
  · exact refNumber_9 n w h
theorem str_append (l : List UInt8) (s : ByteArray) : (⟨l.toArray⟩ : ByteArray) ++ s = ⟨(l ++ s.data.toList).toArray⟩ := by
  apply ByteArray.ext
  rw [ByteArray.data_append]
  simp
theorem refString_limit (s : ByteArray) (w : World) (hs : 1048576 < s.size) : Calls Try.prog 39 #[.string s] w (RefPost w [] 3) := by
  go_enter Try.func39, Try.ntmps39
  go_wp2
  go_ret2
  exact refPost_err (Below.refl _ _)
theorem refString_any (s : ByteArray) (w : World) (hs : s.size ≤ 1048576) : Calls Try.prog 39 #[.string s] w (RefPost w (numB s.size ++ s.data.toList) 0) := by
  have hnl : (numB s.size).length ≤ 9 := by rw [numB_length]; rcases sizeN_cases s.size with h | h | h | h <;> omega
  go_enter Try.func39, Try.ntmps39
  go_wp2_with fail
  refine (refNumber_any s.size _).mono ?_
  rintro e w1 ⟨rfl, hb1⟩
  have HS := Lib.hid (str_append (numB s.size) s)
  go_wp2
  go_ret2
  exact ⟨by rw [← HS.out]; rfl, hb1⟩
end Go.Proofs.Yteendimoopmakaa
