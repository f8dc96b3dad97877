/- product at Order (func 58); mark (func 63): the number of the first eight bytes of a digest. -/
import Derived.Test.YtklikkmnemooeaaDoorDH
import Derived.Test.YtklikkmnemooeaaDoorDE
namespace Go.Proofs.YtklikkmnemooeaaDoor
open Go.RowKit
theorem hi_ltQ (a b : Nat) (ha : a < 1152921504606845789) (hb : b < 1152921504606845789) : a * b / 18446744073709551616 < 1152921504606845789 := by
  rw [Nat.div_lt_iff_lt_mul (by decide)]
  rcases Nat.eq_zero_or_pos b with e | e
  · subst e; exact Nat.lt_of_le_of_lt (Nat.le_of_eq (Nat.mul_zero a)) (by decide)
  · exact Nat.lt_of_lt_of_le ((Nat.mul_lt_mul_right e).2 ha) (Nat.mul_le_mul_left _ (by omega))
theorem productQ_told (a b RR : Nat) (ha : a < 1152921504606845789) (hb : b < 1152921504606845789) (hR : RR = a * b % 1152921504606845789) (w : World) :
    Calls Tryd.prog 58 #[.int .i64 a, .int .i64 b, .int .i64 1152921504606845789] w fun e w' => e = .returned (.int .i64 RR) ∧ Below w.heap.size w w' := by
  obtain ⟨hi, hhi⟩ : ∃ x, x = a * b / 18446744073709551616 := ⟨_, rfl⟩
  obtain ⟨lo, hlo⟩ : ∃ x, x = a * b % 18446744073709551616 := ⟨_, rfl⟩
  have C72 : ∀ W, Calls Tryd.prog 72 #[.int .u64 a, .int .u64 b] W fun e w' => e = .returned (.tuple #[.int .u64 hi, .int .u64 lo]) ∧ w' = W := fun W => by
    rw [hhi, hlo]; exact Tryd.bits_Mul64 a b (by omega) (by omega) W
  have hhl : hi * 18446744073709551616 + lo = a * b := by rw [hhi, hlo, Nat.mul_comm]; exact Nat.div_add_mod _ _
  obtain ⟨QQ, hQ⟩ : ∃ q, q = (hi * 18446744073709551616 + lo) / 1152921504606845789 := ⟨_, rfl⟩
  have C73 : ∀ W, Calls Tryd.prog 73 #[.int .u64 hi, .int .u64 lo, .int .u64 1152921504606845789] W fun e w' => e = .returned (.tuple #[.int .u64 QQ, .int .u64 RR]) ∧ Below W.heap.size W w' := fun W =>
    Ord.div_told hi lo QQ RR (by rw [hhi]; exact hi_ltQ a b ha hb) (by rw [hlo]; exact Nat.mod_lt _ (by decide)) hQ (by rw [hhl]; exact hR) W
  have hRl : RR < 1152921504606845789 := by rw [hR]; exact Nat.mod_lt _ (by decide)
  have f1 : IntKind.u64.wrap (a : Int) = a := wrapu a (by omega)
  have f2 : IntKind.u64.wrap (b : Int) = b := wrapu b (by omega)
  have f3 : IntKind.i64.wrap (RR : Int) = RR := IntWalk.i64_in _ (by omega)
  have H72 := Lib.hid C72
  have H73 := Lib.hid C73
  clear C72 C73 hhi hlo hhl hQ hR
  go_enter Tryd.func58, Tryd.ntmps58
  go_wp2_with (first
    | (go_at_call 72; refine (H72.out _).mono ?_; rintro e v1 ⟨rfl, rfl⟩)
    | (go_at_call 73; refine (H73.out _).mono ?_; rintro e v2 ⟨rfl, hb2⟩; have B2 := Lib.hid hb2; clear hb2))
  go_ret
  exact ⟨rfl, B2.out⟩
/-- the number of the first k bytes, the highest first -/
def be (l : List UInt8) : Nat → Nat
  | 0 => 0
  | k + 1 => be l k * 256 + (l.getD k 0).toNat
theorem be_lt (l : List UInt8) (k : Nat) : be l k < 256 ^ k := by
  induction k with
  | zero => exact Nat.one_pos
  | succ k ih => have := (l.getD k 0).toNat_lt; rw [be, Nat.pow_succ]; omega
theorem be_lt8 (l : List UInt8) (k : Nat) (hk : k < 8) : be l k < 72057594037927936 := Nat.lt_of_lt_of_le (be_lt l k) (Nat.le_trans (Nat.pow_le_pow_right (by decide) (show k ≤ 7 by omega)) (by decide))
def markOf (r : Nat) (s : List UInt8) : Nat := be (SH.sum (SH.bytes8 r ++ s)) 8 % 1152921504606845789
theorem markOf_lt (r : Nat) (s : List UInt8) : markOf r s < 1152921504606845789 := Nat.mod_lt _ (by decide)
theorem or256 (n : Nat) (c : UInt8) (h1 : n < 72057594037927936) : bits .or .u64 ((n : Int) * 256) (c.toNat : Int) = ((n * 256 + c.toNat : Nat) : Int) := by
  have := c.toNat_lt
  rw [show (n : Int) * 256 = ((n * 256 : Nat) : Int) by omega, u64_or_nat _ _ (by omega) (by omega), nat_join 8 _ _ (by omega) (by omega)]
/-- the bytes of a string, in a block of the world's own -/
def Byt (v : World) (g : Nat) (T : ByteArray) : Prop := ∀ j, j < T.data.toList.length → v.cell? ⟨g, j, none⟩ = some (.int .u8 ((T.data.toList.getD j 0).toNat : Nat))
theorem bytes_there (v : World) (T : ByteArray) : ∃ (cap : Nat) (W0 : World), (convert 9 39 (.string T)).run Tryd.prog v = .ok (.slice (some ⟨v.heap.size, 0, none⟩) T.size cap) W0 ∧ Byt W0 v.heap.size T ∧ Below v.heap.size v W0 := by
  have hcv := run_bytes_of_string v 9 39 5 T Tryd.underlying9 Tryd.underlying39 Tryd.underlying5
  generalize grownCap v T.size 0 5 = cap at hcv
  refine ⟨cap, _, hcv, ?_, ((Below.refl _ v).drew).alloc (Nat.le_refl _) _⟩
  intro j hj
  have hj' : j < T.data.size := by simpa using hj
  rw [cell_of_row _ v.heap.size j _ 5 _ (heap_alloc_new v.drew _), bytesRow_at T cap j hj', List.getD_eq_getElem?_getD, List.getElem?_eq_getElem hj]
  rfl
set_option maxRecDepth 100000 in
set_option maxHeartbeats 800000 in
theorem mark_any (r : Nat) (hr : r < 9223372036854775808) (s : ByteArray) (hs : s.size < 288230376151711744) (w : World) (hT : Tabs w) :
    Calls Tryd.prog 63 #[.int .i64 r, .string s] w fun e w' => e = .returned (.int .i64 (markOf r s.data.toList : Nat)) ∧ Below w.heap.size w w' := by
  have HT := Lib.hid hT
  have HS := Lib.hid hs
  clear hT hs
  obtain ⟨M, hM⟩ : ∃ M, M = markOf r s.data.toList := ⟨_, rfl⟩
  have hMl : M < 1152921504606845789 := by rw [hM]; exact markOf_lt _ _
  rw [← hM]
  obtain ⟨E8, hE⟩ : ∃ E8 : ByteArray, E8 = ⟨(SH.bytes8 r).toArray⟩ := ⟨_, rfl⟩
  obtain ⟨D, hD⟩ : ∃ D : ByteArray, D = ⟨(SH.sum (E8.data.toList ++ s.data.toList)).toArray⟩ := ⟨_, rfl⟩
  obtain ⟨T, hTT⟩ : ∃ T : ByteArray, T = D.extract 0 8 := ⟨_, rfl⟩
  have hDs : D.size = 32 := by rw [← bytes_len, hD, str_list, sum_len]
  have hTs : T.size = 8 := by rw [hTT, ByteArray.size_extract, hDs]; rfl
  have hTl : ∀ j, j < 8 → T.data.toList.getD j 0 = (SH.sum (SH.bytes8 r ++ s.data.toList)).getD j 0 := by
    intro j hj
    rw [hTT, ex_take, hD, str_list, hE, str_list, List.getD_eq_getElem?_getD, List.getElem?_take_of_lt hj, List.getD_eq_getElem?_getD]
  have HTL := Lib.hid hTl
  have HEL := Lib.hid (show E8.data.toList.length = 8 by rw [hE]; rfl)
  have HES := Lib.hid (show E8.size = 8 by rw [← bytes_len, hE]; rfl)
  have HTS := Lib.hid (show T.data.toList.length = 8 by rw [bytes_len]; exact hTs)
  have HTZ := Lib.hid hTs
  have HM := Lib.hid hM
  clear hTs
  have f1 : IntKind.u64.wrap (r : Int) = r := wrapu r (by omega)
  have f2 : (8 : Int) ≤ D.size := by omega
  have f3 : 8 ≤ D.size := by omega
  have f4 : IntKind.i64.wrap (M : Int) = M := IntWalk.i64_in _ (by omega)
  have C47 := Lib.hid (fun W => (eight_any r W).mono (fun e w' h => by rw [← hE] at h; exact h))
  have C13 := Lib.hid (fun y b q (hI : IsH (E8.data.toList ++ s.data.toList) y b q) W (hW : Tabs W) => (hsum (E8.data.toList ++ s.data.toList) y b q hI (by have h1 := HEL.out; have h2 := HS.out; rw [List.length_append, h1, bytes_len]; omega) W hW).mono (fun e w' h => by rw [← hD] at h; exact h))
  have HTE := Lib.hid hTT
  clear hM hE hD hTT hTl
  go_enter Tryd.func63, Tryd.ntmps63
  go_wp2_with (first
    | (go_at_call 47; refine (C47.out _).mono ?_; rintro e v1 ⟨rfl, hb1⟩; have B1 := Lib.hid hb1; clear hb1)
    | (go_at_call 12; have tok := B2; clear tok; refine (hadd _ y2 b2 r2 s HI2.out (by have h1 := HEL.out; have h2 := HS.out; omega) _ (HT.out.keep B2.out)).mono ?_; rintro e v3 ⟨y3, b3, r3, rfl, hI, hb3⟩; have HI3 := Lib.hid hI; have B3 := Lib.hid (keepBelow B2.out hb3); clear hI hb3)
    | (go_at_call 12; have tok := B1; clear tok; refine (hadd0 E8 (by have h1 := HES.out; omega) _ (HT.out.keep B1.out)).mono ?_; rintro e v2 ⟨y2, b2, r2, rfl, hI, hb2⟩; have HI2 := Lib.hid hI; have B2 := Lib.hid (keepBelow B1.out hb2); clear hI hb2)
    | (go_at_call 13; have tok := B3; clear tok; refine (C13.out _ _ _ HI3.out _ (HT.out.keep B3.out)).mono ?_; rintro e v4 ⟨rfl, hb4⟩; have B4 := Lib.hid (keepBelow B3.out hb4); clear hb4; obtain ⟨cap, W0, hcv, hby, hbw⟩ := bytes_there v4 T; rw [HTZ.out, HTE.out] at hcv; have HBY := Lib.hid hby; have B5 := Lib.hid (keepBelow B4.out hbw); clear hby hbw))
  obtain ⟨g, hg⟩ : ∃ g, g = v4.heap.size := ⟨_, rfl⟩
  rw [← hg]
  rw [← hg] at HBY
  clear hcv hg
  go_loopw [5, 19] (fun n i wr => ∃ u : Nat, u ≤ 8 ∧ i = .int .i64 u ∧ n = .int .u64 (be T.data.toList u : Nat) ∧ wr = W0) (fun _ i _ => 8 - (intOf i).toNat)
  case atStart => exact ⟨0, by omega, rfl, rfl, rfl⟩
  case round =>
    obtain ⟨u, hu, rfl, rfl, rfl⟩ := hrel
    by_cases hlt : u < 8
    · have hul : u < T.data.toList.length := by rw [HTS.out]; exact hlt
      have hc := HBY.out u hul
      have hn := be_lt8 T.data.toList u hlt
      have HN := Lib.hid (show be T.data.toList (u + 1) = be T.data.toList u * 256 + (T.data.toList.getD u 0).toNat from rfl)
      generalize T.data.toList.getD u 0 = c at *
      generalize be T.data.toList u = n at *
      have HX := Lib.hid (or256 n c hn)
      have p1 : (0 : Int) ≤ u := by omega
      have p2 : (u : Int) < 8 := by omega
      have p3 : IntKind.u64.wrap ((n : Int) * 256) = (n : Int) * 256 := by rw [IntKind.wrap_u64]; omega
      have p4 : ((c.toNat : Nat) : Int) % 18446744073709551616 = c.toNat := by have := c.toNat_lt; omega
      have p5 : IntKind.u64.wrap ((c.toNat : Nat) : Int) = c.toNat := by rw [IntKind.wrap_u64]; exact p4
      have HN2 := Lib.hid hn
      clear hn
      go_wp2_with fail
      exact ⟨⟨u + 1, by omega, rfl, by rw [HX.out, HN.out], trivial⟩, by simp [intOf]; omega⟩
    · obtain rfl : u = 8 := by omega
      have q1 : Int.tmod ((be T.data.toList 8 : Nat) : Int) 1152921504606845789 = (M : Int) := by
        rw [HM.out]
        unfold markOf
        rw [show be (SH.sum (SH.bytes8 r ++ s.data.toList)) 8 = be T.data.toList 8 from by simp only [be, HTL.out _ (show 0 < 8 by decide), HTL.out _ (show 1 < 8 by decide), HTL.out _ (show 2 < 8 by decide), HTL.out _ (show 3 < 8 by decide), HTL.out _ (show 4 < 8 by decide), HTL.out _ (show 5 < 8 by decide), HTL.out _ (show 6 < 8 by decide), HTL.out _ (show 7 < 8 by decide)]]
        exact (Int.ofNat_tmod _ 1152921504606845789).symm
      have q2 : IntKind.u64.wrap (M : Int) = (M : Int) := wrapu M (by omega)
      generalize be T.data.toList 8 = n at *
      go_wp2_with fail
      go_ret
      exact ⟨rfl, B5.out⟩
end Go.Proofs.YtklikkmnemooeaaDoor
