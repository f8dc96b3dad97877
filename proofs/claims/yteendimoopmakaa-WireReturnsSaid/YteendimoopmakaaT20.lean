/- A reader's little numbers, signed and unsigned. For a reader whose place lies in its string. -/
import Derived.Test.YteendimoopmakaaT18
import Derived.Test.YteendimoopmakaaT3
import Derived.Laws.BitsAllLaws
namespace Go.Proofs.Yteendimoopmakaa
open Go.RowKit

def leN : List UInt8 → Nat
  | [] => 0
  | b :: l => b.toNat + 256 * leN l
theorem leN_lt : ∀ l : List UInt8, leN l < 256 ^ l.length
  | [] => by simp [leN]
  | b :: l => by
    have := leN_lt l
    have hb := b.toNat_lt
    simp only [leN, List.length_cons, Nat.pow_succ]
    omega
theorem leN_snoc : ∀ (l : List UInt8) (b : UInt8), leN (l ++ [b]) = leN l + b.toNat * 256 ^ l.length
  | [], b => by simp [leN]
  | c :: l, b => by
    simp only [List.cons_append, leN, leN_snoc l b, List.length_cons, Nat.pow_succ]
    rw [Nat.mul_add, Nat.add_assoc]
    congr 2
    rw [Nat.mul_comm 256, Nat.mul_assoc]

theorem leN_step (l : List UInt8) (b : UInt8) (k : Nat) (hl : l.length = k) (hk : k < 8) : ((leN (l ++ [b]) : Nat) : Int) = bits .or .u64 (leN l) (IntKind.u64.wrap ((b.toNat : Int) * 2 ^ (8 * k))) := by
  have hlt := leN_lt l
  have hp : (256 : Nat) ^ k = 2 ^ (8 * k) := by rw [Nat.pow_mul]
  have hP : (2 : Nat) ^ (8 * k) ≤ 2 ^ 56 := Nat.pow_le_pow_right (by omega) (by omega)
  have hb := b.toNat_lt
  rw [hl, hp] at hlt
  rw [leN_snoc, hl, hp]
  have hc : ((b.toNat : Int) * 2 ^ (8 * k)) = ((b.toNat * 2 ^ (8 * k) : Nat) : Int) := by rw [Int.natCast_mul, Int.natCast_pow]; rfl
  have hx : b.toNat * 2 ^ (8 * k) ≤ 255 * 2 ^ 56 := Nat.mul_le_mul (by omega) hP
  have hj : (b.toNat * 2 ^ (8 * k)) % 2 ^ (8 * k) = 0 := Nat.mul_mod_left _ _
  rw [hc, wrapu, Int.emod_eq_of_lt (by omega) (by omega), u64_or _ _ (by omega) (by omega) (by omega) (by omega), Int.toNat_natCast, Int.toNat_natCast, Nat.or_comm, nat_join (8 * k) _ _ hj hlt, Nat.add_comm]

set_option maxHeartbeats 1600000 in
theorem rlittle_ok (m : Nat) (r : Nat) (s : ByteArray) (a : Nat) (w : World) (h : RdAt w r s a 0) (ha : a ≤ s.size) (hs : s.size ≤ 140737488351232) (hm : m = 1 ∨ m = 2 ∨ m = 4 ∨ m = 8) (hfit : a + m ≤ s.size) :
    Calls Try.prog 72 #[.pointer (some ⟨r, 0, none⟩), .int .i64 m] w (RdPost w r s (.int .u64 (leN (s.extract a (a + m)).data.toList)) 0 (a + m)) := by
  have hsd : sized m = true := sized_iff.2 (by omega)
  have hqs : (s.extract a (a + m)).size = m := by rw [ByteArray.size_extract]; omega
  have HQ := Lib.hid hqs
  clear hqs
  generalize hV : leN (s.extract a (a + m)).data.toList = V
  have HV := Lib.hid hV
  clear hV
  go_enter Try.func72, Try.ntmps72
  go_wp2_with fail
  refine (width_any m w).mono ?_
  rintro e w1 ⟨rfl, hb1⟩
  rw [hsd]
  have hr1 := Blk.below h hb1 (Blk.lt h)
  clear hsd
  go_wp2_with fail
  refine (take_ok m r s a 0 w1 hr1 ha hs hfit).mono ?_
  rintro e w2 ⟨rfl, hR, hg⟩
  have hRd : Rd w w2 r s (a + m) 0 := rd_ext hb1 ⟨hR, hg⟩
  clear hR hg hr1 hb1
  generalize s.extract a (a + m) = q at HQ HV ⊢
  have hq0 : m ≤ q.size := by rw [HQ.out]; omega
  have hq1 : q.size ≤ m := by rw [HQ.out]; omega
  have hm8 : m ≤ 8 := by omega
  have HM := Lib.hid hm
  clear hm
  go_wp2_with fail
  go_loop [8, 9, 21] (fun u _ i => ∃ k : Nat, k ≤ m ∧ i = .int .i64 k ∧ u = .int .u64 (leN (q.data.toList.take k))) (fun _ _ i => m - (intOf i).toNat)
  case atStart => exact ⟨0, by omega, rfl, rfl⟩
  case round =>
    obtain ⟨k, hk, rfl, rfl⟩ := hrel
    by_cases hlt : k < m
    · have hlq : k < q.size := by omega
      have hb8 := q[k].toNat_lt
      have e8 : IntKind.i64.wrap (8 * (k : Int)) = 8 * k := IntWalk.i64_in _ (by omega)
      have e8n : 0 ≤ 8 * (k : Int) := by omega
      have e8t : (8 * (k : Int)).toNat = 8 * k := by omega
      go_wp2
      go_round
      case rel => exact ⟨k + 1, by omega, by go_num, by rw [take_snoc_str q k hlq, leN_step _ _ k (by rw [List.length_take, Array.length_toList]; exact Nat.min_eq_left (by exact Nat.le_of_lt hlq)) (by omega)]⟩
      case measure => simp [intOf]; omega
    · obtain rfl : k = m := by omega
      have htk : q.data.toList.take k = q.data.toList := List.take_of_length_le (by have hl : q.data.toList.length = q.size := Array.length_toList; omega)
      rw [htk]
      go_wp2
      go_ret2
      rw [← HV.out]
      exact RdPost.ok hRd hfit

theorem rlittle_bad (n : Int) (r : Nat) (s : ByteArray) (a : Nat) (w : World) (h : RdAt w r s a 0) (ha : a ≤ s.size) (hm : sized n = false) :
    Calls Try.prog 72 #[.pointer (some ⟨r, 0, none⟩), .int .i64 n] w (RdPost w r s (.int .u64 0) 1 a) := by
  go_enter Try.func72, Try.ntmps72
  go_wp2_with fail
  refine (width_any n w).mono ?_
  rintro e w1 ⟨rfl, hb1⟩
  rw [hm]
  have hr1 := Blk.below h hb1 (Blk.lt h)
  clear hm
  go_wp2
  go_ret2
  exact RdPost.err (by decide) (rd_ext hb1 (rd_drewN hr1 0)) ha

set_option maxHeartbeats 800000 in
theorem rlittle_short (m : Nat) (r : Nat) (s : ByteArray) (a : Nat) (w : World) (h : RdAt w r s a 0) (ha : a ≤ s.size) (hs : s.size ≤ 140737488351232) (hm : sized m = true) (hfit : s.size < a + m) :
    Calls Try.prog 72 #[.pointer (some ⟨r, 0, none⟩), .int .i64 m] w (RdPost w r s (.int .u64 0) 16 a) := by
  go_enter Try.func72, Try.ntmps72
  go_wp2_with fail
  refine (width_any m w).mono ?_
  rintro e w1 ⟨rfl, hb1⟩
  rw [hm]
  have hr1 := Blk.below h hb1 (Blk.lt h)
  clear hm
  go_wp2_with fail
  refine (take_end m r s a 0 w1 hr1 ha hs (by omega)).mono ?_
  rintro e w2 ⟨rfl, hR, hg⟩
  have hRd : Rd w w2 r s a 0 := rd_ext hb1 ⟨hR, hg⟩
  clear hR hg hr1 hb1
  go_wp2_with fail
  go_loop [8, 9, 21] (fun u _ i => i = .int .i64 0 ∧ u = .int .u64 0) (fun _ _ i => 0)
  case atStart => exact ⟨rfl, rfl⟩
  case round =>
    obtain ⟨rfl, rfl⟩ := hrel
    go_wp2
    go_ret2
    exact RdPost.err (by decide) hRd ha

/-- The error of a little number's reading, and its bits. -/
def rlC (s : ByteArray) (a : Nat) (n : Int) : Int := if sized n = false then 1 else if (s.size : Int) - a < n then 16 else 0
def rlV (s : ByteArray) (a : Nat) (n : Int) : Nat := if rlC s a n = 0 then leN (s.extract a (a + n.toNat)).data.toList else 0
theorem rlittle_any (n : Int) (r : Nat) (s : ByteArray) (a : Nat) (w : World) (h : RdAt w r s a 0) (ha : a ≤ s.size) (hs : s.size ≤ 140737488351232) :
    Calls Try.prog 72 #[.pointer (some ⟨r, 0, none⟩), .int .i64 n] w (RdPost w r s (.int .u64 (rlV s a n)) (rlC s a n) (a + n.toNat)) := by
  unfold rlV rlC
  cases hm : sized n with
  | false =>
    simp only [if_true]
    refine (rlittle_bad n r s a w h ha hm).mono ?_
    rintro e w1 ⟨rfl, k, h1, h2, h3⟩
    exact ⟨by simp, k, h1, h2, fun h => by cases h⟩
  | true =>
    have hm' := sized_iff.1 hm
    obtain ⟨m, rfl⟩ := Int.eq_ofNat_of_zero_le (show 0 ≤ n by omega)
    simp only [Bool.true_eq_false, if_false]
    by_cases hlt : (s.size : Int) - a < m
    · rw [if_pos hlt]
      refine (rlittle_short m r s a w h ha hs hm (by omega)).mono ?_
      rintro e w1 ⟨rfl, k, h1, h2, h3⟩
      exact ⟨by simp, k, h1, h2, fun h => by cases h⟩
    · rw [if_neg hlt]
      simp only [if_true, Int.toNat_natCast]
      exact rlittle_ok m r s a w h ha hs (by omega) (by omega)
theorem rlV_lt (s : ByteArray) (a : Nat) (n : Int) : rlV s a n < 18446744073709551616 := by
  unfold rlV
  split
  · rename_i h
    unfold rlC at h
    split at h
    · cases h
    · rename_i hm
      have hm' := sized_iff.1 (by simpa using hm : sized n = true)
      have h1 := leN_lt (s.extract a (a + n.toNat)).data.toList
      have h2 : (s.extract a (a + n.toNat)).data.toList.length ≤ 8 := by
        have hq : (s.extract a (a + n.toNat)).data.toList.length = (s.extract a (a + n.toNat)).size := Array.length_toList
        rw [hq, ByteArray.size_extract]; omega
      have h3 : (256 : Nat) ^ (s.extract a (a + n.toNat)).data.toList.length ≤ 256 ^ 8 := Nat.pow_le_pow_right (by omega) h2
      omega
  · omega

/-- Little's outcome. -/
def ltC (s : ByteArray) (a : Nat) (n : Int) : Int := if rlC s a n = 0 ∧ 9223372036854775808 ≤ rlV s a n then 11 else rlC s a n
def ltV (s : ByteArray) (a : Nat) (n : Int) : Int := if rlC s a n = 0 ∧ 9223372036854775808 ≤ rlV s a n then 0 else rlV s a n
theorem w64_big (U : Nat) (h1 : 9223372036854775808 ≤ U) (h2 : U < 18446744073709551616) : wrap64 (U : Int) = (U : Int) - 18446744073709551616 := by unfold wrap64; omega
theorem w64_small (U : Nat) (h1 : U < 9223372036854775808) : wrap64 (U : Int) = (U : Int) := by unfold wrap64; omega

set_option maxHeartbeats 800000 in
theorem Little1_any (n : Int) (r : Nat) (s : ByteArray) (a : Nat) (w : World) (c0 c1 : Nat) (h : RdAt w r s a 0) (ha : a ≤ s.size) (hs : s.size ≤ 140737488351232) (h0 : w.cell? ⟨c0, 0, none⟩ = some (.pointer (some ⟨r, 0, none⟩))) (h1 : w.cell? ⟨c1, 0, none⟩ = some (.int .i64 n)) :
    Calls Try.prog 71 #[.pointer (some ⟨c0, 0, none⟩), .pointer (some ⟨c1, 0, none⟩)] w (RdPost w r s (.int .i64 (ltV s a n)) (ltC s a n) (a + n.toNat)) := by
  have HC := Lib.hid (rlittle_any n r s a w h ha hs)
  have hU := rlV_lt s a n
  unfold ltV ltC
  have hz : rlC s a n ≠ 0 → rlV s a n = 0 := fun hne => by unfold rlV; rw [if_neg hne]
  generalize rlV s a n = U at *
  generalize rlC s a n = c at *
  by_cases hc : c = 0
  · subst hc
    clear hz
    by_cases hbig : 9223372036854775808 ≤ U
    · rw [if_pos ⟨rfl, hbig⟩, if_pos ⟨rfl, hbig⟩]
      have hw := w64_big U hbig hU
      have hneg : decide (wrap64 (U : Int) < 0) = true := by rw [decide_eq_true_iff]; omega
      clear hbig hU hw
      go_enter Try.func71, Try.ntmps71
      go_wp2_with (go_at_call 72; refine HC.out.mono ?_; rintro e w1 ⟨rfl, k1, hr1, hk1, hk2⟩; clear hk2; dsimp only)
      go_ret2
      exact RdPost.err (by decide) hr1 hk1
    · rw [if_neg (by omega), if_neg (by omega)]
      have hw := w64_small U (by omega)
      have hnn : (0 : Int) ≤ U := by omega
      have HU := Lib.hid hU
      clear hU hbig
      go_enter Try.func71, Try.ntmps71
      go_wp2_with (go_at_call 72; refine HC.out.mono ?_; rintro e w1 ⟨rfl, k1, hr1, hk1, hk2⟩; have HK := Lib.hid hk2; clear hk2; dsimp only)
      go_ret2
      exact ⟨rfl, k1, hr1, hk1, fun _ => HK.out trivial⟩
  · have hu := hz hc
    subst hu
    rw [if_neg (by omega), if_neg (by omega)]
    have hne : (c == 0) = false := by rw [beq_eq_false_iff_ne]; exact hc
    have HN := Lib.hid hc
    clear hc hz hU
    go_enter Try.func71, Try.ntmps71
    go_wp2_with (go_at_call 72; refine HC.out.mono ?_; rintro e w1 ⟨rfl, k1, hr1, hk1, hk2⟩; clear hk2; dsimp only)
    go_ret2
    exact RdPost.err HN.out hr1 hk1

/-- Signed's outcome. -/
def sgV (s : ByteArray) (a : Nat) (n : Int) : Int := if rlC s a n = 0 then sgn (8 * n.toNat) (rlV s a n) else 0
theorem sgn56' (U : Nat) (_h : U < 18446744073709551616) : wrap64 (IntKind.u64.wrap ((U : Int) * 72057594037927936)) / 72057594037927936 = sgn 8 U := by
  rw [wrapu]; unfold wrap64 sgn; split <;> omega
theorem sgn48' (U : Nat) (_h : U < 18446744073709551616) : wrap64 (IntKind.u64.wrap ((U : Int) * 281474976710656)) / 281474976710656 = sgn 16 U := by
  rw [wrapu]; unfold wrap64 sgn; split <;> omega
theorem sgn32' (U : Nat) (_h : U < 18446744073709551616) : wrap64 (IntKind.u64.wrap ((U : Int) * 4294967296)) / 4294967296 = sgn 32 U := by
  rw [wrapu]; unfold wrap64 sgn; split <;> omega
theorem sgn00' (U : Nat) (_h : U < 18446744073709551616) : wrap64 (IntKind.u64.wrap (U : Int)) = sgn 64 U := by
  rw [wrapu]; unfold wrap64 sgn; split <;> omega
theorem rlC_sized {s : ByteArray} {a : Nat} {n : Int} (h : rlC s a n = 0) : n = 1 ∨ n = 2 ∨ n = 4 ∨ n = 8 := by
  unfold rlC at h
  split at h
  · cases h
  · rename_i hm
    exact sized_iff.1 (by simpa using hm)
set_option maxHeartbeats 1600000 in
theorem Signed1_any (n : Int) (r : Nat) (s : ByteArray) (a : Nat) (w : World) (c0 c1 : Nat) (h : RdAt w r s a 0) (ha : a ≤ s.size) (hs : s.size ≤ 140737488351232) (h0 : w.cell? ⟨c0, 0, none⟩ = some (.pointer (some ⟨r, 0, none⟩))) (h1 : w.cell? ⟨c1, 0, none⟩ = some (.int .i64 n)) (hcr : c1 ≠ r) :
    Calls Try.prog 73 #[.pointer (some ⟨c0, 0, none⟩), .pointer (some ⟨c1, 0, none⟩)] w (RdPost w r s (.int .i64 (sgV s a n)) (rlC s a n) (a + n.toNat)) := by
  have HC := Lib.hid (rlittle_any n r s a w h ha hs)
  have hU := rlV_lt s a n
  unfold sgV
  have hn : rlC s a n = 0 → n = 1 ∨ n = 2 ∨ n = 4 ∨ n = 8 := rlC_sized
  generalize rlV s a n = U at *
  generalize rlC s a n = c at *
  by_cases hc : c = 0
  · subst hc
    rw [if_pos rfl]
    rcases hn rfl with rfl | rfl | rfl | rfl
    · have hv := sgn56' U hU
      clear hn hU
      generalize hsv : sgn (8 * (1 : Int).toNat) U = V
      have HV := Lib.hid (hv.trans hsv)
      clear hv hsv
      go_enter Try.func73, Try.ntmps73
      go_wp2_with (go_at_call 72; refine HC.out.mono ?_; rintro e w1 ⟨rfl, k1, hr1, hk1, hk2⟩; have HK := Lib.hid hk2; clear hk2; dsimp only; have hq := hr1.2.cell h1 (by simpa using hcr))
      go_ret2
      exact ⟨congrArg (fun x => Ending.returned (.tuple #[.int .i64 x, .int .i64 0])) HV.out, k1, hr1, hk1, fun _ => HK.out trivial⟩
    · have hv := sgn48' U hU
      clear hn hU
      generalize hsv : sgn (8 * (2 : Int).toNat) U = V
      have HV := Lib.hid (hv.trans hsv)
      clear hv hsv
      go_enter Try.func73, Try.ntmps73
      go_wp2_with (go_at_call 72; refine HC.out.mono ?_; rintro e w1 ⟨rfl, k1, hr1, hk1, hk2⟩; have HK := Lib.hid hk2; clear hk2; dsimp only; have hq := hr1.2.cell h1 (by simpa using hcr))
      go_ret2
      exact ⟨congrArg (fun x => Ending.returned (.tuple #[.int .i64 x, .int .i64 0])) HV.out, k1, hr1, hk1, fun _ => HK.out trivial⟩
    · have hv := sgn32' U hU
      clear hn hU
      generalize hsv : sgn (8 * (4 : Int).toNat) U = V
      have HV := Lib.hid (hv.trans hsv)
      clear hv hsv
      go_enter Try.func73, Try.ntmps73
      go_wp2_with (go_at_call 72; refine HC.out.mono ?_; rintro e w1 ⟨rfl, k1, hr1, hk1, hk2⟩; have HK := Lib.hid hk2; clear hk2; dsimp only; have hq := hr1.2.cell h1 (by simpa using hcr))
      go_ret2
      exact ⟨congrArg (fun x => Ending.returned (.tuple #[.int .i64 x, .int .i64 0])) HV.out, k1, hr1, hk1, fun _ => HK.out trivial⟩
    · have hv := sgn00' U hU
      clear hn hU
      generalize hsv : sgn (8 * (8 : Int).toNat) U = V
      have HV := Lib.hid (hv.trans hsv)
      clear hv hsv
      go_enter Try.func73, Try.ntmps73
      go_wp2_with (go_at_call 72; refine HC.out.mono ?_; rintro e w1 ⟨rfl, k1, hr1, hk1, hk2⟩; have HK := Lib.hid hk2; clear hk2; dsimp only; have hq := hr1.2.cell h1 (by simpa using hcr))
      go_ret2
      exact ⟨congrArg (fun x => Ending.returned (.tuple #[.int .i64 x, .int .i64 0])) HV.out, k1, hr1, hk1, fun _ => HK.out trivial⟩
  · rw [if_neg hc]
    have hne : (c != 0) = true := by rw [bne_iff_ne]; exact hc
    have HN := Lib.hid hc
    clear hc hU hn
    go_enter Try.func73, Try.ntmps73
    go_wp2_with (go_at_call 72; refine HC.out.mono ?_; rintro e w1 ⟨rfl, k1, hr1, hk1, hk2⟩; clear hk2; dsimp only)
    go_ret2
    exact RdPost.err HN.out hr1 hk1

/-- A string's outcome: its length first. -/
def stC (s : ByteArray) (a : Nat) (most : Int) : Int := if (rdCount s a (min most 1048576)).2.1 = 0 then takeC s (rdCount s a (min most 1048576)).2.2 (rdCount s a (min most 1048576)).1 else (rdCount s a (min most 1048576)).2.1
def stV (s : ByteArray) (a : Nat) (most : Int) : Value := if (rdCount s a (min most 1048576)).2.1 = 0 then takeV s (rdCount s a (min most 1048576)).2.2 (rdCount s a (min most 1048576)).1 else .string ⟨#[]⟩
def stK (s : ByteArray) (a : Nat) (most : Int) : Nat := (rdCount s a (min most 1048576)).2.2 + (rdCount s a (min most 1048576)).1.toNat
theorem rdCount_nn (s : ByteArray) (a : Nat) (most : Int) : 0 ≤ (rdCount s a most).1 := by
  unfold rdCount
  split
  · simp
  · split
    · simp
    · split
      · simp
      · simp; omega
set_option maxHeartbeats 1600000 in
theorem String1_any (most : Int) (r : Nat) (s : ByteArray) (a : Nat) (w : World) (c0 c1 : Nat) (h : RdAt w r s a 0) (ha : a ≤ s.size) (hs : s.size ≤ 140737488351232) (h0 : w.cell? ⟨c0, 0, none⟩ = some (.pointer (some ⟨r, 0, none⟩))) (h1 : w.cell? ⟨c1, 0, none⟩ = some (.int .i64 most)) (hcr : c0 ≠ r) :
    Calls Try.prog 74 #[.pointer (some ⟨c0, 0, none⟩), .pointer (some ⟨c1, 0, none⟩)] w (RdPost w r s (stV s a most) (stC s a most) (stK s a most)) := by
  have HC := Lib.hid (count_any (min most 1048576) r s a w h ha hs)
  unfold stV stC stK
  have HN := Lib.hid (rdCount_nn s a (min most 1048576))
  generalize rdCount s a (min most 1048576) = x at *
  obtain ⟨n, c, k⟩ := x
  dsimp only at *
  have HT := Lib.hid (fun (w' : World) (h' : RdAt w' r s k 0) (hk : k ≤ s.size) => take_any n r s k w' h' hk hs HN.out)
  generalize takeV s k n = tv at *
  generalize takeC s k n = tc at *
  generalize hkk : k + n.toNat = kk at *
  have hmin : (if 1048576 < most then 1048576 else most) = min most 1048576 := by omega
  generalize min most 1048576 = mm at *
  by_cases hc : c = 0
  · subst hc
    rw [if_pos rfl, if_pos rfl]
    go_enter Try.func74, Try.ntmps74
    go_wp2_with (first | (go_at_call 75; (try rw [hmin]); refine HC.out.mono ?_; rintro e w1 ⟨rfl, k1, hr1, hk1, hk2⟩; have hk1k := hk2 rfl; subst hk1k; clear hk2; dsimp only; have hq := hr1.2.cell h0 (by simpa using hcr)) | (go_at_call 62; refine (HT.out _ hr1.1 hk1).mono ?_; rintro e w2 ⟨rfl, k2, hr2, hk2, hk3⟩; have HK := Lib.hid hk3; clear hk3; dsimp only))
    go_ret2
    exact ⟨rfl, k2, rd_trans hr1.2 hr2, hk2, HK.out⟩
  · rw [if_neg hc, if_neg hc]
    have hne : (c != 0) = true := by rw [bne_iff_ne]; exact hc
    have HN2 := Lib.hid hc
    clear hc
    go_enter Try.func74, Try.ntmps74
    go_wp2_with (go_at_call 75; (try rw [hmin]); refine HC.out.mono ?_; rintro e w1 ⟨rfl, k1, hr1, hk1, hk2⟩; clear hk2; dsimp only)
    go_ret2
    exact RdPost.err HN2.out hr1 hk1
end Go.Proofs.Yteendimoopmakaa
