/- A reader's inner number gives what the bytes say, case by case. Conditions stand in each theorem. -/
import Derived.Test.YteendimoopmakaaT4
namespace Go.Proofs.Yteendimoopmakaa
open Go.RowKit

def beN (l : List UInt8) : Nat := l.foldl (fun u b => u * 256 + b.toNat) 0
theorem beN_snoc (l : List UInt8) (b : UInt8) : beN (l ++ [b]) = beN l * 256 + b.toNat := by simp [beN]
def u64m : Nat := 18446744073709551616
def beM (l : List UInt8) : Nat := beN l % 18446744073709551616
theorem beM_snoc (l : List UInt8) (b : UInt8) : (beM (l ++ [b]) : Int) = bits .or .u64 ((beM l : Int) * 256 % 18446744073709551616) (b.toNat : Int) := by
  have hb := b.toNat_lt
  rw [u64_or _ _ (by omega) (by omega) (by omega) (by omega)]
  unfold beM
  rw [beN_snoc]
  have e : (((beN l % 18446744073709551616 : Nat) : Int) * 256 % 18446744073709551616).toNat = beN l % 18446744073709551616 * 256 % 18446744073709551616 := by omega
  rw [e, Int.toNat_natCast, nat_join 8 _ _ (by omega) (by omega)]
  omega
theorem beM_lt (l : List UInt8) : beM l < 18446744073709551616 := Nat.mod_lt _ (by omega)
/-- the signed number in the lowest b bits -/
def sgn (b u : Nat) : Int := if u % 2 ^ b < 2 ^ (b - 1) then (u % 2 ^ b : Nat) else (u % 2 ^ b : Nat) - (2 ^ b : Nat)

theorem take_snoc_str (s : ByteArray) (k : Nat) (h : k < s.size) : s.data.toList.take (k + 1) = s.data.toList.take k ++ [s[k]] := by
  rw [List.take_succ_eq_append_getElem (by simpa using h)]; rfl

theorem wrapu (n : Int) : IntKind.u64.wrap n = n % 18446744073709551616 := by simp [IntKind.wrap, IntKind.bits, IntKind.signed]
theorem sgn57 (U : Nat) (_h : U < 18446744073709551616) : wrap64 (IntKind.u64.wrap (wrap64 (IntKind.u64.wrap ((U : Int) * 144115188075855872)) / 144115188075855872)) = sgn 7 U := by
  rw [wrapu, wrapu]; unfold wrap64 sgn; split <;> omega
theorem sgn50 (U : Nat) (_h : U < 18446744073709551616) : wrap64 (IntKind.u64.wrap (wrap64 (IntKind.u64.wrap ((U : Int) * 1125899906842624)) / 1125899906842624)) = sgn 14 U := by
  rw [wrapu, wrapu]; unfold wrap64 sgn; split <;> omega
theorem sgn35 (U : Nat) (_h : U < 18446744073709551616) : wrap64 (IntKind.u64.wrap (wrap64 (IntKind.u64.wrap ((U : Int) * 34359738368)) / 34359738368)) = sgn 29 U := by
  rw [wrapu, wrapu]; unfold wrap64 sgn; split <;> omega
theorem sgn0 (U : Nat) (_h : U < 18446744073709551616) : wrap64 (U : Int) = sgn 64 U := by
  unfold wrap64 sgn; split <;> omega
theorem sgn_lo (b U : Nat) (hb : b = 7 ∨ b = 14 ∨ b = 29 ∨ b = 64) : -9223372036854775808 ≤ sgn b U ∧ sgn b U ≤ 9223372036854775807 := by
  unfold sgn; rcases hb with rfl | rfl | rfl | rfl <;> split <;> omega
/-- the number in the m bytes from a place on, of b bits -/
def numV (s : ByteArray) (a m b : Nat) : Int := sgn b (beM (s.extract a (a + m)).data.toList)
/-- what is handed back for it -/
def numR (s : ByteArray) (a m b : Nat) : Value := if sizeN (numV s a m b) = m then .tuple #[.int .i64 (numV s a m b), .int .i64 0] else .tuple #[.int .i64 0, .int .i64 2]
theorem rd_trans {w w1 w2 : World} {r : Nat} {s : ByteArray} {a : Nat} {e : Int} (hg : w.grownBy w1 (some r)) (h : Rd w1 w2 r s a e) : Rd w w2 r s a e := ⟨h.1, hg.trans h.2⟩
theorem rd_below {w w1 w2 : World} {r : Nat} {s : ByteArray} {a : Nat} {e : Int} (h : Rd w w1 r s a e) (hb : Below w1.heap.size w1 w2) : Rd w w2 r s a e :=
  ⟨Blk.below h.1 hb (Blk.lt h.1), h.2.trans (below_grownBy hb _)⟩

set_option maxRecDepth 100000 in
set_option maxHeartbeats 3200000 in
theorem rnum_1 (r : Nat) (s : ByteArray) (at_ : Nat) (w : World) (h : RdAt w r s at_ 0) (hat : at_ < s.size) (hs : s.size ≤ 140737488351232) (hm : at_ + 1 ≤ s.size) (hc : (s[at_]'hat).toNat < 128) :
    Calls Try.prog 67 #[.pointer (some ⟨r, 0, none⟩)] w fun e w' => e = .returned (numR s at_ 1 7) ∧ Rd w w' r s (at_ + 1) 0 := by
  have h0 : w.cell? ⟨r, 0, none⟩ = some (.string s) := h.cell 0
  have h1 : w.cell? ⟨r, 1, none⟩ = some (.int .i64 at_) := h.cell 1
  have hne : ((at_ : Int) == s.size) = false := by rw [beq_eq_false_iff_ne]; omega
  have t0 : (((s[at_]'hat).toNat : Int) / 128 == 0) = true := by rw [beq_iff_eq]; omega
  have hqs : (s.extract at_ (at_ + 1)).size = 1 := by rw [ByteArray.size_extract]; omega
  have HR : Hid (numR s at_ 1 7 = if sizeN (sgn 7 (beM (s.extract at_ (at_ + 1)).data.toList)) = 1 then .tuple #[.int .i64 (sgn 7 (beM (s.extract at_ (at_ + 1)).data.toList)), .int .i64 0] else .tuple #[.int .i64 0, .int .i64 2]) := Lib.hid rfl
  have HQ := Lib.hid hqs
  clear hqs
  go_enter Try.func67, Try.ntmps67
  go_wp2_with fail
  go_quiet (fail)
  go_wp2_with fail
  go_quiet (fail)
  go_wp2_with fail
  refine (take_ok 1 r s at_ 0 _ (by exact h) (by omega) hs hm).mono ?_
  rintro e w2 ⟨rfl, hR, hg⟩
  have hRd : Rd w w2 r s (at_ + 1) 0 := rd_trans (grownBy_drewN w _ _) ⟨hR, hg⟩
  clear hR hg
  generalize s.extract at_ (at_ + 1) = q at HQ HR ⊢
  have hq0 : 1 ≤ q.size := by rw [HQ.out]; omega
  have hq1 : q.size ≤ 1 := by rw [HQ.out]; omega
  go_wp2_with fail
  go_loop [9, 10, 56] (fun u _ i => ∃ k : Nat, k ≤ 1 ∧ i = .int .i64 k ∧ u = .int .u64 (beM (q.data.toList.take k))) (fun _ _ i => 1 - (intOf i).toNat)
  case atStart => exact ⟨0, by omega, rfl, rfl⟩
  case round =>
    obtain ⟨k, hk, rfl, rfl⟩ := hrel
    by_cases hlt : k < 1
    · have hlq : k < q.size := by omega
      have hst := beM_snoc (q.data.toList.take k) q[k]
      have hlt2 := beM_lt (q.data.toList.take k)
      have hb8 := q[k].toNat_lt
      have e2 := take_snoc_str q k hlq
      rw [← e2] at hst
      have HST := Lib.hid hst
      clear hst e2
      go_wp2
      go_round
      case rel => exact ⟨k + 1, by omega, by go_num, by rw [HST.out, wrapu]⟩
      case measure => simp [intOf]; omega
    · obtain rfl : k = 1 := by omega
      have htk : q.data.toList.take 1 = q.data.toList := List.take_of_length_le (by have hl : q.data.toList.length = q.size := Array.length_toList; omega)
      rw [htk]
      clear htk
      have hU := beM_lt q.data.toList
      generalize beM q.data.toList = U at hU HR ⊢
      have hsg := sgn57 U hU
      have hb := sgn_lo 7 U (by omega)
      generalize hn0 : sgn 7 U = n0 at hsg hb HR
      clear hn0 hU
      by_cases hsz : sizeN n0 = 1
      · have HV : Hid (numR s at_ 1 7 = .tuple #[.int .i64 n0, .int .i64 0]) := Lib.hid (by rw [HR.out, if_pos hsz])
        have ht : ((sizeN n0 : Int) != 1) = false := by rw [bne_eq_false_iff_eq]; omega
        clear hsz HR
        go_wp2_with (go_at_call 14; refine (size_any _ _ hb.1 hb.2).mono ?_; rintro e w3 ⟨rfl, hb3⟩)
        go_ret2
        exact ⟨by rw [HV.out]; exact congrArg (fun x => Ending.returned (.tuple #[.int .i64 x, .int .i64 0])) hsg, rd_below hRd hb3⟩
      · have HV : Hid (numR s at_ 1 7 = .tuple #[.int .i64 0, .int .i64 2]) := Lib.hid (by rw [HR.out, if_neg hsz])
        have ht : ((sizeN n0 : Int) != 1) = true := by rw [bne_iff_ne]; omega
        clear hsz HR
        go_wp2_with (go_at_call 14; refine (size_any _ _ hb.1 hb.2).mono ?_; rintro e w3 ⟨rfl, hb3⟩)
        go_ret2
        exact ⟨by rw [HV.out]; rfl, rd_below hRd hb3⟩

set_option maxRecDepth 100000 in
set_option maxHeartbeats 3200000 in
theorem rnum_2 (r : Nat) (s : ByteArray) (at_ : Nat) (w : World) (h : RdAt w r s at_ 0) (hat : at_ < s.size) (hs : s.size ≤ 140737488351232) (hm : at_ + 2 ≤ s.size) (hc : 128 ≤ (s[at_]'hat).toNat ∧ (s[at_]'hat).toNat < 192) :
    Calls Try.prog 67 #[.pointer (some ⟨r, 0, none⟩)] w fun e w' => e = .returned (numR s at_ 2 14) ∧ Rd w w' r s (at_ + 2) 0 := by
  have h0 : w.cell? ⟨r, 0, none⟩ = some (.string s) := h.cell 0
  have h1 : w.cell? ⟨r, 1, none⟩ = some (.int .i64 at_) := h.cell 1
  have hne : ((at_ : Int) == s.size) = false := by rw [beq_eq_false_iff_ne]; omega
  have t0 : (((s[at_]'hat).toNat : Int) / 128 == 0) = false := by rw [beq_eq_false_iff_ne]; omega
  have t1 : (((s[at_]'hat).toNat : Int) / 64 == 2) = true := by rw [beq_iff_eq]; omega
  have hqs : (s.extract at_ (at_ + 2)).size = 2 := by rw [ByteArray.size_extract]; omega
  have HR : Hid (numR s at_ 2 14 = if sizeN (sgn 14 (beM (s.extract at_ (at_ + 2)).data.toList)) = 2 then .tuple #[.int .i64 (sgn 14 (beM (s.extract at_ (at_ + 2)).data.toList)), .int .i64 0] else .tuple #[.int .i64 0, .int .i64 2]) := Lib.hid rfl
  have HQ := Lib.hid hqs
  clear hqs
  go_enter Try.func67, Try.ntmps67
  go_wp2_with fail
  go_quiet (fail)
  go_wp2_with fail
  go_quiet (fail)
  go_wp2_with fail
  refine (take_ok 2 r s at_ 0 _ (by exact h) (by omega) hs hm).mono ?_
  rintro e w2 ⟨rfl, hR, hg⟩
  have hRd : Rd w w2 r s (at_ + 2) 0 := rd_trans (grownBy_drewN w _ _) ⟨hR, hg⟩
  clear hR hg
  generalize s.extract at_ (at_ + 2) = q at HQ HR ⊢
  have hq0 : 2 ≤ q.size := by rw [HQ.out]; omega
  have hq1 : q.size ≤ 2 := by rw [HQ.out]; omega
  go_wp2_with fail
  go_loop [9, 10, 56] (fun u _ i => ∃ k : Nat, k ≤ 2 ∧ i = .int .i64 k ∧ u = .int .u64 (beM (q.data.toList.take k))) (fun _ _ i => 2 - (intOf i).toNat)
  case atStart => exact ⟨0, by omega, rfl, rfl⟩
  case round =>
    obtain ⟨k, hk, rfl, rfl⟩ := hrel
    by_cases hlt : k < 2
    · have hlq : k < q.size := by omega
      have hst := beM_snoc (q.data.toList.take k) q[k]
      have hlt2 := beM_lt (q.data.toList.take k)
      have hb8 := q[k].toNat_lt
      have e2 := take_snoc_str q k hlq
      rw [← e2] at hst
      have HST := Lib.hid hst
      clear hst e2
      go_wp2
      go_round
      case rel => exact ⟨k + 1, by omega, by go_num, by rw [HST.out, wrapu]⟩
      case measure => simp [intOf]; omega
    · obtain rfl : k = 2 := by omega
      have htk : q.data.toList.take 2 = q.data.toList := List.take_of_length_le (by have hl : q.data.toList.length = q.size := Array.length_toList; omega)
      rw [htk]
      clear htk
      have hU := beM_lt q.data.toList
      generalize beM q.data.toList = U at hU HR ⊢
      have hsg := sgn50 U hU
      have hb := sgn_lo 14 U (by omega)
      generalize hn0 : sgn 14 U = n0 at hsg hb HR
      clear hn0 hU
      by_cases hsz : sizeN n0 = 2
      · have HV : Hid (numR s at_ 2 14 = .tuple #[.int .i64 n0, .int .i64 0]) := Lib.hid (by rw [HR.out, if_pos hsz])
        have ht : ((sizeN n0 : Int) != 2) = false := by rw [bne_eq_false_iff_eq]; omega
        clear hsz HR
        go_wp2_with (go_at_call 14; refine (size_any _ _ hb.1 hb.2).mono ?_; rintro e w3 ⟨rfl, hb3⟩)
        go_ret2
        exact ⟨by rw [HV.out]; exact congrArg (fun x => Ending.returned (.tuple #[.int .i64 x, .int .i64 0])) hsg, rd_below hRd hb3⟩
      · have HV : Hid (numR s at_ 2 14 = .tuple #[.int .i64 0, .int .i64 2]) := Lib.hid (by rw [HR.out, if_neg hsz])
        have ht : ((sizeN n0 : Int) != 2) = true := by rw [bne_iff_ne]; omega
        clear hsz HR
        go_wp2_with (go_at_call 14; refine (size_any _ _ hb.1 hb.2).mono ?_; rintro e w3 ⟨rfl, hb3⟩)
        go_ret2
        exact ⟨by rw [HV.out]; rfl, rd_below hRd hb3⟩

set_option maxRecDepth 100000 in
set_option maxHeartbeats 3200000 in
theorem rnum_4 (r : Nat) (s : ByteArray) (at_ : Nat) (w : World) (h : RdAt w r s at_ 0) (hat : at_ < s.size) (hs : s.size ≤ 140737488351232) (hm : at_ + 4 ≤ s.size) (hc : 192 ≤ (s[at_]'hat).toNat ∧ (s[at_]'hat).toNat < 224) :
    Calls Try.prog 67 #[.pointer (some ⟨r, 0, none⟩)] w fun e w' => e = .returned (numR s at_ 4 29) ∧ Rd w w' r s (at_ + 4) 0 := by
  have h0 : w.cell? ⟨r, 0, none⟩ = some (.string s) := h.cell 0
  have h1 : w.cell? ⟨r, 1, none⟩ = some (.int .i64 at_) := h.cell 1
  have hne : ((at_ : Int) == s.size) = false := by rw [beq_eq_false_iff_ne]; omega
  have t0 : (((s[at_]'hat).toNat : Int) / 128 == 0) = false := by rw [beq_eq_false_iff_ne]; omega
  have t1 : (((s[at_]'hat).toNat : Int) / 64 == 2) = false := by rw [beq_eq_false_iff_ne]; omega
  have t2 : (((s[at_]'hat).toNat : Int) / 32 == 6) = true := by rw [beq_iff_eq]; omega
  have hqs : (s.extract at_ (at_ + 4)).size = 4 := by rw [ByteArray.size_extract]; omega
  have HR : Hid (numR s at_ 4 29 = if sizeN (sgn 29 (beM (s.extract at_ (at_ + 4)).data.toList)) = 4 then .tuple #[.int .i64 (sgn 29 (beM (s.extract at_ (at_ + 4)).data.toList)), .int .i64 0] else .tuple #[.int .i64 0, .int .i64 2]) := Lib.hid rfl
  have HQ := Lib.hid hqs
  clear hqs
  go_enter Try.func67, Try.ntmps67
  go_wp2_with fail
  go_quiet (fail)
  go_wp2_with fail
  go_quiet (fail)
  go_wp2_with fail
  refine (take_ok 4 r s at_ 0 _ (by exact h) (by omega) hs hm).mono ?_
  rintro e w2 ⟨rfl, hR, hg⟩
  have hRd : Rd w w2 r s (at_ + 4) 0 := rd_trans (grownBy_drewN w _ _) ⟨hR, hg⟩
  clear hR hg
  generalize s.extract at_ (at_ + 4) = q at HQ HR ⊢
  have hq0 : 4 ≤ q.size := by rw [HQ.out]; omega
  have hq1 : q.size ≤ 4 := by rw [HQ.out]; omega
  go_wp2_with fail
  go_loop [9, 10, 56] (fun u _ i => ∃ k : Nat, k ≤ 4 ∧ i = .int .i64 k ∧ u = .int .u64 (beM (q.data.toList.take k))) (fun _ _ i => 4 - (intOf i).toNat)
  case atStart => exact ⟨0, by omega, rfl, rfl⟩
  case round =>
    obtain ⟨k, hk, rfl, rfl⟩ := hrel
    by_cases hlt : k < 4
    · have hlq : k < q.size := by omega
      have hst := beM_snoc (q.data.toList.take k) q[k]
      have hlt2 := beM_lt (q.data.toList.take k)
      have hb8 := q[k].toNat_lt
      have e2 := take_snoc_str q k hlq
      rw [← e2] at hst
      have HST := Lib.hid hst
      clear hst e2
      go_wp2
      go_round
      case rel => exact ⟨k + 1, by omega, by go_num, by rw [HST.out, wrapu]⟩
      case measure => simp [intOf]; omega
    · obtain rfl : k = 4 := by omega
      have htk : q.data.toList.take 4 = q.data.toList := List.take_of_length_le (by have hl : q.data.toList.length = q.size := Array.length_toList; omega)
      rw [htk]
      clear htk
      have hU := beM_lt q.data.toList
      generalize beM q.data.toList = U at hU HR ⊢
      have hsg := sgn35 U hU
      have hb := sgn_lo 29 U (by omega)
      generalize hn0 : sgn 29 U = n0 at hsg hb HR
      clear hn0 hU
      by_cases hsz : sizeN n0 = 4
      · have HV : Hid (numR s at_ 4 29 = .tuple #[.int .i64 n0, .int .i64 0]) := Lib.hid (by rw [HR.out, if_pos hsz])
        have ht : ((sizeN n0 : Int) != 4) = false := by rw [bne_eq_false_iff_eq]; omega
        clear hsz HR
        go_wp2_with (go_at_call 14; refine (size_any _ _ hb.1 hb.2).mono ?_; rintro e w3 ⟨rfl, hb3⟩)
        go_ret2
        exact ⟨by rw [HV.out]; exact congrArg (fun x => Ending.returned (.tuple #[.int .i64 x, .int .i64 0])) hsg, rd_below hRd hb3⟩
      · have HV : Hid (numR s at_ 4 29 = .tuple #[.int .i64 0, .int .i64 2]) := Lib.hid (by rw [HR.out, if_neg hsz])
        have ht : ((sizeN n0 : Int) != 4) = true := by rw [bne_iff_ne]; omega
        clear hsz HR
        go_wp2_with (go_at_call 14; refine (size_any _ _ hb.1 hb.2).mono ?_; rintro e w3 ⟨rfl, hb3⟩)
        go_ret2
        exact ⟨by rw [HV.out]; rfl, rd_below hRd hb3⟩

set_option maxRecDepth 100000 in
set_option maxHeartbeats 3200000 in
theorem rnum_9 (r : Nat) (s : ByteArray) (at_ : Nat) (w : World) (h : RdAt w r s at_ 0) (hat : at_ < s.size) (hs : s.size ≤ 140737488351232) (hm : at_ + 9 ≤ s.size) (hc : (s[at_]'hat).toNat = 224) :
    Calls Try.prog 67 #[.pointer (some ⟨r, 0, none⟩)] w fun e w' => e = .returned (numR s at_ 9 64) ∧ Rd w w' r s (at_ + 9) 0 := by
  have h0 : w.cell? ⟨r, 0, none⟩ = some (.string s) := h.cell 0
  have h1 : w.cell? ⟨r, 1, none⟩ = some (.int .i64 at_) := h.cell 1
  have hne : ((at_ : Int) == s.size) = false := by rw [beq_eq_false_iff_ne]; omega
  have t0 : (((s[at_]'hat).toNat : Int) / 128 == 0) = false := by rw [beq_eq_false_iff_ne]; omega
  have t1 : (((s[at_]'hat).toNat : Int) / 64 == 2) = false := by rw [beq_eq_false_iff_ne]; omega
  have t2 : (((s[at_]'hat).toNat : Int) / 32 == 6) = false := by rw [beq_eq_false_iff_ne]; omega
  have t3 : (((s[at_]'hat).toNat : Int) == 224) = true := by rw [beq_iff_eq]; omega
  have hqs : (s.extract at_ (at_ + 9)).size = 9 := by rw [ByteArray.size_extract]; omega
  have HR : Hid (numR s at_ 9 64 = if sizeN (sgn 64 (beM (s.extract at_ (at_ + 9)).data.toList)) = 9 then .tuple #[.int .i64 (sgn 64 (beM (s.extract at_ (at_ + 9)).data.toList)), .int .i64 0] else .tuple #[.int .i64 0, .int .i64 2]) := Lib.hid rfl
  have HQ := Lib.hid hqs
  clear hqs
  go_enter Try.func67, Try.ntmps67
  go_wp2_with fail
  go_quiet (fail)
  go_wp2_with fail
  go_quiet (fail)
  go_wp2_with fail
  refine (take_ok 9 r s at_ 0 _ (by exact h) (by omega) hs hm).mono ?_
  rintro e w2 ⟨rfl, hR, hg⟩
  have hRd : Rd w w2 r s (at_ + 9) 0 := rd_trans (grownBy_drewN w _ _) ⟨hR, hg⟩
  clear hR hg
  generalize s.extract at_ (at_ + 9) = q at HQ HR ⊢
  have hq0 : 9 ≤ q.size := by rw [HQ.out]; omega
  have hq1 : q.size ≤ 9 := by rw [HQ.out]; omega
  go_wp2_with fail
  go_loop [9, 10, 56] (fun u _ i => ∃ k : Nat, k ≤ 9 ∧ i = .int .i64 k ∧ u = .int .u64 (beM (q.data.toList.take k))) (fun _ _ i => 9 - (intOf i).toNat)
  case atStart => exact ⟨0, by omega, rfl, rfl⟩
  case round =>
    obtain ⟨k, hk, rfl, rfl⟩ := hrel
    by_cases hlt : k < 9
    · have hlq : k < q.size := by omega
      have hst := beM_snoc (q.data.toList.take k) q[k]
      have hlt2 := beM_lt (q.data.toList.take k)
      have hb8 := q[k].toNat_lt
      have e2 := take_snoc_str q k hlq
      rw [← e2] at hst
      have HST := Lib.hid hst
      clear hst e2
      go_wp2
      go_round
      case rel => exact ⟨k + 1, by omega, by go_num, by rw [HST.out, wrapu]⟩
      case measure => simp [intOf]; omega
    · obtain rfl : k = 9 := by omega
      have htk : q.data.toList.take 9 = q.data.toList := List.take_of_length_le (by have hl : q.data.toList.length = q.size := Array.length_toList; omega)
      rw [htk]
      clear htk
      have hU := beM_lt q.data.toList
      generalize beM q.data.toList = U at hU HR ⊢
      have hsg := sgn0 U hU
      have hb := sgn_lo 64 U (by omega)
      generalize hn0 : sgn 64 U = n0 at hsg hb HR
      clear hn0 hU
      by_cases hsz : sizeN n0 = 9
      · have HV : Hid (numR s at_ 9 64 = .tuple #[.int .i64 n0, .int .i64 0]) := Lib.hid (by rw [HR.out, if_pos hsz])
        have ht : ((sizeN n0 : Int) != 9) = false := by rw [bne_eq_false_iff_eq]; omega
        clear hsz HR
        go_wp2_with (go_at_call 14; refine (size_any _ _ hb.1 hb.2).mono ?_; rintro e w3 ⟨rfl, hb3⟩)
        go_ret2
        exact ⟨by rw [HV.out]; exact congrArg (fun x => Ending.returned (.tuple #[.int .i64 x, .int .i64 0])) hsg, rd_below hRd hb3⟩
      · have HV : Hid (numR s at_ 9 64 = .tuple #[.int .i64 0, .int .i64 2]) := Lib.hid (by rw [HR.out, if_neg hsz])
        have ht : ((sizeN n0 : Int) != 9) = true := by rw [bne_iff_ne]; omega
        clear hsz HR
        go_wp2_with (go_at_call 14; refine (size_any _ _ hb.1 hb.2).mono ?_; rintro e w3 ⟨rfl, hb3⟩)
        go_ret2
        exact ⟨by rw [HV.out]; rfl, rd_below hRd hb3⟩

set_option maxRecDepth 100000 in
set_option maxHeartbeats 800000 in
theorem rnum_end (r : Nat) (s : ByteArray) (at_ : Nat) (w : World) (h : RdAt w r s at_ 0) (hat : at_ = s.size) (_hs : s.size ≤ 140737488351232) :
    Calls Try.prog 67 #[.pointer (some ⟨r, 0, none⟩)] w fun e w' => e = .returned (.tuple #[.int .i64 0, .int .i64 16]) ∧ Rd w w' r s at_ 0 := by
  have h0 : w.cell? ⟨r, 0, none⟩ = some (.string s) := h.cell 0
  have h1 : w.cell? ⟨r, 1, none⟩ = some (.int .i64 at_) := h.cell 1
  have hne : ((at_ : Int) == s.size) = true := by rw [beq_iff_eq]; omega
  clear hat
  go_enter Try.func67, Try.ntmps67
  go_wp2_with fail
  go_quiet (fail)
  go_wp2
  go_ret2
  exact ⟨rfl, rd_drewN h _⟩
set_option maxRecDepth 100000 in
set_option maxHeartbeats 800000 in
theorem rnum_form (r : Nat) (s : ByteArray) (at_ : Nat) (w : World) (h : RdAt w r s at_ 0) (hat : at_ < s.size) (_hs : s.size ≤ 140737488351232) (hc : 224 < (s[at_]'hat).toNat) :
    Calls Try.prog 67 #[.pointer (some ⟨r, 0, none⟩)] w fun e w' => e = .returned (.tuple #[.int .i64 0, .int .i64 2]) ∧ Rd w w' r s at_ 0 := by
  have h0 : w.cell? ⟨r, 0, none⟩ = some (.string s) := h.cell 0
  have h1 : w.cell? ⟨r, 1, none⟩ = some (.int .i64 at_) := h.cell 1
  have hne : ((at_ : Int) == s.size) = false := by rw [beq_eq_false_iff_ne]; omega
  have t0 : (((s[at_]'hat).toNat : Int) / 128 == 0) = false := by rw [beq_eq_false_iff_ne]; omega
  have t1 : (((s[at_]'hat).toNat : Int) / 64 == 2) = false := by rw [beq_eq_false_iff_ne]; omega
  have t2 : (((s[at_]'hat).toNat : Int) / 32 == 6) = false := by rw [beq_eq_false_iff_ne]; omega
  have t3 : (((s[at_]'hat).toNat : Int) == 224) = false := by rw [beq_eq_false_iff_ne]; omega
  go_enter Try.func67, Try.ntmps67
  go_wp2_with fail
  go_quiet (fail)
  go_wp2_with fail
  go_quiet (fail)
  go_wp2
  go_ret2
  exact ⟨rfl, rd_drewN h _⟩

set_option maxRecDepth 100000 in
set_option maxHeartbeats 800000 in
theorem rnum_short2 (r : Nat) (s : ByteArray) (at_ : Nat) (w : World) (h : RdAt w r s at_ 0) (hat : at_ < s.size) (hs : s.size ≤ 140737488351232) (hm : s.size < at_ + 2) (hc : 128 ≤ (s[at_]'hat).toNat ∧ (s[at_]'hat).toNat < 192) :
    Calls Try.prog 67 #[.pointer (some ⟨r, 0, none⟩)] w fun e w' => e = .returned (.tuple #[.int .i64 0, .int .i64 16]) ∧ Rd w w' r s at_ 0 := by
  have h0 : w.cell? ⟨r, 0, none⟩ = some (.string s) := h.cell 0
  have h1 : w.cell? ⟨r, 1, none⟩ = some (.int .i64 at_) := h.cell 1
  have hne : ((at_ : Int) == s.size) = false := by rw [beq_eq_false_iff_ne]; omega
  have t0 : (((s[at_]'hat).toNat : Int) / 128 == 0) = false := by rw [beq_eq_false_iff_ne]; omega
  have t1 : (((s[at_]'hat).toNat : Int) / 64 == 2) = true := by rw [beq_iff_eq]; omega
  go_enter Try.func67, Try.ntmps67
  go_wp2_with fail
  go_quiet (fail)
  go_wp2_with fail
  go_quiet (fail)
  go_wp2_with (go_at_call 62; refine (take_end 2 r s at_ 0 _ (by exact h) (by omega) hs (by omega)).mono ?_; rintro e w2 ⟨rfl, hR, hg⟩)
  go_ret2
  exact ⟨rfl, rd_trans (grownBy_drewN w _ _) ⟨hR, hg⟩⟩

set_option maxRecDepth 100000 in
set_option maxHeartbeats 800000 in
theorem rnum_short4 (r : Nat) (s : ByteArray) (at_ : Nat) (w : World) (h : RdAt w r s at_ 0) (hat : at_ < s.size) (hs : s.size ≤ 140737488351232) (hm : s.size < at_ + 4) (hc : 192 ≤ (s[at_]'hat).toNat ∧ (s[at_]'hat).toNat < 224) :
    Calls Try.prog 67 #[.pointer (some ⟨r, 0, none⟩)] w fun e w' => e = .returned (.tuple #[.int .i64 0, .int .i64 16]) ∧ Rd w w' r s at_ 0 := by
  have h0 : w.cell? ⟨r, 0, none⟩ = some (.string s) := h.cell 0
  have h1 : w.cell? ⟨r, 1, none⟩ = some (.int .i64 at_) := h.cell 1
  have hne : ((at_ : Int) == s.size) = false := by rw [beq_eq_false_iff_ne]; omega
  have t0 : (((s[at_]'hat).toNat : Int) / 128 == 0) = false := by rw [beq_eq_false_iff_ne]; omega
  have t1 : (((s[at_]'hat).toNat : Int) / 64 == 2) = false := by rw [beq_eq_false_iff_ne]; omega
  have t2 : (((s[at_]'hat).toNat : Int) / 32 == 6) = true := by rw [beq_iff_eq]; omega
  go_enter Try.func67, Try.ntmps67
  go_wp2_with fail
  go_quiet (fail)
  go_wp2_with fail
  go_quiet (fail)
  go_wp2_with (go_at_call 62; refine (take_end 4 r s at_ 0 _ (by exact h) (by omega) hs (by omega)).mono ?_; rintro e w2 ⟨rfl, hR, hg⟩)
  go_ret2
  exact ⟨rfl, rd_trans (grownBy_drewN w _ _) ⟨hR, hg⟩⟩

set_option maxRecDepth 100000 in
set_option maxHeartbeats 800000 in
theorem rnum_short9 (r : Nat) (s : ByteArray) (at_ : Nat) (w : World) (h : RdAt w r s at_ 0) (hat : at_ < s.size) (hs : s.size ≤ 140737488351232) (hm : s.size < at_ + 9) (hc : (s[at_]'hat).toNat = 224) :
    Calls Try.prog 67 #[.pointer (some ⟨r, 0, none⟩)] w fun e w' => e = .returned (.tuple #[.int .i64 0, .int .i64 16]) ∧ Rd w w' r s at_ 0 := by
  have h0 : w.cell? ⟨r, 0, none⟩ = some (.string s) := h.cell 0
  have h1 : w.cell? ⟨r, 1, none⟩ = some (.int .i64 at_) := h.cell 1
  have hne : ((at_ : Int) == s.size) = false := by rw [beq_eq_false_iff_ne]; omega
  have t0 : (((s[at_]'hat).toNat : Int) / 128 == 0) = false := by rw [beq_eq_false_iff_ne]; omega
  have t1 : (((s[at_]'hat).toNat : Int) / 64 == 2) = false := by rw [beq_eq_false_iff_ne]; omega
  have t2 : (((s[at_]'hat).toNat : Int) / 32 == 6) = false := by rw [beq_eq_false_iff_ne]; omega
  have t3 : (((s[at_]'hat).toNat : Int) == 224) = true := by rw [beq_iff_eq]; omega
  go_enter Try.func67, Try.ntmps67
  go_wp2_with fail
  go_quiet (fail)
  go_wp2_with fail
  go_quiet (fail)
  go_wp2_with (go_at_call 62; refine (take_end 9 r s at_ 0 _ (by exact h) (by omega) hs (by omega)).mono ?_; rintro e w2 ⟨rfl, hR, hg⟩)
  go_ret2
  exact ⟨rfl, rd_trans (grownBy_drewN w _ _) ⟨hR, hg⟩⟩
end Go.Proofs.Yteendimoopmakaa
