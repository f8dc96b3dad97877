/- The reference's ReadNumber gives rdNumber. For a place that lies in the string. -/
import Derived.Test.YteendimoopmakaaT28
namespace Go.Proofs.Yteendimoopmakaa
open Go.RowKit

theorem sgnr7 (U : Nat) (_h : U < 18446744073709551616) : wrap64 (IntKind.u64.wrap ((U : Int) * 144115188075855872)) / 144115188075855872 = sgn 7 U := by
  rw [wrapu]; unfold wrap64 sgn; split <;> omega
theorem sgnr14 (U : Nat) (_h : U < 18446744073709551616) : wrap64 (IntKind.u64.wrap ((U : Int) * 1125899906842624)) / 1125899906842624 = sgn 14 U := by
  rw [wrapu]; unfold wrap64 sgn; split <;> omega
theorem sgnr29 (U : Nat) (_h : U < 18446744073709551616) : wrap64 (IntKind.u64.wrap ((U : Int) * 34359738368)) / 34359738368 = sgn 29 U := by
  rw [wrapu]; unfold wrap64 sgn; split <;> omega
theorem sgnr64 (U : Nat) (_h : U < 18446744073709551616) : wrap64 (IntKind.u64.wrap (U : Int)) = sgn 64 U := by
  rw [wrapu]; unfold wrap64 sgn; split <;> omega

set_option maxRecDepth 100000 in
set_option maxHeartbeats 800000 in
theorem rNum_stopped (s : ByteArray) (a : Nat) (c : Int) (w : World) (hc : c ≠ 0) : Calls Try.prog 51 #[.agg #[.string s, .int .i64 a, .int .i64 c]] w (RefGot w s (.int .i64 0) a c) := by
  have hne : (c != 0) = true := by rw [bne_iff_ne]; exact hc
  clear hc
  go_enter Try.func51, Try.ntmps51
  go_wp2
  go_region
  go_wp2
  exact bodyPost_ret (rr_res2 rfl _ _ (w.heap.size + 1) s a c _ rfl rfl (blk_drew (blk_new1 _ _ 43 [_, _, _]))) rfl ⟨rfl, ((((Below.refl _ _).alloc (Nat.le_refl _) _).alloc (by simp) _).drew)⟩

set_option maxRecDepth 100000 in
set_option maxHeartbeats 800000 in
theorem rNum_end (s : ByteArray) (a : Nat) (w : World) (ha : s.size ≤ a) : Calls Try.prog 51 #[.agg #[.string s, .int .i64 a, .int .i64 0]] w (RefGot w s (.int .i64 0) a 16) := by
  go_enter Try.func51, Try.ntmps51
  go_wp2_with (go_at_call 57; refine (stop_open s a 0 16 _).mono ?_; rintro e w1 ⟨rfl, hb1⟩; obtain ⟨hc1, hf1⟩ := bcell hb1)
  exact bodyPost_ret (rr_res2 rfl _ _ (w.heap.size + 1) s a 16 _ rfl rfl (fin_blk hb1 _ _)) rfl ⟨rfl, fin_below hb1 _ _ _⟩

set_option maxRecDepth 100000 in
set_option maxHeartbeats 1600000 in
theorem rNum_form (s : ByteArray) (a : Nat) (w : World) (hat : a < s.size) (_hs : s.size ≤ 140737488351232) (hc : 224 < (s[a]'hat).toNat) : Calls Try.prog 51 #[.agg #[.string s, .int .i64 a, .int .i64 0]] w (RefGot w s (.int .i64 0) a 2) := by
  go_enter Try.func51, Try.ntmps51
  go_wp2_with (go_at_call 57; refine (stop_open s a 0 2 _).mono ?_; rintro e w1 ⟨rfl, hb1⟩; obtain ⟨hc1, hf1⟩ := bcell hb1)
  exact bodyPost_ret (rr_res2 rfl _ _ (w.heap.size + 1) s a 2 _ rfl rfl (fin_blk hb1 _ _)) rfl ⟨rfl, fin_below hb1 _ _ _⟩

set_option maxRecDepth 100000 in
set_option maxHeartbeats 1600000 in
theorem rNum_short2 (s : ByteArray) (a : Nat) (w : World) (hat : a < s.size) (hs : s.size ≤ 140737488351232) (hm : s.size < a + 2) (hc : 128 ≤ (s[a]'hat).toNat ∧ (s[a]'hat).toNat < 192) : Calls Try.prog 51 #[.agg #[.string s, .int .i64 a, .int .i64 0]] w (RefGot w s (.int .i64 0) a 16) := by
  have HT := Lib.hid (fun w' => rtake_end s a 2 w' (by omega) hs (by omega))
  clear hm
  have t0 : decide ((224 : Int) ≤ (((s[a]'hat).toNat : Nat) : Int)) = false := by rw [decide_eq_false_iff_not]; omega
  have t1 : decide ((192 : Int) ≤ (((s[a]'hat).toNat : Nat) : Int)) = false := by rw [decide_eq_false_iff_not]; omega
  have t2 : decide ((128 : Int) ≤ (((s[a]'hat).toNat : Nat) : Int)) = true := by rw [decide_eq_true_iff]; omega
  have t3 : decide ((224 : Int) < (((s[a]'hat).toNat : Nat) : Int)) = false := by rw [decide_eq_false_iff_not]; omega
  go_enter Try.func51, Try.ntmps51
  go_wp2_with (go_at_call 80; refine (HT.out _).mono ?_; rintro e w1 ⟨rfl, hb1⟩; obtain ⟨hc1, hf1⟩ := bcell hb1; have hz : w.heap.size + 1 < w1.heap.size := (by have := hb1.size; simp at this; omega); have hz0 : w.heap.size < w1.heap.size := (by omega))
  go_region
  go_wp2
  exact bodyPost_ret (rr_res2 rfl _ _ (w.heap.size + 1) s a 16 _ rfl rfl (blk_drew ((fin_blk hb1 _ _).alloc _))) rfl ⟨rfl, fin_below2 hb1 _ _ _ _⟩

set_option maxRecDepth 100000 in
set_option maxHeartbeats 1600000 in
theorem rNum_short4 (s : ByteArray) (a : Nat) (w : World) (hat : a < s.size) (hs : s.size ≤ 140737488351232) (hm : s.size < a + 4) (hc : 192 ≤ (s[a]'hat).toNat ∧ (s[a]'hat).toNat < 224) : Calls Try.prog 51 #[.agg #[.string s, .int .i64 a, .int .i64 0]] w (RefGot w s (.int .i64 0) a 16) := by
  have HT := Lib.hid (fun w' => rtake_end s a 4 w' (by omega) hs (by omega))
  clear hm
  have t0 : decide ((224 : Int) ≤ (((s[a]'hat).toNat : Nat) : Int)) = false := by rw [decide_eq_false_iff_not]; omega
  have t1 : decide ((192 : Int) ≤ (((s[a]'hat).toNat : Nat) : Int)) = true := by rw [decide_eq_true_iff]; omega
  have t2 : decide ((224 : Int) < (((s[a]'hat).toNat : Nat) : Int)) = false := by rw [decide_eq_false_iff_not]; omega
  go_enter Try.func51, Try.ntmps51
  go_wp2_with (go_at_call 80; refine (HT.out _).mono ?_; rintro e w1 ⟨rfl, hb1⟩; obtain ⟨hc1, hf1⟩ := bcell hb1; have hz : w.heap.size + 1 < w1.heap.size := (by have := hb1.size; simp at this; omega); have hz0 : w.heap.size < w1.heap.size := (by omega))
  go_region
  go_wp2
  exact bodyPost_ret (rr_res2 rfl _ _ (w.heap.size + 1) s a 16 _ rfl rfl (blk_drew ((fin_blk hb1 _ _).alloc _))) rfl ⟨rfl, fin_below2 hb1 _ _ _ _⟩

set_option maxRecDepth 100000 in
set_option maxHeartbeats 1600000 in
theorem rNum_short9 (s : ByteArray) (a : Nat) (w : World) (hat : a < s.size) (hs : s.size ≤ 140737488351232) (hm : s.size < a + 9) (hc : (s[a]'hat).toNat = 224) : Calls Try.prog 51 #[.agg #[.string s, .int .i64 a, .int .i64 0]] w (RefGot w s (.int .i64 0) a 16) := by
  have HT := Lib.hid (fun w' => rtake_end s a 9 w' (by omega) hs (by omega))
  clear hm
  have t0 : decide ((224 : Int) ≤ (((s[a]'hat).toNat : Nat) : Int)) = true := by rw [decide_eq_true_iff]; omega
  have t1 : decide ((224 : Int) < (((s[a]'hat).toNat : Nat) : Int)) = false := by rw [decide_eq_false_iff_not]; omega
  go_enter Try.func51, Try.ntmps51
  go_wp2_with (go_at_call 80; refine (HT.out _).mono ?_; rintro e w1 ⟨rfl, hb1⟩; obtain ⟨hc1, hf1⟩ := bcell hb1; have hz : w.heap.size + 1 < w1.heap.size := (by have := hb1.size; simp at this; omega); have hz0 : w.heap.size < w1.heap.size := (by omega))
  go_region
  go_wp2
  exact bodyPost_ret (rr_res2 rfl _ _ (w.heap.size + 1) s a 16 _ rfl rfl (blk_drew ((fin_blk hb1 _ _).alloc _))) rfl ⟨rfl, fin_below2 hb1 _ _ _ _⟩

set_option maxRecDepth 100000 in
set_option maxHeartbeats 3200000 in
theorem rNum_1 (s : ByteArray) (a : Nat) (w : World) (hat : a < s.size) (hs : s.size ≤ 140737488351232) (hm : a + 1 ≤ s.size) (hc : (s[a]'hat).toNat < 128) :
    Calls Try.prog 51 #[.agg #[.string s, .int .i64 a, .int .i64 0]] w (RefGot w s (.int .i64 (if sizeN (numV s a 1 7) = 1 then numV s a 1 7 else 0)) ((if sizeN (numV s a 1 7) = 1 then a + 1 else a : Nat) : Int) (if sizeN (numV s a 1 7) = 1 then 0 else 2)) := by
  have HT := Lib.hid (fun w' => rtake_ok s a 1 w' hm hs)
  have hqs : (s.extract a (a + 1)).size = 1 := by rw [ByteArray.size_extract]; omega
  have HR : Hid (numV s a 1 7 = sgn 7 (beM (s.extract a (a + 1)).data.toList)) := Lib.hid rfl
  have HQ := Lib.hid hqs
  clear hqs hm
  have t0 : decide ((224 : Int) ≤ (((s[a]'hat).toNat : Nat) : Int)) = false := by rw [decide_eq_false_iff_not]; omega
  have t1 : decide ((192 : Int) ≤ (((s[a]'hat).toNat : Nat) : Int)) = false := by rw [decide_eq_false_iff_not]; omega
  have t2 : decide ((128 : Int) ≤ (((s[a]'hat).toNat : Nat) : Int)) = false := by rw [decide_eq_false_iff_not]; omega
  have t3 : decide ((224 : Int) < (((s[a]'hat).toNat : Nat) : Int)) = false := by rw [decide_eq_false_iff_not]; omega
  generalize hV0 : (if sizeN (numV s a 1 7) = 1 then numV s a 1 7 else 0) = RV
  generalize hK0 : (if sizeN (numV s a 1 7) = 1 then a + 1 else a) = RK
  generalize hC0 : (if sizeN (numV s a 1 7) = 1 then (0 : Int) else 2) = RC
  have HV0 := Lib.hid hV0
  have HK0 := Lib.hid hK0
  have HC0 := Lib.hid hC0
  clear hV0 hK0 hC0
  generalize s.extract a (a + 1) = q at *
  have hq0 : 1 ≤ q.size := by rw [HQ.out]; omega
  have hq1 : q.size ≤ 1 := by rw [HQ.out]; omega
  go_enter Try.func51, Try.ntmps51
  go_wp2_with (go_at_call 80; refine (HT.out _).mono ?_; rintro e w1 ⟨rfl, hb1⟩; obtain ⟨hc1, hf1⟩ := bcell hb1; have hz : w.heap.size + 1 < w1.heap.size := (by have := hb1.size; simp at this; omega); have hz0 : w.heap.size < w1.heap.size := (by omega))
  go_loop [9, 10] (fun u i => ∃ k : Nat, k ≤ 1 ∧ i = .int .i64 k ∧ u = .int .u64 (beM (q.data.toList.take k))) (fun _ i => 1 - (intOf i).toNat)
  case atStart => exact ⟨0, by omega, rfl, rfl⟩
  case round =>
    obtain ⟨k, hk, rfl, rfl⟩ := hrel
    by_cases hlt : k < 1
    · have hlq : k < q.size := by omega
      have hst := beM_snoc (q.data.toList.take k) q[k]
      have hlt2 := beM_lt (q.data.toList.take k)
      have hb8 := q[k].toNat_lt
      have e2 := take_snoc_str q k hlq
      rw [← e2] at hst
      have HST := Lib.hid hst
      clear hst e2
      go_wp2
      go_round
      case rel => exact ⟨k + 1, by omega, by go_num, by rw [HST.out, wrapu]⟩
      case measure => simp [intOf]; omega
    · obtain rfl : k = 1 := by omega
      have htk : q.data.toList.take 1 = q.data.toList := List.take_of_length_le (by have hl : q.data.toList.length = q.size := Array.length_toList; omega)
      rw [htk]
      clear htk
      have hU := beM_lt q.data.toList
      generalize beM q.data.toList = U at hU HR ⊢
      have hsg := sgnr7 U hU
      have hb := sgn_lo 7 U (by omega)
      generalize hn0 : sgn 7 U = n0 at hsg hb HR
      clear hn0 hU
      by_cases hsz : sizeN n0 = 1
      · have HV := Lib.hid (show sizeN (numV s a 1 7) = 1 by rw [HR.out, hsz])
        have ht : ((sizeN n0 : Int) != 1) = false := by rw [bne_eq_false_iff_eq]; omega
        have HRV := Lib.hid (show RV = n0 from HV0.out.symm.trans ((if_pos HV.out).trans HR.out))
        have HRK := Lib.hid (show RK = a + 1 from HK0.out.symm.trans (if_pos HV.out))
        have HRC := Lib.hid (show RC = 0 from HC0.out.symm.trans (if_pos HV.out))
        clear hsz HV
        go_wp2_with (go_at_call 15; refine (refSize_any _ _).mono ?_; rintro e w3 ⟨rfl, rfl⟩)
        go_region
        go_wp2
        exact bodyPost_ret (rr_res2 rfl _ _ (w.heap.size + 1) s (↑a + 1) 0 _ rfl rfl (blk_drew ((fin_blk hb1 _ _).alloc _))) rfl ⟨by rw [HRV.out, HRK.out, HRC.out]; rfl, fin_below2 hb1 _ _ _ _⟩
      · have HV := Lib.hid (show ¬ sizeN (numV s a 1 7) = 1 by rw [HR.out]; exact hsz)
        have ht : ((sizeN n0 : Int) != 1) = true := by rw [bne_iff_ne]; omega
        have HRV := Lib.hid (show RV = 0 from HV0.out.symm.trans (if_neg HV.out))
        have HRK := Lib.hid (show RK = a from HK0.out.symm.trans (if_neg HV.out))
        have HRC := Lib.hid (show RC = 2 from HC0.out.symm.trans (if_neg HV.out))
        clear hsz HV HR
        go_wp2_with (first | (go_at_call 15; refine (refSize_any _ _).mono ?_; rintro e w3 ⟨rfl, rfl⟩) | (go_at_call 57; refine (stop_open s a 0 2 _).mono ?_; rintro e w3 ⟨rfl, hb3⟩; obtain ⟨hc3, hf3⟩ := bcell hb3))
        exact bodyPost_ret (rr_res2 rfl _ _ (w.heap.size + 1) s a 2 _ rfl rfl (stop_fin hb1 hb3 _ _)) rfl ⟨by rw [HRV.out, HRK.out, HRC.out]; rfl, stop_below hb1 hb3 _ _ _⟩

set_option maxRecDepth 100000 in
set_option maxHeartbeats 3200000 in
theorem rNum_2 (s : ByteArray) (a : Nat) (w : World) (hat : a < s.size) (hs : s.size ≤ 140737488351232) (hm : a + 2 ≤ s.size) (hc : 128 ≤ (s[a]'hat).toNat ∧ (s[a]'hat).toNat < 192) :
    Calls Try.prog 51 #[.agg #[.string s, .int .i64 a, .int .i64 0]] w (RefGot w s (.int .i64 (if sizeN (numV s a 2 14) = 2 then numV s a 2 14 else 0)) ((if sizeN (numV s a 2 14) = 2 then a + 2 else a : Nat) : Int) (if sizeN (numV s a 2 14) = 2 then 0 else 2)) := by
  have HT := Lib.hid (fun w' => rtake_ok s a 2 w' hm hs)
  have hqs : (s.extract a (a + 2)).size = 2 := by rw [ByteArray.size_extract]; omega
  have HR : Hid (numV s a 2 14 = sgn 14 (beM (s.extract a (a + 2)).data.toList)) := Lib.hid rfl
  have HQ := Lib.hid hqs
  clear hqs hm
  have t0 : decide ((224 : Int) ≤ (((s[a]'hat).toNat : Nat) : Int)) = false := by rw [decide_eq_false_iff_not]; omega
  have t1 : decide ((192 : Int) ≤ (((s[a]'hat).toNat : Nat) : Int)) = false := by rw [decide_eq_false_iff_not]; omega
  have t2 : decide ((128 : Int) ≤ (((s[a]'hat).toNat : Nat) : Int)) = true := by rw [decide_eq_true_iff]; omega
  have t3 : decide ((224 : Int) < (((s[a]'hat).toNat : Nat) : Int)) = false := by rw [decide_eq_false_iff_not]; omega
  generalize hV0 : (if sizeN (numV s a 2 14) = 2 then numV s a 2 14 else 0) = RV
  generalize hK0 : (if sizeN (numV s a 2 14) = 2 then a + 2 else a) = RK
  generalize hC0 : (if sizeN (numV s a 2 14) = 2 then (0 : Int) else 2) = RC
  have HV0 := Lib.hid hV0
  have HK0 := Lib.hid hK0
  have HC0 := Lib.hid hC0
  clear hV0 hK0 hC0
  generalize s.extract a (a + 2) = q at *
  have hq0 : 2 ≤ q.size := by rw [HQ.out]; omega
  have hq1 : q.size ≤ 2 := by rw [HQ.out]; omega
  go_enter Try.func51, Try.ntmps51
  go_wp2_with (go_at_call 80; refine (HT.out _).mono ?_; rintro e w1 ⟨rfl, hb1⟩; obtain ⟨hc1, hf1⟩ := bcell hb1; have hz : w.heap.size + 1 < w1.heap.size := (by have := hb1.size; simp at this; omega); have hz0 : w.heap.size < w1.heap.size := (by omega))
  go_loop [9, 10] (fun u i => ∃ k : Nat, k ≤ 2 ∧ i = .int .i64 k ∧ u = .int .u64 (beM (q.data.toList.take k))) (fun _ i => 2 - (intOf i).toNat)
  case atStart => exact ⟨0, by omega, rfl, rfl⟩
  case round =>
    obtain ⟨k, hk, rfl, rfl⟩ := hrel
    by_cases hlt : k < 2
    · have hlq : k < q.size := by omega
      have hst := beM_snoc (q.data.toList.take k) q[k]
      have hlt2 := beM_lt (q.data.toList.take k)
      have hb8 := q[k].toNat_lt
      have e2 := take_snoc_str q k hlq
      rw [← e2] at hst
      have HST := Lib.hid hst
      clear hst e2
      go_wp2
      go_round
      case rel => exact ⟨k + 1, by omega, by go_num, by rw [HST.out, wrapu]⟩
      case measure => simp [intOf]; omega
    · obtain rfl : k = 2 := by omega
      have htk : q.data.toList.take 2 = q.data.toList := List.take_of_length_le (by have hl : q.data.toList.length = q.size := Array.length_toList; omega)
      rw [htk]
      clear htk
      have hU := beM_lt q.data.toList
      generalize beM q.data.toList = U at hU HR ⊢
      have hsg := sgnr14 U hU
      have hb := sgn_lo 14 U (by omega)
      generalize hn0 : sgn 14 U = n0 at hsg hb HR
      clear hn0 hU
      by_cases hsz : sizeN n0 = 2
      · have HV := Lib.hid (show sizeN (numV s a 2 14) = 2 by rw [HR.out, hsz])
        have ht : ((sizeN n0 : Int) != 2) = false := by rw [bne_eq_false_iff_eq]; omega
        have HRV := Lib.hid (show RV = n0 from HV0.out.symm.trans ((if_pos HV.out).trans HR.out))
        have HRK := Lib.hid (show RK = a + 2 from HK0.out.symm.trans (if_pos HV.out))
        have HRC := Lib.hid (show RC = 0 from HC0.out.symm.trans (if_pos HV.out))
        clear hsz HV
        go_wp2_with (go_at_call 15; refine (refSize_any _ _).mono ?_; rintro e w3 ⟨rfl, rfl⟩)
        go_region
        go_wp2
        exact bodyPost_ret (rr_res2 rfl _ _ (w.heap.size + 1) s (↑a + 2) 0 _ rfl rfl (blk_drew ((fin_blk hb1 _ _).alloc _))) rfl ⟨by rw [HRV.out, HRK.out, HRC.out]; rfl, fin_below2 hb1 _ _ _ _⟩
      · have HV := Lib.hid (show ¬ sizeN (numV s a 2 14) = 2 by rw [HR.out]; exact hsz)
        have ht : ((sizeN n0 : Int) != 2) = true := by rw [bne_iff_ne]; omega
        have HRV := Lib.hid (show RV = 0 from HV0.out.symm.trans (if_neg HV.out))
        have HRK := Lib.hid (show RK = a from HK0.out.symm.trans (if_neg HV.out))
        have HRC := Lib.hid (show RC = 2 from HC0.out.symm.trans (if_neg HV.out))
        clear hsz HV HR
        go_wp2_with (first | (go_at_call 15; refine (refSize_any _ _).mono ?_; rintro e w3 ⟨rfl, rfl⟩) | (go_at_call 57; refine (stop_open s a 0 2 _).mono ?_; rintro e w3 ⟨rfl, hb3⟩; obtain ⟨hc3, hf3⟩ := bcell hb3))
        exact bodyPost_ret (rr_res2 rfl _ _ (w.heap.size + 1) s a 2 _ rfl rfl (stop_fin hb1 hb3 _ _)) rfl ⟨by rw [HRV.out, HRK.out, HRC.out]; rfl, stop_below hb1 hb3 _ _ _⟩

set_option maxRecDepth 100000 in
set_option maxHeartbeats 3200000 in
theorem rNum_4 (s : ByteArray) (a : Nat) (w : World) (hat : a < s.size) (hs : s.size ≤ 140737488351232) (hm : a + 4 ≤ s.size) (hc : 192 ≤ (s[a]'hat).toNat ∧ (s[a]'hat).toNat < 224) :
    Calls Try.prog 51 #[.agg #[.string s, .int .i64 a, .int .i64 0]] w (RefGot w s (.int .i64 (if sizeN (numV s a 4 29) = 4 then numV s a 4 29 else 0)) ((if sizeN (numV s a 4 29) = 4 then a + 4 else a : Nat) : Int) (if sizeN (numV s a 4 29) = 4 then 0 else 2)) := by
  have HT := Lib.hid (fun w' => rtake_ok s a 4 w' hm hs)
  have hqs : (s.extract a (a + 4)).size = 4 := by rw [ByteArray.size_extract]; omega
  have HR : Hid (numV s a 4 29 = sgn 29 (beM (s.extract a (a + 4)).data.toList)) := Lib.hid rfl
  have HQ := Lib.hid hqs
  clear hqs hm
  have t0 : decide ((224 : Int) ≤ (((s[a]'hat).toNat : Nat) : Int)) = false := by rw [decide_eq_false_iff_not]; omega
  have t1 : decide ((192 : Int) ≤ (((s[a]'hat).toNat : Nat) : Int)) = true := by rw [decide_eq_true_iff]; omega
  have t2 : decide ((224 : Int) < (((s[a]'hat).toNat : Nat) : Int)) = false := by rw [decide_eq_false_iff_not]; omega
  generalize hV0 : (if sizeN (numV s a 4 29) = 4 then numV s a 4 29 else 0) = RV
  generalize hK0 : (if sizeN (numV s a 4 29) = 4 then a + 4 else a) = RK
  generalize hC0 : (if sizeN (numV s a 4 29) = 4 then (0 : Int) else 2) = RC
  have HV0 := Lib.hid hV0
  have HK0 := Lib.hid hK0
  have HC0 := Lib.hid hC0
  clear hV0 hK0 hC0
  generalize s.extract a (a + 4) = q at *
  have hq0 : 4 ≤ q.size := by rw [HQ.out]; omega
  have hq1 : q.size ≤ 4 := by rw [HQ.out]; omega
  go_enter Try.func51, Try.ntmps51
  go_wp2_with (go_at_call 80; refine (HT.out _).mono ?_; rintro e w1 ⟨rfl, hb1⟩; obtain ⟨hc1, hf1⟩ := bcell hb1; have hz : w.heap.size + 1 < w1.heap.size := (by have := hb1.size; simp at this; omega); have hz0 : w.heap.size < w1.heap.size := (by omega))
  go_loop [9, 10] (fun u i => ∃ k : Nat, k ≤ 4 ∧ i = .int .i64 k ∧ u = .int .u64 (beM (q.data.toList.take k))) (fun _ i => 4 - (intOf i).toNat)
  case atStart => exact ⟨0, by omega, rfl, rfl⟩
  case round =>
    obtain ⟨k, hk, rfl, rfl⟩ := hrel
    by_cases hlt : k < 4
    · have hlq : k < q.size := by omega
      have hst := beM_snoc (q.data.toList.take k) q[k]
      have hlt2 := beM_lt (q.data.toList.take k)
      have hb8 := q[k].toNat_lt
      have e2 := take_snoc_str q k hlq
      rw [← e2] at hst
      have HST := Lib.hid hst
      clear hst e2
      go_wp2
      go_round
      case rel => exact ⟨k + 1, by omega, by go_num, by rw [HST.out, wrapu]⟩
      case measure => simp [intOf]; omega
    · obtain rfl : k = 4 := by omega
      have htk : q.data.toList.take 4 = q.data.toList := List.take_of_length_le (by have hl : q.data.toList.length = q.size := Array.length_toList; omega)
      rw [htk]
      clear htk
      have hU := beM_lt q.data.toList
      generalize beM q.data.toList = U at hU HR ⊢
      have hsg := sgnr29 U hU
      have hb := sgn_lo 29 U (by omega)
      generalize hn0 : sgn 29 U = n0 at hsg hb HR
      clear hn0 hU
      by_cases hsz : sizeN n0 = 4
      · have HV := Lib.hid (show sizeN (numV s a 4 29) = 4 by rw [HR.out, hsz])
        have ht : ((sizeN n0 : Int) != 4) = false := by rw [bne_eq_false_iff_eq]; omega
        have HRV := Lib.hid (show RV = n0 from HV0.out.symm.trans ((if_pos HV.out).trans HR.out))
        have HRK := Lib.hid (show RK = a + 4 from HK0.out.symm.trans (if_pos HV.out))
        have HRC := Lib.hid (show RC = 0 from HC0.out.symm.trans (if_pos HV.out))
        clear hsz HV
        go_wp2_with (go_at_call 15; refine (refSize_any _ _).mono ?_; rintro e w3 ⟨rfl, rfl⟩)
        go_region
        go_wp2
        exact bodyPost_ret (rr_res2 rfl _ _ (w.heap.size + 1) s (↑a + 4) 0 _ rfl rfl (blk_drew ((fin_blk hb1 _ _).alloc _))) rfl ⟨by rw [HRV.out, HRK.out, HRC.out]; rfl, fin_below2 hb1 _ _ _ _⟩
      · have HV := Lib.hid (show ¬ sizeN (numV s a 4 29) = 4 by rw [HR.out]; exact hsz)
        have ht : ((sizeN n0 : Int) != 4) = true := by rw [bne_iff_ne]; omega
        have HRV := Lib.hid (show RV = 0 from HV0.out.symm.trans (if_neg HV.out))
        have HRK := Lib.hid (show RK = a from HK0.out.symm.trans (if_neg HV.out))
        have HRC := Lib.hid (show RC = 2 from HC0.out.symm.trans (if_neg HV.out))
        clear hsz HV HR
        go_wp2_with (first | (go_at_call 15; refine (refSize_any _ _).mono ?_; rintro e w3 ⟨rfl, rfl⟩) | (go_at_call 57; refine (stop_open s a 0 2 _).mono ?_; rintro e w3 ⟨rfl, hb3⟩; obtain ⟨hc3, hf3⟩ := bcell hb3))
        exact bodyPost_ret (rr_res2 rfl _ _ (w.heap.size + 1) s a 2 _ rfl rfl (stop_fin hb1 hb3 _ _)) rfl ⟨by rw [HRV.out, HRK.out, HRC.out]; rfl, stop_below hb1 hb3 _ _ _⟩

set_option maxRecDepth 100000 in
set_option maxHeartbeats 3200000 in
theorem rNum_9 (s : ByteArray) (a : Nat) (w : World) (hat : a < s.size) (hs : s.size ≤ 140737488351232) (hm : a + 9 ≤ s.size) (hc : (s[a]'hat).toNat = 224) :
    Calls Try.prog 51 #[.agg #[.string s, .int .i64 a, .int .i64 0]] w (RefGot w s (.int .i64 (if sizeN (numV s a 9 64) = 9 then numV s a 9 64 else 0)) ((if sizeN (numV s a 9 64) = 9 then a + 9 else a : Nat) : Int) (if sizeN (numV s a 9 64) = 9 then 0 else 2)) := by
  have HT := Lib.hid (fun w' => rtake_ok s a 9 w' hm hs)
  have hqs : (s.extract a (a + 9)).size = 9 := by rw [ByteArray.size_extract]; omega
  have HR : Hid (numV s a 9 64 = sgn 64 (beM (s.extract a (a + 9)).data.toList)) := Lib.hid rfl
  have HQ := Lib.hid hqs
  clear hqs hm
  have t0 : decide ((224 : Int) ≤ (((s[a]'hat).toNat : Nat) : Int)) = true := by rw [decide_eq_true_iff]; omega
  have t1 : decide ((224 : Int) < (((s[a]'hat).toNat : Nat) : Int)) = false := by rw [decide_eq_false_iff_not]; omega
  generalize hV0 : (if sizeN (numV s a 9 64) = 9 then numV s a 9 64 else 0) = RV
  generalize hK0 : (if sizeN (numV s a 9 64) = 9 then a + 9 else a) = RK
  generalize hC0 : (if sizeN (numV s a 9 64) = 9 then (0 : Int) else 2) = RC
  have HV0 := Lib.hid hV0
  have HK0 := Lib.hid hK0
  have HC0 := Lib.hid hC0
  clear hV0 hK0 hC0
  generalize s.extract a (a + 9) = q at *
  have hq0 : 9 ≤ q.size := by rw [HQ.out]; omega
  have hq1 : q.size ≤ 9 := by rw [HQ.out]; omega
  go_enter Try.func51, Try.ntmps51
  go_wp2_with (go_at_call 80; refine (HT.out _).mono ?_; rintro e w1 ⟨rfl, hb1⟩; obtain ⟨hc1, hf1⟩ := bcell hb1; have hz : w.heap.size + 1 < w1.heap.size := (by have := hb1.size; simp at this; omega); have hz0 : w.heap.size < w1.heap.size := (by omega))
  go_loop [9, 10] (fun u i => ∃ k : Nat, k ≤ 9 ∧ i = .int .i64 k ∧ u = .int .u64 (beM (q.data.toList.take k))) (fun _ i => 9 - (intOf i).toNat)
  case atStart => exact ⟨0, by omega, rfl, rfl⟩
  case round =>
    obtain ⟨k, hk, rfl, rfl⟩ := hrel
    by_cases hlt : k < 9
    · have hlq : k < q.size := by omega
      have hst := beM_snoc (q.data.toList.take k) q[k]
      have hlt2 := beM_lt (q.data.toList.take k)
      have hb8 := q[k].toNat_lt
      have e2 := take_snoc_str q k hlq
      rw [← e2] at hst
      have HST := Lib.hid hst
      clear hst e2
      go_wp2
      go_round
      case rel => exact ⟨k + 1, by omega, by go_num, by rw [HST.out, wrapu]⟩
      case measure => simp [intOf]; omega
    · obtain rfl : k = 9 := by omega
      have htk : q.data.toList.take 9 = q.data.toList := List.take_of_length_le (by have hl : q.data.toList.length = q.size := Array.length_toList; omega)
      rw [htk]
      clear htk
      have hU := beM_lt q.data.toList
      generalize beM q.data.toList = U at hU HR ⊢
      have hsg := sgn0 U hU
      have hb := sgn_lo 64 U (by omega)
      generalize hn0 : sgn 64 U = n0 at hsg hb HR
      have hsg2 := sgnr64 U hU
      rw [hn0] at hsg2
      clear hn0 hU
      by_cases hsz : sizeN n0 = 9
      · have HV := Lib.hid (show sizeN (numV s a 9 64) = 9 by rw [HR.out, hsz])
        have ht : ((sizeN n0 : Int) != 9) = false := by rw [bne_eq_false_iff_eq]; omega
        have HRV := Lib.hid (show RV = n0 from HV0.out.symm.trans ((if_pos HV.out).trans HR.out))
        have HRK := Lib.hid (show RK = a + 9 from HK0.out.symm.trans (if_pos HV.out))
        have HRC := Lib.hid (show RC = 0 from HC0.out.symm.trans (if_pos HV.out))
        clear hsz HV
        go_wp2_with (go_at_call 15; refine (refSize_any _ _).mono ?_; rintro e w3 ⟨rfl, rfl⟩)
        go_region
        go_wp2
        exact bodyPost_ret (rr_res2 rfl _ _ (w.heap.size + 1) s (↑a + 9) 0 _ rfl rfl (blk_drew ((fin_blk hb1 _ _).alloc _))) rfl ⟨by rw [HRV.out, HRK.out, HRC.out]; rfl, fin_below2 hb1 _ _ _ _⟩
      · have HV := Lib.hid (show ¬ sizeN (numV s a 9 64) = 9 by rw [HR.out]; exact hsz)
        have ht : ((sizeN n0 : Int) != 9) = true := by rw [bne_iff_ne]; omega
        have HRV := Lib.hid (show RV = 0 from HV0.out.symm.trans (if_neg HV.out))
        have HRK := Lib.hid (show RK = a from HK0.out.symm.trans (if_neg HV.out))
        have HRC := Lib.hid (show RC = 2 from HC0.out.symm.trans (if_neg HV.out))
        clear hsz HV HR
        go_wp2_with (first | (go_at_call 15; refine (refSize_any _ _).mono ?_; rintro e w3 ⟨rfl, rfl⟩) | (go_at_call 57; refine (stop_open s a 0 2 _).mono ?_; rintro e w3 ⟨rfl, hb3⟩; obtain ⟨hc3, hf3⟩ := bcell hb3))
        exact bodyPost_ret (rr_res2 rfl _ _ (w.heap.size + 1) s a 2 _ rfl rfl (stop_fin hb1 hb3 _ _)) rfl ⟨by rw [HRV.out, HRK.out, HRC.out]; rfl, stop_below hb1 hb3 _ _ _⟩

/-- What a number's reading by the reference leaves. -/
theorem rNum_live (s : ByteArray) (a : Nat) (w : World) (_ha : a ≤ s.size) (hs : s.size ≤ 140737488351232) :
    Calls Try.prog 51 #[.agg #[.string s, .int .i64 a, .int .i64 0]] w (RefGot w s (.int .i64 (if (rdNumber s a).2.1 = 0 then (rdNumber s a).1 else 0)) (outAt a (rdNumber s a)) (rdNumber s a).2.1) := by
  unfold outAt rdNumber
  by_cases hlt : a < s.size
  · simp only [dif_pos hlt]
    by_cases h1 : (s[a]'hlt).toNat < 128
    · simp only [if_pos h1]
      by_cases hm : s.size < a + 1
      · omega
      · simp only [if_neg hm]
        have := rNum_1 s a w hlt hs (by omega) h1
        by_cases hz : sizeN (numV s a 1 7) = 1
        · simp only [if_pos hz] at this ⊢; exact this
        · simp only [if_neg hz] at this ⊢; exact this
    · simp only [if_neg h1]
      by_cases h2 : (s[a]'hlt).toNat < 192
      · simp only [if_pos h2]
        by_cases hm : s.size < a + 2
        · simp only [if_pos hm]
          exact rNum_short2 s a w hlt hs hm ⟨by omega, h2⟩
        · simp only [if_neg hm]
          have := rNum_2 s a w hlt hs (by omega) ⟨by omega, h2⟩
          by_cases hz : sizeN (numV s a 2 14) = 2
          · simp only [if_pos hz] at this ⊢; exact this
          · simp only [if_neg hz] at this ⊢; exact this
      · simp only [if_neg h2]
        by_cases h3 : (s[a]'hlt).toNat < 224
        · simp only [if_pos h3]
          by_cases hm : s.size < a + 4
          · simp only [if_pos hm]
            exact rNum_short4 s a w hlt hs hm ⟨by omega, h3⟩
          · simp only [if_neg hm]
            have := rNum_4 s a w hlt hs (by omega) ⟨by omega, h3⟩
            by_cases hz : sizeN (numV s a 4 29) = 4
            · simp only [if_pos hz] at this ⊢; exact this
            · simp only [if_neg hz] at this ⊢; exact this
        · simp only [if_neg h3]
          by_cases h4 : (s[a]'hlt).toNat = 224
          · simp only [if_pos h4]
            by_cases hm : s.size < a + 9
            · simp only [if_pos hm]
              exact rNum_short9 s a w hlt hs hm h4
            · simp only [if_neg hm]
              have := rNum_9 s a w hlt hs (by omega) h4
              by_cases hz : sizeN (numV s a 9 64) = 9
              · simp only [if_pos hz] at this ⊢; exact this
              · simp only [if_neg hz] at this ⊢; exact this
          · simp only [if_neg h4]
            exact rNum_form s a w hlt hs (by omega)
  · simp only [dif_neg hlt]
    exact rNum_end s a w (by omega)
end Go.Proofs.Yteendimoopmakaa
