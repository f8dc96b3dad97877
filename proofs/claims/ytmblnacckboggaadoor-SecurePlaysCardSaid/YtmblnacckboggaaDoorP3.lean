/- The reference's Receive (39). -/
import Derived.Test.YtmblnacckboggaaDoorP2
import Derived.Test.YtmblnacckboggaaDoorQC
namespace Go.Proofs.YtmblnacckboggaaDoor
open Go.RowKit
theorem Two.drew {lb wb : Nat} {w w1 : World} (h : Two lb wb w w1) : Two lb wb w w1.drew := ⟨h.os, h.tape, h.output, h.size, h.block⟩

set_option maxRecDepth 100000 in
set_option maxHeartbeats 6400000 in
theorem rreceive_ok (g o : Nat) (t : TypeId) (A C : List Value) (key : ByteArray) (side sent : Int) (n0 : Nat) (left : ByteArray) (s0 : ByteArray) (hk : badE key.data.toList side 0 = 0) (hn0 : n0 ≤ 1000000000) (hsz : left.size + s0.size ≤ 1000000000)
    (w : World) (hR0 : RefAt w g o t A C ⟨key, side, sent, n0, left, false⟩) :
    Calls Tryd.prog 39 #[.pointer (some ⟨g, o, none⟩), .string s0, .int .i64 0] w fun e w' => e = .returned (.tuple #[.string (recvR ⟨key, side, sent, n0, left, false⟩ s0 0).1.1, .int .i64 (recvR ⟨key, side, sent, n0, left, false⟩ s0 0).1.2]) ∧ RefAt w' g o t A C (recvR ⟨key, side, sent, n0, left, false⟩ s0 0).2 ∧ Two g g w w' := by
  obtain ⟨L1, hL1⟩ : ∃ L1 : ByteArray, L1 = left ++ s0 := ⟨_, rfl⟩
  have hL1s : L1.size ≤ 1000000000 := by rw [hL1]; rw [ByteArray.size_append]; omega
  obtain ⟨R, hR⟩ : ∃ R, R = drain key.data.toList (3 - side) L1.size n0 L1.data.toList [] := ⟨_, rfl⟩
  have FIN : Hid (recvR ⟨key, side, sent, n0, left, false⟩ s0 0 = ((if R.1 = [] then (⟨#[]⟩, if R.2.2.2 ≠ 16 then 28 else 36) else (⟨R.1.toArray⟩, 0)), ⟨key, side, sent, R.2.2.1, if R.2.2.2 ≠ 16 then ⟨#[]⟩ else ⟨R.2.1.toArray⟩, decide (R.2.2.2 ≠ 16)⟩)) := by
    refine Lib.hid ?_
    rw [hR, hL1]
    unfold recvR
    simp
  have hs := (bad_ok' hk).2
  have hbt : badE key.data.toList (3 - side) 0 = 0 := by
    have hkl := (bad_ok' hk).1
    unfold badE
    rw [if_neg (by simp [hkl]), if_neg (by omega), if_neg (by omega)]
  obtain ⟨tside, hts⟩ : ∃ t, t = 3 - side := ⟨_, rfl⟩
  rw [← hts] at hbt hR
  have w3 : IntKind.i64.wrap (3 - side) = tside := by rw [hts]; exact IntWalk.i64_in _ (by omega)
  have w4 : IntKind.i64.wrap tside = tside := IntWalk.i64_in _ (by omega)
  have w3' : (3 : Int) - side = tside := hts.symm
  have HR0 := Lib.hid hR0
  have y5 : w.cell? ⟨g, o + 5, none⟩ = some (.bool false) := hR0.cell 5 (by decide)
  have y2 : w.cell? ⟨g, o + 2, none⟩ = some (.string left) := hR0.cell 2 (by decide)
  have z5 := hR0.frozen (o + 2)
  have z1 : ¬ 9223372036854775807 < left.size + s0.size := by omega
  have z2 : left ++ s0 = L1 := hL1.symm
  have HR := Lib.hid hR
  have HBT := Lib.hid hbt
  
  clear hL1 hts hs hR0 hR hbt hk hsz
  go_enter Tryd.func39, Tryd.ntmps39
  go_wp2_with fail
  obtain ⟨V3, hV3⟩ : ∃ V3, V3 = w.setCell ⟨g, o + 2, none⟩ (.string L1) := ⟨_, rfl⟩
  have R3 : Hid (RefAt V3 g o t A C ⟨key, side, sent, n0, L1, false⟩) := by rw [hV3]; exact Lib.hid (HR0.out.set_ 2 (by decide) (.string L1) rfl)
  have T3 : Hid (Two g g w V3) := by rw [hV3]; exact Lib.hid ((Two.of (Below.refl _ _)).set1 _ _)
  rw [← hV3]
  clear hV3
  go_loopg [8] L1.size (fun k o8 wr => ∃ (n : Nat) (S OB : ByteArray) (out : List UInt8), o8 = .string OB ∧ OB = ⟨out.toArray⟩ ∧ n + k ≤ n0 + L1.size ∧ S.size ≤ k ∧ drain key.data.toList tside k n S.data.toList out = R ∧ RefAt wr g o t A C ⟨key, side, sent, n, S, false⟩ ∧ out.length + S.size ≤ L1.size ∧ Two g g w wr)
  case atStart => exact ⟨n0, L1, ⟨#[]⟩, [], rfl, rfl, Nat.le_refl _, Nat.le_refl _, HR.out.symm, R3.out, by simp, T3.out⟩
  case round =>
    obtain ⟨n, S, OB, out, rfl, hOB', hnk, hSk, hdr, hR5, hlen, hT5⟩ := hrel
    have R5 := Lib.hid hR5
    have T5 := Lib.hid hT5
    have DR := Lib.hid hdr
    have SK := Lib.hid hSk
    have LN := Lib.hid hlen
    have HOB' := Lib.hid hOB'
    have hOBs : OB.size = out.length := by rw [hOB', str_size]
    have hnb : n ≤ 2000000000 := by omega
    have q1 : wr.cell? ⟨g, o, none⟩ = some (.string key) := R5.out.cell0
    have q2 : wr.cell? ⟨g, o + 1, none⟩ = some (.int .i64 side) := R5.out.cell 1 (by decide)
    have q4 : wr.cell? ⟨g, o + 4, none⟩ = some (.int .i64 n) := R5.out.cell 4 (by decide)
    have q5 : wr.cell? ⟨g, o + 2, none⟩ = some (.string S) := R5.out.cell 2 (by decide)
    have CO := Lib.hid (fun W => ropen_any key S tside n (by omega) W)
    obtain ⟨O, hO⟩ : ∃ O, O = openR key.data.toList tside n S.data.toList := ⟨_, rfl⟩
    rw [← hO] at CO
    obtain ⟨DB, hDB⟩ : ∃ D : ByteArray, D = ⟨O.1.toArray⟩ := ⟨_, rfl⟩
    have HDB := Lib.hid (show DB.data.toList = O.1 by rw [hDB])
    unfold str at CO
    rw [← hDB] at CO
    have HO := Lib.hid hO
    clear hR5 hT5 hdr hSk hlen hO hDB hOB'
    go_upto_region 8 with fail
    go_cut [9, 10, 11] (fun c7 c8 c9 wx => c7 = .string DB ∧ c8 = .int .i64 O.2.1 ∧ c9 = .int .i64 O.2.2 ∧ Below wr.heap.size wr wx)
    case first =>
      go_region_held3 (fun W => W.cell? ⟨g, o, none⟩ = some (.string key) ∧ W.cell? ⟨g, o + 1, none⟩ = some (.int .i64 side) ∧ W.cell? ⟨g, o + 4, none⟩ = some (.int .i64 n) ∧ W.cell? ⟨g, o + 2, none⟩ = some (.string S)) (first | go_keep | exact ⟨r1, r2, r4, r5⟩) (first
        | (go_at_call 12; refine (CO.out _).mono ?_; rintro e v5 ⟨rfl, hb5⟩; have B6 := Lib.hid (keepBelow (Below.drew (Below.refl _ _)) hb5); have r1 : v5.cell? ⟨g, o, none⟩ = some (.string key) := (R5.out.below B6.out).cell0; have r2 : v5.cell? ⟨g, o + 1, none⟩ = some (.int .i64 side) := (R5.out.below B6.out).cell 1 (by decide); have r4 : v5.cell? ⟨g, o + 4, none⟩ = some (.int .i64 n) := (R5.out.below B6.out).cell 4 (by decide); have r5 : v5.cell? ⟨g, o + 2, none⟩ = some (.string S) := (R5.out.below B6.out).cell 2 (by decide); clear hb5))
      all_goals
        go_wp2_with fail
        go_meet
        exact ⟨rfl, rfl, rfl, B6.out⟩
    case rest =>
      obtain ⟨rfl, rfl, rfl, hb5⟩ := hcut
      have R6 := Lib.hid (R5.out.below hb5)
      have T6 := Lib.hid (T5.out.trans (Two.of hb5))
      clear hb5 q1 q2 q4 q5 CO
      by_cases hE : O.2.2 = 0
      · have hsz := open_size (key := key.data.toList) (side := tside) (number := (n : Int)) (s := S.data.toList) (by rw [← HO.out]; exact hE)
        rw [← HO.out] at hsz
        obtain ⟨s1, s2, s3, _, _⟩ := hsz
        rw [bytes_len] at s2
        obtain ⟨k', hk1, hk2, hk3⟩ := drain_step (key := key.data.toList) (side := tside) (n := n) (s := S.data.toList) (by rw [← HO.out]; exact hE) (k := gk) (by rw [bytes_len]; exact SK.out) out
        rw [← HO.out] at hk2 hk3
        have HK1 := Lib.hid hk1
        have HK2 := Lib.hid hk2
        have HK3 := Lib.hid hk3
        clear hk1 hk2 hk3
        obtain ⟨m, hm⟩ : ∃ m : Nat, m = O.2.1 := ⟨_, rfl⟩
        rw [← hm] at s1 s2 s3
        have HM := Lib.hid hm
        rw [← hm]
        rw [hE]
        have hDs : DB.size = O.1.length := by rw [← bytes_len, HDB.out]
        have c1 : ¬ 9223372036854775807 < OB.size + DB.size := by have := LN.out; omega
        have HD2 := Lib.hid (show (S.extract m S.size).data.toList = S.data.toList.drop m by rw [ex_drop])
        have m2 : (m : Int) ≤ S.size := by omega
        have m4 : m ≤ S.size := s2
        have p1 : IntKind.i64.wrap ((n : Int) + 1) = (n : Int) + 1 := IntWalk.i64_in _ (by omega)
        have hDD := Lib.hid hDs
        have S3 := Lib.hid s3
        have q5 : wc.cell? ⟨g, o + 2, none⟩ = some (.string S) := R6.out.cell 2 (by decide)
        have f5 := R6.out.frozen (o + 2)
        clear hm hE s3 hDs hOBs
        go_upto_region 11 with fail
        go_cut [8] (fun c8 wx => c8 = .string (OB ++ DB) ∧ RefAt wx g o t A C ⟨key, side, sent, n, S.extract m S.size, false⟩ ∧ Two g g w wx)
        case first =>
          go_region
          all_goals
            go_wp2_with fail
            go_meet
            exact ⟨rfl, (R6.out.set_ 2 (by decide) (.string (S.extract m S.size)) (l' := ⟨key, side, sent, n, S.extract m S.size, false⟩) rfl).drew, (T6.out.set1 (o + 2) (.string (S.extract m S.size))).drew⟩
        case rest =>
          obtain ⟨rfl, hR7, hT7⟩ := hcut
          have R7 := Lib.hid hR7
          have T7 := Lib.hid hT7
          have q4 : wc.cell? ⟨g, o + 4, none⟩ = some (.int .i64 n) := R7.out.cell 4 (by decide)
          have f4 := R7.out.frozen (o + 4)
          clear hR7 hT7 q5 f5
          go_wp2_with fail
          go_roundg k'
          case measure => have := HK1.out; omega
          case rel =>
            have e0 := HM.out
            have e1 := HK1.out
            have e2 := HK2.out
            rw [List.length_drop, bytes_len] at e2
            have e3 := S3.out
            have e4 := LN.out
            refine ⟨n + 1, S.extract m S.size, OB ++ DB, out ++ O.1, rfl, ?_, by omega, by rw [ByteArray.size_extract]; omega, ?_, R7.out.set_ 4 (by decide) (.int .i64 ((n : Int) + 1)) (l' := ⟨key, side, sent, ((n + 1 : Nat) : Int), S.extract m S.size, false⟩) rfl, by rw [List.length_append, ByteArray.size_extract]; omega, T7.out.set1 _ _⟩
            · have h : (OB ++ DB).data.toList = out ++ O.1 := by rw [ap_list, HDB.out, HOB'.out]
              rw [← h]
            · rw [HD2.out, HM.out, ← HK3.out]
              exact DR.out
      · have hst := drain_stop (key := key.data.toList) (side := tside) (n := n) (s := S.data.toList) (by rw [← HO.out]; exact hE) gk out
        rw [DR.out, ← HO.out] at hst
        obtain ⟨E0, hE0⟩ : ∃ E0, E0 = O.2.2 := ⟨_, rfl⟩
        rw [← hE0] at hst hE
        rw [← hE0]
        have HST := Lib.hid hst
        have b0 : (E0 != 0) = true := by rw [bne_iff_ne]; exact hE
        have b0' : (E0 == 0) = false := by rw [beq_eq_false_iff_ne]; exact hE
        have f6 := R6.out.frozen (o + 5)
        have f5 := R6.out.frozen (o + 2)
        have q6 : wc.cell? ⟨g, o + 5, none⟩ = some (.bool false) := R6.out.cell 5 (by decide)
        have q5 : wc.cell? ⟨g, o + 2, none⟩ = some (.string S) := R6.out.cell 2 (by decide)
        have hOB' := HOB'.out
        clear hst hE0 hE hOBs
        by_cases h16 : E0 = 16
        · subst h16
          by_cases ho : out = []
          · have HOE := Lib.hid ho
            have he : OB = ⟨#[]⟩ := by rw [hOB', ho]
            subst he
            clear ho hOB'
            go_wp2_with fail
            go_ret2
            rw [show recvR ⟨key, side, sent, n0, left, false⟩ s0 0 = ((⟨#[]⟩, 36), ⟨key, side, sent, n, S, false⟩) by rw [FIN.out, HST.out]; simp [HOE.out]]
            exact ⟨rfl, (R6.out.set_ 5 (by decide) (.bool false) (l' := ⟨key, side, sent, n, S, false⟩) rfl), (T6.out.set1 _ _)⟩
          · have HOE := Lib.hid ho
            have hz : OB.size ≠ 0 := by rw [hOB', str_size]; intro h; exact ho (List.eq_nil_of_length_eq_zero h)
            have e1 := not_empty hz
            have e2 := not_nil hz
            have HOB := Lib.hid hOB'
            clear ho hOB' hz
            go_wp2_with fail
            go_ret2
            rw [show recvR ⟨key, side, sent, n0, left, false⟩ s0 0 = ((⟨out.toArray⟩, 0), ⟨key, side, sent, n, S, false⟩) by rw [FIN.out, HST.out]; simp [HOE.out], ← HOB.out]
            exact ⟨rfl, (R6.out.set_ 5 (by decide) (.bool false) (l' := ⟨key, side, sent, n, S, false⟩) rfl), (T6.out.set1 _ _)⟩
        · have b1 : (E0 != 16) = true := by rw [bne_iff_ne]; exact h16
          have H16 := Lib.hid h16
          clear h16
          by_cases ho : out = []
          · have HOE := Lib.hid ho
            have he : OB = ⟨#[]⟩ := by rw [hOB', ho]
            subst he
            clear ho hOB'
            go_wp2_with fail
            go_ret2
            rw [show recvR ⟨key, side, sent, n0, left, false⟩ s0 0 = ((⟨#[]⟩, 28), ⟨key, side, sent, n, ⟨#[]⟩, true⟩) by rw [FIN.out, HST.out]; simp [HOE.out, H16.out]]
            exact ⟨rfl, ((R6.out.set_ 5 (by decide) (.bool true) (l' := ⟨key, side, sent, n, S, true⟩) rfl).set_ 2 (by decide) (.string ⟨#[]⟩) (l' := ⟨key, side, sent, n, ⟨#[]⟩, true⟩) rfl), ((T6.out.set1 _ _).set1 _ _)⟩
          · have HOE := Lib.hid ho
            have hz : OB.size ≠ 0 := by rw [hOB', str_size]; intro h; exact ho (List.eq_nil_of_length_eq_zero h)
            have e1 := not_empty hz
            have e2 := not_nil hz
            have HOB := Lib.hid hOB'
            clear ho hOB' hz
            go_wp2_with fail
            go_ret2
            rw [show recvR ⟨key, side, sent, n0, left, false⟩ s0 0 = ((⟨out.toArray⟩, 0), ⟨key, side, sent, n, ⟨#[]⟩, true⟩) by rw [FIN.out, HST.out]; simp [HOE.out, H16.out], ← HOB.out]
            exact ⟨rfl, ((R6.out.set_ 5 (by decide) (.bool true) (l' := ⟨key, side, sent, n, S, true⟩) rfl).set_ 2 (by decide) (.string ⟨#[]⟩) (l' := ⟨key, side, sent, n, ⟨#[]⟩, true⟩) rfl), ((T6.out.set1 _ _).set1 _ _)⟩

set_option maxRecDepth 100000 in
set_option maxHeartbeats 6400000 in
theorem rreceive_busy (g o : Nat) (t : TypeId) (A C : List Value) (key : ByteArray) (side sent : Int) (n0 : Nat) (left : ByteArray) (s0 : ByteArray) (hk : badE key.data.toList side 0 = 0) (hn0 : n0 ≤ 1000000000) (hsz : left.size + s0.size ≤ 1000000000)
    (w : World) (hR0 : RefAt w g o t A C ⟨key, side, sent, n0, left, false⟩) :
    Calls Tryd.prog 39 #[.pointer (some ⟨g, o, none⟩), .string s0, .int .i64 36] w fun e w' => e = .returned (.tuple #[.string (recvR ⟨key, side, sent, n0, left, false⟩ s0 36).1.1, .int .i64 (recvR ⟨key, side, sent, n0, left, false⟩ s0 36).1.2]) ∧ RefAt w' g o t A C (recvR ⟨key, side, sent, n0, left, false⟩ s0 36).2 ∧ Two g g w w' := by
  obtain ⟨L1, hL1⟩ : ∃ L1 : ByteArray, L1 = left := ⟨_, rfl⟩
  have hL1s : L1.size ≤ 1000000000 := by rw [hL1]; omega
  obtain ⟨R, hR⟩ : ∃ R, R = drain key.data.toList (3 - side) L1.size n0 L1.data.toList [] := ⟨_, rfl⟩
  have FIN : Hid (recvR ⟨key, side, sent, n0, left, false⟩ s0 36 = ((if R.1 = [] then (⟨#[]⟩, if R.2.2.2 ≠ 16 then 28 else 36) else (⟨R.1.toArray⟩, 0)), ⟨key, side, sent, R.2.2.1, if R.2.2.2 ≠ 16 then ⟨#[]⟩ else ⟨R.2.1.toArray⟩, decide (R.2.2.2 ≠ 16)⟩)) := by
    refine Lib.hid ?_
    rw [hR, hL1]
    unfold recvR
    simp
  have hs := (bad_ok' hk).2
  have hbt : badE key.data.toList (3 - side) 0 = 0 := by
    have hkl := (bad_ok' hk).1
    unfold badE
    rw [if_neg (by simp [hkl]), if_neg (by omega), if_neg (by omega)]
  obtain ⟨tside, hts⟩ : ∃ t, t = 3 - side := ⟨_, rfl⟩
  rw [← hts] at hbt hR
  have w3 : IntKind.i64.wrap (3 - side) = tside := by rw [hts]; exact IntWalk.i64_in _ (by omega)
  have w4 : IntKind.i64.wrap tside = tside := IntWalk.i64_in _ (by omega)
  have w3' : (3 : Int) - side = tside := hts.symm
  have HR0 := Lib.hid hR0
  have y5 : w.cell? ⟨g, o + 5, none⟩ = some (.bool false) := hR0.cell 5 (by decide)
  have y2 : w.cell? ⟨g, o + 2, none⟩ = some (.string left) := hR0.cell 2 (by decide)
  have z5 := hR0.frozen (o + 2)
  have HR := Lib.hid hR
  have HBT := Lib.hid hbt
  subst hL1
  clear hts hs hR0 hR hbt hk hsz
  go_enter Tryd.func39, Tryd.ntmps39
  go_wp2_with fail
  obtain ⟨V3, hV3⟩ : ∃ V3, V3 = w := ⟨_, rfl⟩
  have R3 : Hid (RefAt V3 g o t A C ⟨key, side, sent, n0, L1, false⟩) := by rw [hV3]; exact HR0
  have T3 : Hid (Two g g w V3) := by rw [hV3]; exact Lib.hid (Two.of (Below.refl _ _))
  have hhd : w = V3 := hV3.symm
  rw [hhd]
  clear hV3
  go_loopg [8] L1.size (fun k o8 wr => ∃ (n : Nat) (S OB : ByteArray) (out : List UInt8), o8 = .string OB ∧ OB = ⟨out.toArray⟩ ∧ n + k ≤ n0 + L1.size ∧ S.size ≤ k ∧ drain key.data.toList tside k n S.data.toList out = R ∧ RefAt wr g o t A C ⟨key, side, sent, n, S, false⟩ ∧ out.length + S.size ≤ L1.size ∧ Two g g w wr)
  case atStart => exact ⟨n0, L1, ⟨#[]⟩, [], rfl, rfl, Nat.le_refl _, Nat.le_refl _, HR.out.symm, R3.out, by simp, T3.out⟩
  case round =>
    obtain ⟨n, S, OB, out, rfl, hOB', hnk, hSk, hdr, hR5, hlen, hT5⟩ := hrel
    have R5 := Lib.hid hR5
    have T5 := Lib.hid hT5
    have DR := Lib.hid hdr
    have SK := Lib.hid hSk
    have LN := Lib.hid hlen
    have HOB' := Lib.hid hOB'
    have hOBs : OB.size = out.length := by rw [hOB', str_size]
    have hnb : n ≤ 2000000000 := by omega
    have q1 : wr.cell? ⟨g, o, none⟩ = some (.string key) := R5.out.cell0
    have q2 : wr.cell? ⟨g, o + 1, none⟩ = some (.int .i64 side) := R5.out.cell 1 (by decide)
    have q4 : wr.cell? ⟨g, o + 4, none⟩ = some (.int .i64 n) := R5.out.cell 4 (by decide)
    have q5 : wr.cell? ⟨g, o + 2, none⟩ = some (.string S) := R5.out.cell 2 (by decide)
    have CO := Lib.hid (fun W => ropen_any key S tside n (by omega) W)
    obtain ⟨O, hO⟩ : ∃ O, O = openR key.data.toList tside n S.data.toList := ⟨_, rfl⟩
    rw [← hO] at CO
    obtain ⟨DB, hDB⟩ : ∃ D : ByteArray, D = ⟨O.1.toArray⟩ := ⟨_, rfl⟩
    have HDB := Lib.hid (show DB.data.toList = O.1 by rw [hDB])
    unfold str at CO
    rw [← hDB] at CO
    have HO := Lib.hid hO
    clear hR5 hT5 hdr hSk hlen hO hDB hOB'
    go_upto_region 8 with fail
    go_cut [9, 10, 11] (fun c7 c8 c9 wx => c7 = .string DB ∧ c8 = .int .i64 O.2.1 ∧ c9 = .int .i64 O.2.2 ∧ Below wr.heap.size wr wx)
    case first =>
      go_region_held3 (fun W => W.cell? ⟨g, o, none⟩ = some (.string key) ∧ W.cell? ⟨g, o + 1, none⟩ = some (.int .i64 side) ∧ W.cell? ⟨g, o + 4, none⟩ = some (.int .i64 n) ∧ W.cell? ⟨g, o + 2, none⟩ = some (.string S)) (first | go_keep | exact ⟨r1, r2, r4, r5⟩) (first
        | (go_at_call 12; refine (CO.out _).mono ?_; rintro e v5 ⟨rfl, hb5⟩; have B6 := Lib.hid (keepBelow (Below.drew (Below.refl _ _)) hb5); have r1 : v5.cell? ⟨g, o, none⟩ = some (.string key) := (R5.out.below B6.out).cell0; have r2 : v5.cell? ⟨g, o + 1, none⟩ = some (.int .i64 side) := (R5.out.below B6.out).cell 1 (by decide); have r4 : v5.cell? ⟨g, o + 4, none⟩ = some (.int .i64 n) := (R5.out.below B6.out).cell 4 (by decide); have r5 : v5.cell? ⟨g, o + 2, none⟩ = some (.string S) := (R5.out.below B6.out).cell 2 (by decide); clear hb5))
      all_goals
        go_wp2_with fail
        go_meet
        exact ⟨rfl, rfl, rfl, B6.out⟩
    case rest =>
      obtain ⟨rfl, rfl, rfl, hb5⟩ := hcut
      have R6 := Lib.hid (R5.out.below hb5)
      have T6 := Lib.hid (T5.out.trans (Two.of hb5))
      clear hb5 q1 q2 q4 q5 CO
      by_cases hE : O.2.2 = 0
      · have hsz := open_size (key := key.data.toList) (side := tside) (number := (n : Int)) (s := S.data.toList) (by rw [← HO.out]; exact hE)
        rw [← HO.out] at hsz
        obtain ⟨s1, s2, s3, _, _⟩ := hsz
        rw [bytes_len] at s2
        obtain ⟨k', hk1, hk2, hk3⟩ := drain_step (key := key.data.toList) (side := tside) (n := n) (s := S.data.toList) (by rw [← HO.out]; exact hE) (k := gk) (by rw [bytes_len]; exact SK.out) out
        rw [← HO.out] at hk2 hk3
        have HK1 := Lib.hid hk1
        have HK2 := Lib.hid hk2
        have HK3 := Lib.hid hk3
        clear hk1 hk2 hk3
        obtain ⟨m, hm⟩ : ∃ m : Nat, m = O.2.1 := ⟨_, rfl⟩
        rw [← hm] at s1 s2 s3
        have HM := Lib.hid hm
        rw [← hm]
        rw [hE]
        have hDs : DB.size = O.1.length := by rw [← bytes_len, HDB.out]
        have c1 : ¬ 9223372036854775807 < OB.size + DB.size := by have := LN.out; omega
        have HD2 := Lib.hid (show (S.extract m S.size).data.toList = S.data.toList.drop m by rw [ex_drop])
        have m2 : (m : Int) ≤ S.size := by omega
        have m4 : m ≤ S.size := s2
        have p1 : IntKind.i64.wrap ((n : Int) + 1) = (n : Int) + 1 := IntWalk.i64_in _ (by omega)
        have hDD := Lib.hid hDs
        have S3 := Lib.hid s3
        have q5 : wc.cell? ⟨g, o + 2, none⟩ = some (.string S) := R6.out.cell 2 (by decide)
        have f5 := R6.out.frozen (o + 2)
        clear hm hE s3 hDs hOBs
        go_upto_region 11 with fail
        go_cut [8] (fun c8 wx => c8 = .string (OB ++ DB) ∧ RefAt wx g o t A C ⟨key, side, sent, n, S.extract m S.size, false⟩ ∧ Two g g w wx)
        case first =>
          go_region
          all_goals
            go_wp2_with fail
            go_meet
            exact ⟨rfl, (R6.out.set_ 2 (by decide) (.string (S.extract m S.size)) (l' := ⟨key, side, sent, n, S.extract m S.size, false⟩) rfl).drew, (T6.out.set1 (o + 2) (.string (S.extract m S.size))).drew⟩
        case rest =>
          obtain ⟨rfl, hR7, hT7⟩ := hcut
          have R7 := Lib.hid hR7
          have T7 := Lib.hid hT7
          have q4 : wc.cell? ⟨g, o + 4, none⟩ = some (.int .i64 n) := R7.out.cell 4 (by decide)
          have f4 := R7.out.frozen (o + 4)
          clear hR7 hT7 q5 f5
          go_wp2_with fail
          go_roundg k'
          case measure => have := HK1.out; omega
          case rel =>
            have e0 := HM.out
            have e1 := HK1.out
            have e2 := HK2.out
            rw [List.length_drop, bytes_len] at e2
            have e3 := S3.out
            have e4 := LN.out
            refine ⟨n + 1, S.extract m S.size, OB ++ DB, out ++ O.1, rfl, ?_, by omega, by rw [ByteArray.size_extract]; omega, ?_, R7.out.set_ 4 (by decide) (.int .i64 ((n : Int) + 1)) (l' := ⟨key, side, sent, ((n + 1 : Nat) : Int), S.extract m S.size, false⟩) rfl, by rw [List.length_append, ByteArray.size_extract]; omega, T7.out.set1 _ _⟩
            · have h : (OB ++ DB).data.toList = out ++ O.1 := by rw [ap_list, HDB.out, HOB'.out]
              rw [← h]
            · rw [HD2.out, HM.out, ← HK3.out]
              exact DR.out
      · have hst := drain_stop (key := key.data.toList) (side := tside) (n := n) (s := S.data.toList) (by rw [← HO.out]; exact hE) gk out
        rw [DR.out, ← HO.out] at hst
        obtain ⟨E0, hE0⟩ : ∃ E0, E0 = O.2.2 := ⟨_, rfl⟩
        rw [← hE0] at hst hE
        rw [← hE0]
        have HST := Lib.hid hst
        have b0 : (E0 != 0) = true := by rw [bne_iff_ne]; exact hE
        have b0' : (E0 == 0) = false := by rw [beq_eq_false_iff_ne]; exact hE
        have f6 := R6.out.frozen (o + 5)
        have f5 := R6.out.frozen (o + 2)
        have q6 : wc.cell? ⟨g, o + 5, none⟩ = some (.bool false) := R6.out.cell 5 (by decide)
        have q5 : wc.cell? ⟨g, o + 2, none⟩ = some (.string S) := R6.out.cell 2 (by decide)
        have hOB' := HOB'.out
        clear hst hE0 hE hOBs
        by_cases h16 : E0 = 16
        · subst h16
          by_cases ho : out = []
          · have HOE := Lib.hid ho
            have he : OB = ⟨#[]⟩ := by rw [hOB', ho]
            subst he
            clear ho hOB'
            go_wp2_with fail
            go_ret2
            rw [show recvR ⟨key, side, sent, n0, L1, false⟩ s0 36 = ((⟨#[]⟩, 36), ⟨key, side, sent, n, S, false⟩) by rw [FIN.out, HST.out]; simp [HOE.out]]
            exact ⟨rfl, (R6.out.set_ 5 (by decide) (.bool false) (l' := ⟨key, side, sent, n, S, false⟩) rfl), (T6.out.set1 _ _)⟩
          · have HOE := Lib.hid ho
            have hz : OB.size ≠ 0 := by rw [hOB', str_size]; intro h; exact ho (List.eq_nil_of_length_eq_zero h)
            have e1 := not_empty hz
            have e2 := not_nil hz
            have HOB := Lib.hid hOB'
            clear ho hOB' hz
            go_wp2_with fail
            go_ret2
            rw [show recvR ⟨key, side, sent, n0, L1, false⟩ s0 36 = ((⟨out.toArray⟩, 0), ⟨key, side, sent, n, S, false⟩) by rw [FIN.out, HST.out]; simp [HOE.out], ← HOB.out]
            exact ⟨rfl, (R6.out.set_ 5 (by decide) (.bool false) (l' := ⟨key, side, sent, n, S, false⟩) rfl), (T6.out.set1 _ _)⟩
        · have b1 : (E0 != 16) = true := by rw [bne_iff_ne]; exact h16
          have H16 := Lib.hid h16
          clear h16
          by_cases ho : out = []
          · have HOE := Lib.hid ho
            have he : OB = ⟨#[]⟩ := by rw [hOB', ho]
            subst he
            clear ho hOB'
            go_wp2_with fail
            go_ret2
            rw [show recvR ⟨key, side, sent, n0, L1, false⟩ s0 36 = ((⟨#[]⟩, 28), ⟨key, side, sent, n, ⟨#[]⟩, true⟩) by rw [FIN.out, HST.out]; simp [HOE.out, H16.out]]
            exact ⟨rfl, ((R6.out.set_ 5 (by decide) (.bool true) (l' := ⟨key, side, sent, n, S, true⟩) rfl).set_ 2 (by decide) (.string ⟨#[]⟩) (l' := ⟨key, side, sent, n, ⟨#[]⟩, true⟩) rfl), ((T6.out.set1 _ _).set1 _ _)⟩
          · have HOE := Lib.hid ho
            have hz : OB.size ≠ 0 := by rw [hOB', str_size]; intro h; exact ho (List.eq_nil_of_length_eq_zero h)
            have e1 := not_empty hz
            have e2 := not_nil hz
            have HOB := Lib.hid hOB'
            clear ho hOB' hz
            go_wp2_with fail
            go_ret2
            rw [show recvR ⟨key, side, sent, n0, L1, false⟩ s0 36 = ((⟨out.toArray⟩, 0), ⟨key, side, sent, n, ⟨#[]⟩, true⟩) by rw [FIN.out, HST.out]; simp [HOE.out, H16.out], ← HOB.out]
            exact ⟨rfl, ((R6.out.set_ 5 (by decide) (.bool true) (l' := ⟨key, side, sent, n, S, true⟩) rfl).set_ 2 (by decide) (.string ⟨#[]⟩) (l' := ⟨key, side, sent, n, ⟨#[]⟩, true⟩) rfl), ((T6.out.set1 _ _).set1 _ _)⟩

set_option maxRecDepth 100000 in
set_option maxHeartbeats 6400000 in
theorem rreceive_cut (g o : Nat) (t : TypeId) (A C : List Value) (key : ByteArray) (side sent : Int) (n0 : Nat) (left : ByteArray) (s0 : ByteArray) (hk : badE key.data.toList side 0 = 0) (hn0 : n0 ≤ 1000000000) (hsz : left.size + s0.size ≤ 1000000000)
    (w : World) (hR0 : RefAt w g o t A C ⟨key, side, sent, n0, left, false⟩) :
    Calls Tryd.prog 39 #[.pointer (some ⟨g, o, none⟩), .string s0, .int .i64 28] w fun e w' => e = .returned (.tuple #[.string (recvR ⟨key, side, sent, n0, left, false⟩ s0 28).1.1, .int .i64 (recvR ⟨key, side, sent, n0, left, false⟩ s0 28).1.2]) ∧ RefAt w' g o t A C (recvR ⟨key, side, sent, n0, left, false⟩ s0 28).2 ∧ Two g g w w' := by
  obtain ⟨L1, hL1⟩ : ∃ L1 : ByteArray, L1 = left := ⟨_, rfl⟩
  have hL1s : L1.size ≤ 1000000000 := by rw [hL1]; omega
  obtain ⟨R, hR⟩ : ∃ R, R = drain key.data.toList (3 - side) L1.size n0 L1.data.toList [] := ⟨_, rfl⟩
  have FIN : Hid (recvR ⟨key, side, sent, n0, left, false⟩ s0 28 = ((if R.1 = [] then (⟨#[]⟩, if True then 28 else 36) else (⟨R.1.toArray⟩, 0)), ⟨key, side, sent, R.2.2.1, if True then ⟨#[]⟩ else ⟨R.2.1.toArray⟩, decide (True)⟩)) := by
    refine Lib.hid ?_
    rw [hR, hL1]
    unfold recvR
    simp
  have hs := (bad_ok' hk).2
  have hbt : badE key.data.toList (3 - side) 0 = 0 := by
    have hkl := (bad_ok' hk).1
    unfold badE
    rw [if_neg (by simp [hkl]), if_neg (by omega), if_neg (by omega)]
  obtain ⟨tside, hts⟩ : ∃ t, t = 3 - side := ⟨_, rfl⟩
  rw [← hts] at hbt hR
  have w3 : IntKind.i64.wrap (3 - side) = tside := by rw [hts]; exact IntWalk.i64_in _ (by omega)
  have w4 : IntKind.i64.wrap tside = tside := IntWalk.i64_in _ (by omega)
  have w3' : (3 : Int) - side = tside := hts.symm
  have HR0 := Lib.hid hR0
  have y5 : w.cell? ⟨g, o + 5, none⟩ = some (.bool false) := hR0.cell 5 (by decide)
  have y2 : w.cell? ⟨g, o + 2, none⟩ = some (.string left) := hR0.cell 2 (by decide)
  have z5 := hR0.frozen (o + 2)
  have HR := Lib.hid hR
  have HBT := Lib.hid hbt
  subst hL1
  clear hts hs hR0 hR hbt hk hsz
  go_enter Tryd.func39, Tryd.ntmps39
  go_wp2_with fail
  obtain ⟨V3, hV3⟩ : ∃ V3, V3 = w := ⟨_, rfl⟩
  have R3 : Hid (RefAt V3 g o t A C ⟨key, side, sent, n0, L1, false⟩) := by rw [hV3]; exact HR0
  have T3 : Hid (Two g g w V3) := by rw [hV3]; exact Lib.hid (Two.of (Below.refl _ _))
  have hhd : w = V3 := hV3.symm
  rw [hhd]
  clear hV3
  go_loopg [8] L1.size (fun k o8 wr => ∃ (n : Nat) (S OB : ByteArray) (out : List UInt8), o8 = .string OB ∧ OB = ⟨out.toArray⟩ ∧ n + k ≤ n0 + L1.size ∧ S.size ≤ k ∧ drain key.data.toList tside k n S.data.toList out = R ∧ RefAt wr g o t A C ⟨key, side, sent, n, S, false⟩ ∧ out.length + S.size ≤ L1.size ∧ Two g g w wr)
  case atStart => exact ⟨n0, L1, ⟨#[]⟩, [], rfl, rfl, Nat.le_refl _, Nat.le_refl _, HR.out.symm, R3.out, by simp, T3.out⟩
  case round =>
    obtain ⟨n, S, OB, out, rfl, hOB', hnk, hSk, hdr, hR5, hlen, hT5⟩ := hrel
    have R5 := Lib.hid hR5
    have T5 := Lib.hid hT5
    have DR := Lib.hid hdr
    have SK := Lib.hid hSk
    have LN := Lib.hid hlen
    have HOB' := Lib.hid hOB'
    have hOBs : OB.size = out.length := by rw [hOB', str_size]
    have hnb : n ≤ 2000000000 := by omega
    have q1 : wr.cell? ⟨g, o, none⟩ = some (.string key) := R5.out.cell0
    have q2 : wr.cell? ⟨g, o + 1, none⟩ = some (.int .i64 side) := R5.out.cell 1 (by decide)
    have q4 : wr.cell? ⟨g, o + 4, none⟩ = some (.int .i64 n) := R5.out.cell 4 (by decide)
    have q5 : wr.cell? ⟨g, o + 2, none⟩ = some (.string S) := R5.out.cell 2 (by decide)
    have CO := Lib.hid (fun W => ropen_any key S tside n (by omega) W)
    obtain ⟨O, hO⟩ : ∃ O, O = openR key.data.toList tside n S.data.toList := ⟨_, rfl⟩
    rw [← hO] at CO
    obtain ⟨DB, hDB⟩ : ∃ D : ByteArray, D = ⟨O.1.toArray⟩ := ⟨_, rfl⟩
    have HDB := Lib.hid (show DB.data.toList = O.1 by rw [hDB])
    unfold str at CO
    rw [← hDB] at CO
    have HO := Lib.hid hO
    clear hR5 hT5 hdr hSk hlen hO hDB hOB'
    go_upto_region 8 with fail
    go_cut [9, 10, 11] (fun c7 c8 c9 wx => c7 = .string DB ∧ c8 = .int .i64 O.2.1 ∧ c9 = .int .i64 O.2.2 ∧ Below wr.heap.size wr wx)
    case first =>
      go_region_held3 (fun W => W.cell? ⟨g, o, none⟩ = some (.string key) ∧ W.cell? ⟨g, o + 1, none⟩ = some (.int .i64 side) ∧ W.cell? ⟨g, o + 4, none⟩ = some (.int .i64 n) ∧ W.cell? ⟨g, o + 2, none⟩ = some (.string S)) (first | go_keep | exact ⟨r1, r2, r4, r5⟩) (first
        | (go_at_call 12; refine (CO.out _).mono ?_; rintro e v5 ⟨rfl, hb5⟩; have B6 := Lib.hid (keepBelow (Below.drew (Below.refl _ _)) hb5); have r1 : v5.cell? ⟨g, o, none⟩ = some (.string key) := (R5.out.below B6.out).cell0; have r2 : v5.cell? ⟨g, o + 1, none⟩ = some (.int .i64 side) := (R5.out.below B6.out).cell 1 (by decide); have r4 : v5.cell? ⟨g, o + 4, none⟩ = some (.int .i64 n) := (R5.out.below B6.out).cell 4 (by decide); have r5 : v5.cell? ⟨g, o + 2, none⟩ = some (.string S) := (R5.out.below B6.out).cell 2 (by decide); clear hb5))
      all_goals
        go_wp2_with fail
        go_meet
        exact ⟨rfl, rfl, rfl, B6.out⟩
    case rest =>
      obtain ⟨rfl, rfl, rfl, hb5⟩ := hcut
      have R6 := Lib.hid (R5.out.below hb5)
      have T6 := Lib.hid (T5.out.trans (Two.of hb5))
      clear hb5 q1 q2 q4 q5 CO
      by_cases hE : O.2.2 = 0
      · have hsz := open_size (key := key.data.toList) (side := tside) (number := (n : Int)) (s := S.data.toList) (by rw [← HO.out]; exact hE)
        rw [← HO.out] at hsz
        obtain ⟨s1, s2, s3, _, _⟩ := hsz
        rw [bytes_len] at s2
        obtain ⟨k', hk1, hk2, hk3⟩ := drain_step (key := key.data.toList) (side := tside) (n := n) (s := S.data.toList) (by rw [← HO.out]; exact hE) (k := gk) (by rw [bytes_len]; exact SK.out) out
        rw [← HO.out] at hk2 hk3
        have HK1 := Lib.hid hk1
        have HK2 := Lib.hid hk2
        have HK3 := Lib.hid hk3
        clear hk1 hk2 hk3
        obtain ⟨m, hm⟩ : ∃ m : Nat, m = O.2.1 := ⟨_, rfl⟩
        rw [← hm] at s1 s2 s3
        have HM := Lib.hid hm
        rw [← hm]
        rw [hE]
        have hDs : DB.size = O.1.length := by rw [← bytes_len, HDB.out]
        have c1 : ¬ 9223372036854775807 < OB.size + DB.size := by have := LN.out; omega
        have HD2 := Lib.hid (show (S.extract m S.size).data.toList = S.data.toList.drop m by rw [ex_drop])
        have m2 : (m : Int) ≤ S.size := by omega
        have m4 : m ≤ S.size := s2
        have p1 : IntKind.i64.wrap ((n : Int) + 1) = (n : Int) + 1 := IntWalk.i64_in _ (by omega)
        have hDD := Lib.hid hDs
        have S3 := Lib.hid s3
        have q5 : wc.cell? ⟨g, o + 2, none⟩ = some (.string S) := R6.out.cell 2 (by decide)
        have f5 := R6.out.frozen (o + 2)
        clear hm hE s3 hDs hOBs
        go_upto_region 11 with fail
        go_cut [8] (fun c8 wx => c8 = .string (OB ++ DB) ∧ RefAt wx g o t A C ⟨key, side, sent, n, S.extract m S.size, false⟩ ∧ Two g g w wx)
        case first =>
          go_region
          all_goals
            go_wp2_with fail
            go_meet
            exact ⟨rfl, (R6.out.set_ 2 (by decide) (.string (S.extract m S.size)) (l' := ⟨key, side, sent, n, S.extract m S.size, false⟩) rfl).drew, (T6.out.set1 (o + 2) (.string (S.extract m S.size))).drew⟩
        case rest =>
          obtain ⟨rfl, hR7, hT7⟩ := hcut
          have R7 := Lib.hid hR7
          have T7 := Lib.hid hT7
          have q4 : wc.cell? ⟨g, o + 4, none⟩ = some (.int .i64 n) := R7.out.cell 4 (by decide)
          have f4 := R7.out.frozen (o + 4)
          clear hR7 hT7 q5 f5
          go_wp2_with fail
          go_roundg k'
          case measure => have := HK1.out; omega
          case rel =>
            have e0 := HM.out
            have e1 := HK1.out
            have e2 := HK2.out
            rw [List.length_drop, bytes_len] at e2
            have e3 := S3.out
            have e4 := LN.out
            refine ⟨n + 1, S.extract m S.size, OB ++ DB, out ++ O.1, rfl, ?_, by omega, by rw [ByteArray.size_extract]; omega, ?_, R7.out.set_ 4 (by decide) (.int .i64 ((n : Int) + 1)) (l' := ⟨key, side, sent, ((n + 1 : Nat) : Int), S.extract m S.size, false⟩) rfl, by rw [List.length_append, ByteArray.size_extract]; omega, T7.out.set1 _ _⟩
            · have h : (OB ++ DB).data.toList = out ++ O.1 := by rw [ap_list, HDB.out, HOB'.out]
              rw [← h]
            · rw [HD2.out, HM.out, ← HK3.out]
              exact DR.out
      · have hst := drain_stop (key := key.data.toList) (side := tside) (n := n) (s := S.data.toList) (by rw [← HO.out]; exact hE) gk out
        rw [DR.out, ← HO.out] at hst
        obtain ⟨E0, hE0⟩ : ∃ E0, E0 = O.2.2 := ⟨_, rfl⟩
        rw [← hE0] at hst hE
        rw [← hE0]
        have HST := Lib.hid hst
        have b0 : (E0 != 0) = true := by rw [bne_iff_ne]; exact hE
        have b0' : (E0 == 0) = false := by rw [beq_eq_false_iff_ne]; exact hE
        have f6 := R6.out.frozen (o + 5)
        have f5 := R6.out.frozen (o + 2)
        have q6 : wc.cell? ⟨g, o + 5, none⟩ = some (.bool false) := R6.out.cell 5 (by decide)
        have q5 : wc.cell? ⟨g, o + 2, none⟩ = some (.string S) := R6.out.cell 2 (by decide)
        have hOB' := HOB'.out
        clear hst hE0 hE hOBs
        by_cases h16 : E0 = 16
        · subst h16
          by_cases ho : out = []
          · have HOE := Lib.hid ho
            have he : OB = ⟨#[]⟩ := by rw [hOB', ho]
            subst he
            clear ho hOB'
            go_wp2_with fail
            go_ret2
            rw [show recvR ⟨key, side, sent, n0, L1, false⟩ s0 28 = ((⟨#[]⟩, 28), ⟨key, side, sent, n, ⟨#[]⟩, true⟩) by rw [FIN.out, HST.out]; simp [HOE.out]]
            exact ⟨rfl, ((R6.out.set_ 5 (by decide) (.bool true) (l' := ⟨key, side, sent, n, S, true⟩) rfl).set_ 2 (by decide) (.string ⟨#[]⟩) (l' := ⟨key, side, sent, n, ⟨#[]⟩, true⟩) rfl), ((T6.out.set1 _ _).set1 _ _)⟩
          · have HOE := Lib.hid ho
            have hz : OB.size ≠ 0 := by rw [hOB', str_size]; intro h; exact ho (List.eq_nil_of_length_eq_zero h)
            have e1 := not_empty hz
            have e2 := not_nil hz
            have HOB := Lib.hid hOB'
            clear ho hOB' hz
            go_wp2_with fail
            go_ret2
            rw [show recvR ⟨key, side, sent, n0, L1, false⟩ s0 28 = ((⟨out.toArray⟩, 0), ⟨key, side, sent, n, ⟨#[]⟩, true⟩) by rw [FIN.out, HST.out]; simp [HOE.out], ← HOB.out]
            exact ⟨rfl, ((R6.out.set_ 5 (by decide) (.bool true) (l' := ⟨key, side, sent, n, S, true⟩) rfl).set_ 2 (by decide) (.string ⟨#[]⟩) (l' := ⟨key, side, sent, n, ⟨#[]⟩, true⟩) rfl), ((T6.out.set1 _ _).set1 _ _)⟩
        · have b1 : (E0 != 16) = true := by rw [bne_iff_ne]; exact h16
          have H16 := Lib.hid h16
          clear h16
          by_cases ho : out = []
          · have HOE := Lib.hid ho
            have he : OB = ⟨#[]⟩ := by rw [hOB', ho]
            subst he
            clear ho hOB'
            go_wp2_with fail
            go_ret2
            rw [show recvR ⟨key, side, sent, n0, L1, false⟩ s0 28 = ((⟨#[]⟩, 28), ⟨key, side, sent, n, ⟨#[]⟩, true⟩) by rw [FIN.out, HST.out]; simp [HOE.out]]
            exact ⟨rfl, ((R6.out.set_ 5 (by decide) (.bool true) (l' := ⟨key, side, sent, n, S, true⟩) rfl).set_ 2 (by decide) (.string ⟨#[]⟩) (l' := ⟨key, side, sent, n, ⟨#[]⟩, true⟩) rfl), ((T6.out.set1 _ _).set1 _ _)⟩
          · have HOE := Lib.hid ho
            have hz : OB.size ≠ 0 := by rw [hOB', str_size]; intro h; exact ho (List.eq_nil_of_length_eq_zero h)
            have e1 := not_empty hz
            have e2 := not_nil hz
            have HOB := Lib.hid hOB'
            clear ho hOB' hz
            go_wp2_with fail
            go_ret2
            rw [show recvR ⟨key, side, sent, n0, L1, false⟩ s0 28 = ((⟨out.toArray⟩, 0), ⟨key, side, sent, n, ⟨#[]⟩, true⟩) by rw [FIN.out, HST.out]; simp [HOE.out], ← HOB.out]
            exact ⟨rfl, ((R6.out.set_ 5 (by decide) (.bool true) (l' := ⟨key, side, sent, n, S, true⟩) rfl).set_ 2 (by decide) (.string ⟨#[]⟩) (l' := ⟨key, side, sent, n, ⟨#[]⟩, true⟩) rfl), ((T6.out.set1 _ _).set1 _ _)⟩
end Go.Proofs.YtmblnacckboggaaDoor
