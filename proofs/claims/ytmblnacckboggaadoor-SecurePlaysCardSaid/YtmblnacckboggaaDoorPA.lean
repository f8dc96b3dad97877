/- agree (23), the reference's Send (22). -/
import Derived.Test.YtmblnacckboggaaDoorP9
import Derived.Test.YtmblnacckboggaaDoorQB
import Derived.Deep.QuietTactic
import Derived.BigQuiet
namespace Go.Proofs.YtmblnacckboggaaDoor
open Go.RowKit
theorem bytes_inj {a b : ByteArray} (h : a.data.toList = b.data.toList) : a = b := by
  rw [← mk_back a, h, mk_back]
theorem counts_any (lb wb : Nat) (l : Lk) (w : World) (h : Blk w lb 89 (linkC wb l)) : Calls Tryd.prog 25 #[.pointer (some ⟨lb, 0, none⟩)] w fun e w' => e = .returned (.tuple #[.int .i64 l.sent, .int .i64 l.taken]) ∧ Below w.heap.size w w' := by
  have c3 : w.cell? ⟨lb, 3, none⟩ = some (.int .i64 l.sent) := h.cell 3
  have c4 : w.cell? ⟨lb, 4, none⟩ = some (.int .i64 l.taken) := h.cell 4
  clear h
  go_enter Tryd.func25, Tryd.ntmps25
  go_wp2_with fail
  go_quiet (fail)
  go_wp2_with fail
  go_ret2
  exact ⟨rfl, belowN (Below.refl _ _) _⟩
theorem Blk.drewN {w : World} {g : Nat} {t : TypeId} {cs : List Value} (h : Blk w g t cs) (n : Nat) : Blk (w.drewN n) g t cs := h
set_option maxRecDepth 100000 in
set_option maxHeartbeats 1600000 in
theorem ends_agree0 (w : World) (B g l0 l1 w0 w1 : Nat) (L L1 : Lk) (X0 X1 : Wi) (R1 : Lk) (y0 y1 : ByteArray) (hE : En w B g l0 l1 w0 w1 L L1 X0 X1 L R1 y0 y1) :
    Calls Tryd.prog 23 #[.pointer (some ⟨g, 0, none⟩), .int .i64 0] w fun e w' => e = .returned (.bool true) ∧ En w' B g l0 l1 w0 w1 L L1 X0 X1 L R1 y0 y1 ∧ Below w.heap.size w w' := by
  have HE := Lib.hid hE
  have CC := Lib.hid (fun W h => counts_any l0 w0 L W h)
  have CE := Lib.hid (fun W h => ended_any l0 w0 L W h)
  have p0 : w.cell? ⟨g, 0, none⟩ = some (.pointer (some ⟨l0, 0, none⟩)) := hE.blk.cell 0
  clear hE
  go_enter Tryd.func23, Tryd.ntmps23
  go_upto_region 3 with (go_at_call 25; refine (CC.out _ HE.out.k0).mono ?_; rintro e v1 ⟨rfl, hb1⟩; have B1 := Lib.hid hb1; have E0 := Lib.hid (HE.out.below hb1); have d0 : v1.cell? ⟨g, 4, none⟩ = some (.string L.key) := E0.out.blk.cell 4; have d1 : v1.cell? ⟨g, 5, none⟩ = some (.int .i64 L.side) := E0.out.blk.cell 5; have d2 : v1.cell? ⟨g, 6, none⟩ = some (.string L.left) := E0.out.blk.cell 6; have d3 : v1.cell? ⟨g, 7, none⟩ = some (.int .i64 L.sent) := E0.out.blk.cell 7; have d4 : v1.cell? ⟨g, 8, none⟩ = some (.int .i64 L.taken) := E0.out.blk.cell 8; have d5 : v1.cell? ⟨g, 9, none⟩ = some (.bool L.fin) := E0.out.blk.cell 9; clear hb1)
  have E1 : Hid (En (v1.alloc (.cells #[.string L.key, .int .i64 L.side, .string L.left, .int .i64 L.sent, .int .i64 L.taken, .bool L.fin] 41)) B g l0 l1 w0 w1 L L1 X0 X1 L R1 y0 y1) := Lib.hid (E0.out.below ((Below.refl _ _).alloc (Nat.le_refl _) _))
  have p0' : (v1.alloc (.cells #[.string L.key, .int .i64 L.side, .string L.left, .int .i64 L.sent, .int .i64 L.taken, .bool L.fin] 41)).cell? ⟨g, 0, none⟩ = some (.pointer (some ⟨l0, 0, none⟩)) := E1.out.blk.cell 0
  have b1 : (L.sent == L.sent) = true := by simp
  have b2 : (L.taken == L.taken) = true := by simp
  go_quiet ((go_at_call 16; exact Calls.quiet_of_same ((CE.out _ (E1.out.k0.drewN _)).mono fun e w' ⟨a, b⟩ => ⟨a, b.symm⟩)))
  go_wp2_with fail
  go_ret
  exact ⟨rfl, E1.out.below (belowN (Below.refl _ _) _), belowN (keepBelow B1.out ((Below.refl _ _).alloc (Nat.le_refl _) _)) _⟩
set_option maxRecDepth 100000 in
set_option maxHeartbeats 1600000 in
theorem ends_agree1 (w : World) (B g l0 l1 w0 w1 : Nat) (L L0 : Lk) (X0 X1 : Wi) (R0 : Lk) (y0 y1 : ByteArray) (hE : En w B g l0 l1 w0 w1 L0 L X0 X1 R0 L y0 y1) :
    Calls Tryd.prog 23 #[.pointer (some ⟨g, 0, none⟩), .int .i64 1] w fun e w' => e = .returned (.bool true) ∧ En w' B g l0 l1 w0 w1 L0 L X0 X1 R0 L y0 y1 ∧ Below w.heap.size w w' := by
  have HE := Lib.hid hE
  have CC := Lib.hid (fun W h => counts_any l1 w1 L W h)
  have CE := Lib.hid (fun W h => ended_any l1 w1 L W h)
  have p1 : w.cell? ⟨g, 1, none⟩ = some (.pointer (some ⟨l1, 0, none⟩)) := hE.blk.cell 1
  clear hE
  go_enter Tryd.func23, Tryd.ntmps23
  go_upto_region 3 with (go_at_call 25; refine (CC.out _ HE.out.k1).mono ?_; rintro e v1 ⟨rfl, hb1⟩; have B1 := Lib.hid hb1; have E0 := Lib.hid (HE.out.below hb1); have d0 : v1.cell? ⟨g, 10, none⟩ = some (.string L.key) := E0.out.blk.cell 10; have d1 : v1.cell? ⟨g, 11, none⟩ = some (.int .i64 L.side) := E0.out.blk.cell 11; have d2 : v1.cell? ⟨g, 12, none⟩ = some (.string L.left) := E0.out.blk.cell 12; have d3 : v1.cell? ⟨g, 13, none⟩ = some (.int .i64 L.sent) := E0.out.blk.cell 13; have d4 : v1.cell? ⟨g, 14, none⟩ = some (.int .i64 L.taken) := E0.out.blk.cell 14; have d5 : v1.cell? ⟨g, 15, none⟩ = some (.bool L.fin) := E0.out.blk.cell 15; clear hb1)
  have E1 : Hid (En (v1.alloc (.cells #[.string L.key, .int .i64 L.side, .string L.left, .int .i64 L.sent, .int .i64 L.taken, .bool L.fin] 41)) B g l0 l1 w0 w1 L0 L X0 X1 R0 L y0 y1) := Lib.hid (E0.out.below ((Below.refl _ _).alloc (Nat.le_refl _) _))
  have p1' : (v1.alloc (.cells #[.string L.key, .int .i64 L.side, .string L.left, .int .i64 L.sent, .int .i64 L.taken, .bool L.fin] 41)).cell? ⟨g, 1, none⟩ = some (.pointer (some ⟨l1, 0, none⟩)) := E1.out.blk.cell 1
  have b1 : (L.sent == L.sent) = true := by simp
  have b2 : (L.taken == L.taken) = true := by simp
  go_quiet ((go_at_call 16; exact Calls.quiet_of_same ((CE.out _ (E1.out.k1.drewN _)).mono fun e w' ⟨a, b⟩ => ⟨a, b.symm⟩)))
  go_wp2_with fail
  go_ret
  exact ⟨rfl, E1.out.below (belowN (Below.refl _ _) _), belowN (keepBelow B1.out ((Below.refl _ _).alloc (Nat.le_refl _) _)) _⟩

set_option maxRecDepth 100000 in
set_option maxHeartbeats 3200000 in
theorem rsend_any (l : Lk) (k : Nat) (d : ByteArray) (hk : badE l.key.data.toList l.side 0 = 0) (hs : l.sent = k) (hk2 : k ≤ 1000000) (hd : d.size ≤ 100000) (w : World) :
    Calls Tryd.prog 22 #[.agg #[.string l.key, .int .i64 l.side, .string l.left, .int .i64 l.sent, .int .i64 l.taken, .bool l.fin], .string d] w fun e w' => e = .returned (.tuple #[.string ⟨(outL l.key.data.toList l.side k d.data.toList (cntL d.size)).toArray⟩, .int .i64 (cntL d.size : Nat)]) ∧ Below w.heap.size w w' := by
  obtain ⟨key, side, sent, taken, left, fin⟩ := l
  simp only at hk hs
  subst hs
  have CR := Lib.hid (fun (i : Nat) (p : ByteArray) (hp : p.size ≠ 0) (hp2 : p.size ≤ 1024) W => rrecord_good key p side (k + i) (bad_num hk _) hp hp2 W)
  have XX : Hid (Blk (w.alloc (.cells #[.string key, .int .i64 side, .string left, .int .i64 k, .int .i64 taken, .bool fin] 41)) w.heap.size 41 [.string key, .int .i64 side, .string left, .int .i64 k, .int .i64 taken, .bool fin]) := Lib.hid (Blk.new w 41 [_, _, _, _, _, _])
  clear hk
  go_enter Tryd.func22, Tryd.ntmps22
  go_wp2_with fail
  go_loopw [1, 6, 7] (fun dv ov nv wr => ∃ (i : Nat) (D OB : ByteArray), dv = .string D ∧ ov = .string OB ∧ nv = .int .i64 i ∧ i ≤ cntL d.size ∧ D.data.toList = d.data.toList.drop (1024 * i) ∧ OB.data.toList = outL key.data.toList side k d.data.toList i ∧ Below w.heap.size w wr ∧ Blk wr w.heap.size 41 [.string key, .int .i64 side, .string left, .int .i64 k, .int .i64 taken, .bool fin]) (fun _ _ nv _ => cntL d.size - (intOf nv).toNat)
  case atStart => exact ⟨0, d, ⟨#[]⟩, rfl, rfl, rfl, Nat.zero_le _, rfl, rfl, (Below.refl _ _).alloc (Nat.le_refl _) _, XX.out⟩
  case round =>
    obtain ⟨i, D, OB, rfl, rfl, rfl, hi, hD, hO, hN, hX⟩ := hrel
    have HD := Lib.hid hD
    have HOL := Lib.hid hO
    have HN := Lib.hid hN
    have HX := Lib.hid hX
    have hDs : D.size = d.size - 1024 * i := by rw [← bytes_len, hD, List.length_drop, bytes_len]
    have hi2 : i ≤ 1000 := by unfold cntL at hi; omega
    have HI := Lib.hid hi
    have x0 : wr.cell? ⟨w.heap.size, 0, none⟩ = some (.string key) := hX.cell 0
    have x1 : wr.cell? ⟨w.heap.size, 1, none⟩ = some (.int .i64 side) := hX.cell 1
    have x3 : wr.cell? ⟨w.heap.size, 3, none⟩ = some (.int .i64 k) := hX.cell 3
    clear hD hO hN hX hi
    by_cases hlt : 1024 * i < d.size
    · have hD0 : D.size ≠ 0 := by omega
      have e1 := not_empty hD0
      have e2 := not_nil hD0
      clear hD0
      by_cases hb1024 : 1024 < D.size
      · skip
        have hm2 : 1024 ≤ D.size := by omega
        obtain ⟨q, hq⟩ : ∃ q : Nat, q = k + i := ⟨_, rfl⟩
        have C := Lib.hid (CR.out i (D.extract 0 1024) (by rw [ByteArray.size_extract]; omega) (by rw [ByteArray.size_extract]; omega))
        obtain ⟨RB, hRB⟩ : ∃ RB : ByteArray, RB = ⟨(recL key.data.toList side q (D.extract 0 1024).data.toList).toArray⟩ := ⟨_, rfl⟩
        unfold str at C
        rw [← hq] at C
        rw [← hRB] at C
        have HRL := Lib.hid (show RB.data.toList = recL key.data.toList side (k + i) ((d.data.toList.drop (1024 * i)).take 1024) by
          rw [hRB, str_list, ex_take, HD.out, hq]
          
          )
        have hRs : RB.size ≤ 1058 := by rw [← bytes_len, HRL.out, rec_len]; have := List.length_take_le 1024 (d.data.toList.drop (1024 * i)); omega
        have HD2 := Lib.hid (show (D.extract 1024 D.size).data.toList = d.data.toList.drop (1024 * (i + 1)) by
          rw [ex_drop, HD.out, List.drop_drop]
          rw [Nat.mul_succ])
        have HC2 := Lib.hid (show i + 1 ≤ cntL d.size by unfold cntL; omega)
        have hOs2 : OB.size ≤ 2000000 := by have := HOL.out; have := outL_len key.data.toList side k d.data.toList i; rw [← bytes_len, HOL.out]; omega
        have c1 : ¬ 9223372036854775807 < OB.size + RB.size := by omega
        have s1 : IntKind.i64.wrap ((k : Int) + i) = (q : Int) := by rw [IntWalk.i64_in _ (by omega)]; omega
        have s1' : (k : Int) + i = (q : Int) := by omega
        have s2 : IntKind.i64.wrap ((i : Int) + 1) = (i : Int) + 1 := IntWalk.i64_in _ (by omega)
        have g1 : (1024 : Int) < D.size := by omega
        have g2 : (1024 : Int) ≤ D.size := by omega
        have g3 : (D.extract 0 1024).size = 1024 := by rw [ByteArray.size_extract]; omega
        
        have HRS := Lib.hid hRs
        clear hq hRB hRs hlt hDs hb1024
        go_upto_region 7 with (go_at_call 10; refine (C.out _).mono ?_; rintro e v3 ⟨rfl, hb3⟩; have B3 := Lib.hid (keepBelow HN.out hb3); have X3 := Lib.hid (keepBlk hb3 HX.out); clear hb3)
        go_quiet (fail)
        go_wp2_with fail
        refine ⟨⟨i + 1, D.extract 1024 D.size, OB ++ RB, rfl, rfl, by go_num, HC2.out, HD2.out, ?_, belowN B3.out _, X3.out.drewN _⟩, by simp [intOf]; have := HC2.out; omega⟩
        rw [ap_list, HOL.out, HRL.out, outL]
      · skip
        have hm2 : D.size ≤ D.size := by omega
        obtain ⟨q, hq⟩ : ∃ q : Nat, q = k + i := ⟨_, rfl⟩
        have C := Lib.hid (CR.out i (D.extract 0 D.size) (by rw [ByteArray.size_extract]; omega) (by rw [ByteArray.size_extract]; omega))
        obtain ⟨RB, hRB⟩ : ∃ RB : ByteArray, RB = ⟨(recL key.data.toList side q (D.extract 0 D.size).data.toList).toArray⟩ := ⟨_, rfl⟩
        unfold str at C
        rw [← hq] at C
        rw [← hRB] at C
        have HRL := Lib.hid (show RB.data.toList = recL key.data.toList side (k + i) ((d.data.toList.drop (1024 * i)).take 1024) by
          rw [hRB, str_list, ex_take, HD.out, hq]
          congr 1
          rw [List.take_of_length_le (by rw [List.length_drop, bytes_len]; omega), List.take_of_length_le (by rw [List.length_drop, bytes_len]; omega)])
        have hRs : RB.size ≤ 1058 := by rw [← bytes_len, HRL.out, rec_len]; have := List.length_take_le 1024 (d.data.toList.drop (1024 * i)); omega
        have HD2 := Lib.hid (show (D.extract D.size D.size).data.toList = d.data.toList.drop (1024 * (i + 1)) by
          rw [ex_drop, HD.out, List.drop_drop]
          rw [List.drop_of_length_le (by rw [bytes_len]; omega), List.drop_of_length_le (by rw [bytes_len]; omega)])
        have HC2 := Lib.hid (show i + 1 ≤ cntL d.size by unfold cntL; omega)
        have hOs2 : OB.size ≤ 2000000 := by have := HOL.out; have := outL_len key.data.toList side k d.data.toList i; rw [← bytes_len, HOL.out]; omega
        have c1 : ¬ 9223372036854775807 < OB.size + RB.size := by omega
        have s1 : IntKind.i64.wrap ((k : Int) + i) = (q : Int) := by rw [IntWalk.i64_in _ (by omega)]; omega
        have s1' : (k : Int) + i = (q : Int) := by omega
        have s2 : IntKind.i64.wrap ((i : Int) + 1) = (i : Int) + 1 := IntWalk.i64_in _ (by omega)
        have g1 : decide ((1024 : Int) < D.size) = false := decide_eq_false (by omega)
        have g2 : ((D.size : Int)) ≤ D.size := by omega
        have g3 : D.extract 0 D.size = D := bytes_inj (by rw [ex_take, List.take_of_length_le (by rw [bytes_len]; exact Nat.le_refl _)])
        rw [g3] at C
        have HRS := Lib.hid hRs
        clear hq hRB hRs hlt hDs hb1024
        go_upto_region 7 with (go_at_call 10; refine (C.out _).mono ?_; rintro e v3 ⟨rfl, hb3⟩; have B3 := Lib.hid (keepBelow HN.out hb3); have X3 := Lib.hid (keepBlk hb3 HX.out); clear hb3)
        go_quiet (fail)
        go_wp2_with fail
        refine ⟨⟨i + 1, D.extract D.size D.size, OB ++ RB, by simp, rfl, by go_num, HC2.out, HD2.out, ?_, belowN B3.out _, X3.out.drewN _⟩, by simp [intOf]; have := HC2.out; omega⟩
        rw [ap_list, HOL.out, HRL.out, outL]
    · have hD0 : D.size = 0 := by omega
      have hDe : D = ⟨#[]⟩ := ByteArray.size_eq_zero_iff.1 hD0
      subst hDe
      have hic : i = cntL d.size := by have := HI.out; unfold cntL at this ⊢; omega
      have HIC := Lib.hid hic
      clear hic hD0 hDs hlt
      go_wp2_with fail
      go_ret2
      refine ⟨?_, HN.out⟩
      rw [← HIC.out, ← HOL.out, mk_back]
      rfl
end Go.Proofs.YtmblnacckboggaaDoor
