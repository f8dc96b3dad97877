/- Link.Send (14). -/
import Derived.Test.YtmblnacckboggaaDoorQ6
namespace Go.Proofs.YtmblnacckboggaaDoor
open Go.RowKit
/-- the records of the first i pieces -/
def outL (key : List UInt8) (side : Int) (k : Nat) (d : List UInt8) : Nat → List UInt8
  | 0 => []
  | i + 1 => outL key side k d i ++ recL key side (k + i) ((d.drop (1024 * i)).take 1024)
theorem outL_len (key : List UInt8) (side : Int) (k : Nat) (d : List UInt8) (i : Nat) : (outL key side k d i).length ≤ 1058 * i := by
  induction i with
  | zero => exact Nat.le_refl _
  | succ i ih =>
    rw [outL, List.length_append, rec_len]
    have := List.length_take_le 1024 (d.drop (1024 * i))
    omega
theorem Two.widen {wb : Nat} {w w' : World} (h : Two wb wb w w') (lb : Nat) : Two lb wb w w' := ⟨h.os, h.tape, h.output, h.size, fun k hk _ h2 => h.block k hk h2 h2⟩
def cntL (n : Nat) : Nat := (n + 1023) / 1024
theorem bad_num {key : List UInt8} {side : Int} (h : badE key side 0 = 0) (n : Nat) : badE key side n = 0 := by
  obtain ⟨h1, h2, _⟩ := bad_ok h
  unfold badE
  rw [if_neg (by simp [h1]), if_neg (by omega), if_neg (by omega)]
theorem wstr_long (B b : Nat) (l : List UInt8) (s : ByteArray) (w : World) (h : Lib.IsBuilderF 85 5 B b (Lib.byteCells l) w) (hlen : l.length + s.size ≤ 140737488355328) (hBw : B ≤ w.heap.size) :
    Calls Tryd.prog 36 #[.pointer (some ⟨b, 0, none⟩), .string s] w fun e w' => e = .returned (.tuple #[.int .i64 s.size, .nilIface]) ∧ Lib.IsBuilderF 85 5 B b (Lib.byteCells (l ++ s.data.toList)) w' ∧ Below B w w' :=
  (wstr B b (Lib.byteCells l) s w h (by rw [Lib.byteCells_length]; exact hlen) hBw).mono fun e w' ⟨h1, h2, h3, _⟩ => ⟨h1, by rw [Lib.byteCells_append, ← Lib.strCells_eq]; exact Or.inr h2, h3⟩
set_option maxRecDepth 100000 in
set_option maxHeartbeats 3200000 in
theorem send_ok (lb wb : Nat) (l : Lk) (k : Nat) (x : Wi) (d : ByteArray) (hk : badE l.key.data.toList l.side 0 = 0) (hf : l.fin = false) (hs : l.sent = k) (hk2 : k ≤ 1000000) (hd : d.size ≤ 100000) (hd0 : d.size ≠ 0) (hr : x.refuse = 0) (h1 : 0 ≤ x.sends) (h2 : x.sends ≤ 100000) (h3 : x.sent.size ≤ 1000000000)
    (hne : lb ≠ wb) (w : World) (hL : Blk w lb 89 (linkC wb l)) (hW : Blk w wb 48 (wireC x)) (hT : Tabs w) (_hl2 : 2 < lb) (_hw2 : 2 < wb) :
    Calls Tryd.prog 14 #[.pointer (some ⟨lb, 0, none⟩), .string d] w fun e w' => e = .returned (.int .i64 0) ∧ Blk w' lb 89 (linkC wb ⟨l.key, l.side, k + (cntL d.size : Nat), l.taken, l.left, l.fin⟩) ∧
      Blk w' wb 48 (wireC ⟨x.sent ++ ⟨(outL l.key.data.toList l.side k d.data.toList (cntL d.size)).toArray⟩, x.sends + 1, 0, x.come, x.err⟩) ∧ Two lb wb w w' := by
  obtain ⟨key, side, sent, taken, left, fin⟩ := l
  simp only at hk hf hs
  subst hf hs
  have CE := Lib.hid (fun W (hb : Below w.heap.size w W) => ended_any lb wb ⟨key, side, k, taken, left, false⟩ W (keepBlk hb hL))
  have CR := Lib.hid (fun (i : Nat) (p : ByteArray) (hp : p.size ≠ 0) (hp2 : p.size ≤ 1024) (hi : i ≤ 1000) W (hb : Below w.heap.size w W) => record_good key p side (k + i) (bad_num hk _) (by omega) hp hp2 W (hT.keep hb))
  have HK := Lib.hid hk
  have HT := Lib.hid hT
  have HL := Lib.hid hL
  have HW := Lib.hid hW
  have hlw := hL.lt
  have hww := hW.lt
  clear hk hL hW hT
  go_enter Tryd.func14, Tryd.ntmps14
  go_wp2_with (go_at_call 16; refine (CE.out _ (Below.refl _ _)).mono ?_; rintro e v1 ⟨rfl, rfl⟩)
  go_loopw [1, 6] (fun dv nv wr => ∃ (i : Nat) (D : ByteArray), dv = .string D ∧ nv = .int .i64 i ∧ i ≤ cntL d.size ∧ D.data.toList = d.data.toList.drop (1024 * i) ∧ Lib.IsBuilderF 85 5 w.heap.size w.heap.size (Lib.byteCells (outL key.data.toList side k d.data.toList i)) wr ∧ w.heap.size ≤ wr.heap.size ∧ Below w.heap.size w wr) (fun _ nv _ => cntL d.size - (intOf nv).toNat)
  case atStart => exact ⟨0, d, rfl, rfl, Nat.zero_le _, rfl, Lib.IsBuilderF.of (Lib.fresh_isBuilder 85 5 w), by simp, (Below.refl _ _).alloc (Nat.le_refl _) _⟩
  case round =>
    obtain ⟨i, D, rfl, rfl, hi, hD, hB, hsz, hN⟩ := hrel
    have HD := Lib.hid hD
    have HB := Lib.hid hB
    have HSZ := Lib.hid hsz
    have HN := Lib.hid hN
    have hDs : D.size = d.size - 1024 * i := by rw [← bytes_len, hD, List.length_drop, bytes_len]
    have hi2 : i ≤ 1000 := by unfold cntL at hi; omega
    have HI := Lib.hid hi
    clear hD hB hsz hN hi
    by_cases hlt : 1024 * i < d.size
    · have hD0 : D.size ≠ 0 := by omega
      have e1 := not_empty hD0
      have e2 := not_nil hD0
      obtain ⟨m, hm⟩ : ∃ m, m = min 1024 D.size := ⟨_, rfl⟩
      have hm1 : m ≤ 1024 := by omega
      have hm2 : m ≤ D.size := by omega
      have hm0 : m ≠ 0 := by omega
      have C := Lib.hid (CR.out i (D.extract 0 m) (by rw [ByteArray.size_extract]; omega) (by rw [ByteArray.size_extract]; omega) hi2)
      obtain ⟨RB, hRB⟩ : ∃ RB : ByteArray, RB = ⟨(recL key.data.toList side (k + i) (D.extract 0 m).data.toList).toArray⟩ := ⟨_, rfl⟩
      unfold str at C
      rw [← hRB] at C
      have HRL := Lib.hid (show RB.data.toList = recL key.data.toList side (k + i) ((d.data.toList.drop (1024 * i)).take 1024) by
        rw [hRB, str_list, ex_take, HD.out]
        congr 1
        rw [hm]
        rcases Nat.le_total 1024 D.size with h | h
        · rw [Nat.min_eq_left h]
        · rw [Nat.min_eq_right h, List.take_of_length_le (by rw [List.length_drop, bytes_len]; omega), List.take_of_length_le (by rw [List.length_drop, bytes_len]; omega)])
      have hRs : RB.size ≤ 1058 := by rw [← bytes_len, HRL.out, rec_len]; have := List.length_take_le 1024 (d.data.toList.drop (1024 * i)); omega
      have HLN := Lib.hid (show (outL key.data.toList side k d.data.toList i).length + RB.size ≤ 140737488355328 by have := outL_len key.data.toList side k d.data.toList i; omega)
      have HD2 := Lib.hid (show (D.extract m D.size).data.toList = d.data.toList.drop (1024 * (i + 1)) by
        rw [ex_drop, HD.out, List.drop_drop]
        rcases Nat.le_total 1024 D.size with h | h
        · rw [hm, Nat.min_eq_left h, Nat.mul_succ]
        · rw [hm, Nat.min_eq_right h, List.drop_of_length_le (by rw [bytes_len]; omega), List.drop_of_length_le (by rw [bytes_len]; omega)])
      have HC2 := Lib.hid (show i + 1 ≤ cntL d.size by unfold cntL; omega)
      have m1 : min (1024 : Int) D.size = (m : Int) := by omega
      have m2 : (m : Int) ≤ D.size := by omega
      have m3 : (0 : Int) ≤ m := by omega
      have m4 : (D.extract 0 m).size = m := by rw [ByteArray.size_extract]; omega
      have s1 : IntKind.i64.wrap ((k : Int) + i) = ((k + i : Nat) : Int) := by rw [IntWalk.i64_in _ (by omega)]; omega
      have q1 : wr.cell? ⟨lb, 1, none⟩ = some (.string key) := (keepBlk HN.out HL.out).cell 1
      have q2 : wr.cell? ⟨lb, 2, none⟩ = some (.int .i64 side) := (keepBlk HN.out HL.out).cell 2
      have q3 : wr.cell? ⟨lb, 3, none⟩ = some (.int .i64 k) := (keepBlk HN.out HL.out).cell 3
      clear hRB hRs hD0 hm hDs
      go_upto_region 9 with fail
      go_cut [8] (fun c wx => c = .string RB ∧ Below wr.heap.size wr wx)
      case first =>
        go_region_with (go_at_call 9; refine (C.out _ (HN.out.drew)).mono ?_; rintro e v3 ⟨rfl, hb3⟩; have B3 := Lib.hid (keepBelow (Below.drew (Below.refl _ _)) hb3); clear hb3)
        all_goals
          go_wp2_with fail
          go_meet
          exact ⟨rfl, B3.out⟩
      case rest =>
        obtain ⟨rfl, hbx⟩ := hcut
        have HBX := Lib.hid hbx
        have CW := Lib.hid (wstr_long w.heap.size w.heap.size _ RB wc (isB_below HB.out hbx) HLN.out (Nat.le_trans HSZ.out hbx.size))
        clear hbx
        go_wp2_with (go_at_call 36; refine (CW.out).mono ?_; rintro e v4 ⟨rfl, hB4, hb4⟩; have B4 := Lib.hid hB4; have N4 := Lib.hid ((keepBelow HN.out HBX.out).trans hb4); have S4 := Lib.hid (Nat.le_trans (Nat.le_trans HSZ.out HBX.out.size) hb4.size); clear hB4 hb4)
        refine ⟨⟨i + 1, D.extract m D.size, rfl, by go_num, HC2.out, HD2.out, ?_, S4.out, N4.out⟩, by simp [intOf]; have := HC2.out; omega⟩
        rw [outL, ← HRL.out]
        exact B4.out
    · have hD0 : D.size = 0 := by omega
      have hDe : D = ⟨#[]⟩ := ByteArray.size_eq_zero_iff.1 hD0
      subst hDe
      have hic : i = cntL d.size := by have := HI.out; unfold cntL at this ⊢; omega
      have hi0 : i ≠ 0 := by rw [hic]; unfold cntL; omega
      have z1 : ((i : Int) == 0) = false := by rw [beq_eq_false_iff_ne]; omega
      obtain ⟨OB, hOB⟩ : ∃ OB : ByteArray, OB = ⟨(outL key.data.toList side k d.data.toList i).toArray⟩ := ⟨_, rfl⟩
      have hOs : OB.size ≤ 2000000 := by rw [hOB, str_size]; have := outL_len key.data.toList side k d.data.toList i; omega
      have CS := Lib.hid (fun W (hb : Below wr.heap.size wr W) => Tryd.Builder_String_any_k w.heap.size w.heap.size (outL key.data.toList side k d.data.toList i) W (isB_below HB.out hb) (Nat.le_trans HSZ.out hb.size))
      rw [← hOB] at CS
      have CX := Lib.hid (fun W (hb : Below w.heap.size w W) => wsend_ok wb wb x OB hr h1 (by omega) (by omega) W (keepBlk hb HW.out))
      have s1 : IntKind.i64.wrap ((k : Int) + i) = (k : Int) + i := IntWalk.i64_in _ (by omega)
      have q0 : wr.cell? ⟨lb, 0, none⟩ = some (.iface 38 (.pointer (some ⟨wb, 0, none⟩))) := (keepBlk HN.out HL.out).cell 0
      have HIC := Lib.hid hic
      have HOB := Lib.hid hOB
      clear hic hOB hD0 hDs hlt hi0
      go_upto_region 13 with fail
      go_cut [10] (fun c wx => c = .int .i64 0 ∧ Blk wx wb 48 (wireC ⟨x.sent ++ OB, x.sends + 1, 0, x.come, x.err⟩) ∧ Two lb wb w wx ∧ Blk wx lb 89 (linkC wb ⟨key, side, k, taken, left, false⟩))
      case first =>
        go_region_with (first
          | (go_at_call 37; refine (CS.out _ (Below.drew (Below.refl _ _))).mono ?_; rintro e v5 ⟨rfl, _, hb5, _⟩; have N5 := Lib.hid ((HN.out.drew).trans hb5); have q5 : v5.cell? ⟨lb, 0, none⟩ = some (.iface 38 (.pointer (some ⟨wb, 0, none⟩))) := (keepBlk N5.out HL.out).cell 0; clear hb5)
          | (go_at_call 96; refine (CX.out _ N5.out).mono ?_; rintro e v6 ⟨rfl, hW6, hT6⟩; have W6 := Lib.hid hW6; have T6 := Lib.hid ((Two.of N5.out).trans (hT6.widen lb)); have L6 := Lib.hid (hT6.blk (keepBlk N5.out HL.out) hne hne); clear hW6 hT6))
        all_goals
          go_wp2_with fail
          go_meet
          exact ⟨rfl, W6.out, T6.out, L6.out⟩
      case rest =>
        obtain ⟨rfl, hW2, hT2, hL2⟩ := hcut
        have W2 := Lib.hid hW2
        have T2 := Lib.hid hT2
        have L2 := Lib.hid hL2
        have q3 : wc.cell? ⟨lb, 3, none⟩ = some (.int .i64 k) := L2.out.cell 3
        have f3 := L2.out.frozen 3
        clear hW2 hT2 hL2
        go_wp2_with fail
        go_ret
        rw [← HIC.out, ← HOB.out]
        exact ⟨rfl, L2.out.set_ 3 _, W2.out.far (p := ⟨lb, 3, none⟩) (Ne.symm hne) _, T2.out.set1 3 _⟩
end Go.Proofs.YtmblnacckboggaaDoor
