/- awake (8): the examples of the chapter. -/
import Derived.Test.YtmblnacckboggaaDoorQ7
import Derived.Test.YtmblnacckboggaaDoorQ8
namespace Go.Proofs.YtmblnacckboggaaDoor
open Go.RowKit
def awK : List UInt8 := 97 :: List.replicate 31 107
def awD : List UInt8 := List.replicate 1025 120
theorem aw_key : keyL ⟨#[97]⟩ = awK := by decide +kernel
theorem aw_bad1 : badE awK 1 0 = 0 := by decide +kernel
theorem aw_bad2 : badE awK 2 0 = 0 := by decide +kernel
theorem aw_rep : Lib.repeatL (⟨#[120]⟩ : ByteArray).data.toList 1025 = awD := by decide +kernel
theorem outL_two (key : List UInt8) (side : Int) (d : List UInt8) : outL key side 0 d 2 = recL key side 0 (d.take 1024) ++ recL key side 1 ((d.drop 1024).take 1024) := by
  have e0 : outL key side 0 d 0 = [] := outL.eq_1 key side 0 d
  have e1 : outL key side 0 d 1 = outL key side 0 d 0 ++ recL key side (0 + 0) ((d.drop (1024 * 0)).take 1024) := outL.eq_2 key side 0 d 0
  have e2 : outL key side 0 d 2 = outL key side 0 d 1 ++ recL key side (0 + 1) ((d.drop (1024 * 1)).take 1024) := outL.eq_2 key side 0 d 1
  rw [e0, List.nil_append, Nat.mul_zero, List.drop_zero, Nat.add_zero] at e1
  rw [e1, Nat.mul_one, Nat.zero_add] at e2
  exact e2
theorem aw_out : outL awK 1 0 awD 2 = recL awK 1 0 (awD.take 1024) ++ recL awK 1 1 [120] := by
  have e : (awD.drop 1024).take 1024 = [120] := by decide +kernel
  rw [outL_two, e]
theorem aw_len : (outL awK 1 0 awD 2).length = 1093 := by
  rw [aw_out, List.length_append, rec_len, rec_len]
  decide +kernel
theorem aw_drop : (outL awK 1 0 awD 2).drop 1058 = recL awK 1 1 [120] := by
  rw [aw_out]
  refine List.drop_left' ?_
  rw [rec_len]
  decide +kernel
theorem aw_open : openR awK 1 0 (recL awK 1 1 [120]) = ([], 0, 15) := by decide +kernel
theorem Two.below {lb wb : Nat} {w V V' : World} (h : Two lb wb V V') (hb : Below w.heap.size w V) (h1 : w.heap.size ≤ lb) (h2 : w.heap.size ≤ wb) : Below w.heap.size w V' :=
  ⟨h.os.trans hb.os, h.tape.trans hb.tape, h.output.trans hb.output, Nat.le_trans hb.size h.size, fun k hk => (h.block k (Nat.lt_of_lt_of_le hk hb.size) (by omega) (by omega)).trans (hb.block k hk)⟩
theorem nil_app (c : ByteArray) : ((⟨#[]⟩ : ByteArray) ++ c) = c := by
  have h : ((⟨#[]⟩ : ByteArray) ++ c).data.toList = c.data.toList := by rw [ap_list]; rfl
  cases c with | mk c => exact congrArg ByteArray.mk (Array.toList_inj.1 h)
set_option maxRecDepth 100000 in
set_option maxHeartbeats 3200000 in
theorem awake_any (w : World) (hT : Tabs w) : Calls Tryd.prog 8 #[] w fun e w' => e = .returned (.bool true) ∧ Below w.heap.size w w' := by
  obtain ⟨K, hK⟩ : ∃ K : ByteArray, K = ⟨(keyL ⟨#[97]⟩).toArray⟩ := ⟨_, rfl⟩
  have hKl : K.data.toList = awK := by rw [hK, aw_key]
  have CK := Lib.hid (fun W => key_any ⟨#[97]⟩ (by decide) W)
  rw [← hK] at CK
  have CN1 := Lib.hid (fun wb W => new_ok wb K 1 (by rw [hKl]; exact aw_bad1) W)
  have CN2 := Lib.hid (fun wb W => new_ok wb K 2 (by rw [hKl]; exact aw_bad2) W)
  have CR := Lib.hid (fun W => Tryd.strings_Repeat ⟨#[120]⟩ 1025 W (by decide) (by decide))
  obtain ⟨D, hD⟩ : ∃ D : ByteArray, D = ⟨(Lib.repeatL (⟨#[120]⟩ : ByteArray).data.toList 1025).toArray⟩ := ⟨_, rfl⟩
  rw [← hD] at CR
  have hDl : D.data.toList = awD := by rw [hD, aw_rep]
  have hDs : D.size = 1025 := by rw [← bytes_len, hDl]; decide +kernel
  have hcnt : cntL D.size = 2 := by rw [hDs]; rfl
  have CS := Lib.hid (fun lb wb hne W hL hW hT h1 h2 => send_ok lb wb ⟨K, 1, ((0 : Nat) : Int), 0, ⟨#[]⟩, false⟩ 0 ⟨⟨#[]⟩, 0, 0, ⟨#[]⟩, 0⟩ D (by rw [hKl]; exact aw_bad1) rfl rfl (by decide) (by omega) (by omega) rfl (by decide) (by decide) (by decide) hne W hL hW hT h1 h2)
  rw [hcnt] at CS
  simp only [hKl, hDl] at CS
  obtain ⟨OB, hOB⟩ : ∃ OB : ByteArray, OB = ⟨(outL awK 1 0 awD 2).toArray⟩ := ⟨_, rfl⟩
  rw [← hOB] at CS
  rw [nil_app] at CS
  have hOs : OB.size = 1093 := by rw [hOB, str_size, aw_len]
  obtain ⟨S2, hS2⟩ : ∃ S2, S2 = OB.extract 1058 OB.size := ⟨_, rfl⟩
  have hS2l : S2.data.toList = recL awK 1 1 [120] := by rw [hS2, ex_drop, hOB, str_list, aw_drop]
  have hS2s : S2.size = 35 := by rw [← bytes_len, hS2l, rec_len]; rfl
  have CV := Lib.hid (fun lb wb hne W hL hW hT h1 h2 => receive_broken lb wb K 2 ⟨⟨#[]⟩, 0, 0, S2, 0⟩ 15 (.inr rfl) rfl (by simp only; omega) (by simp only; omega) (by simp only; rw [hKl, hS2l]; exact aw_open) (by decide) (by decide) hne W hL hW hT h1 h2)
  have HT := Lib.hid hT
  have hbig := hT.big
  have k1 : (OB.size : Int) = 1093 := by omega
  have HS2 := Lib.hid hS2
  have HS3 := Lib.hid (show S2 = OB.extract 1058 1093 by rw [hS2, hOs])
  clear hK hKl hD hDl hDs hcnt hOB hS2l hS2s hT hS2
  go_enter Tryd.func8, Tryd.ntmps8
  go_upto_region 3 with (first
    | (go_at_call 20; refine (CK.out _).mono ?_; rintro e v1 ⟨rfl, hb1⟩; have B1 := Lib.hid hb1; clear hb1)
    | (go_at_call 24; refine (CN1.out _ _).mono ?_; rintro e v2 ⟨rfl, hL2, hb2⟩; have L2 := Lib.hid hL2; have B2 := Lib.hid hb2; clear hL2 hb2))
  have hbA : Below w.heap.size w (w.alloc (.cells #[.string ⟨#[]⟩, .int .i64 0, .int .i64 0, .string ⟨#[]⟩, .int .i64 0] 48)) := (Below.refl _ _).alloc (Nat.le_refl _) _
  have N1 := Lib.hid (keepBelow hbA B1.out)
  have N2 := Lib.hid (keepBelow N1.out B2.out)
  have W2 := Lib.hid (keepBlk B2.out (keepBlk B1.out (show Blk (w.alloc (.cells #[.string ⟨#[]⟩, .int .i64 0, .int .i64 0, .string ⟨#[]⟩, .int .i64 0] 48)) w.heap.size 48 (wireC ⟨⟨#[]⟩, 0, 0, ⟨#[]⟩, 0⟩) from Blk.new w 48 [_, _, _, _, _])))
  have hsz1 : w.heap.size < v1.heap.size := by have := B1.out.size; simp at this; omega
  have T2 := Lib.hid (HT.out.keep N2.out)
  clear hbA
  obtain ⟨lb, hlb⟩ : ∃ lb, lb = v1.heap.size := ⟨_, rfl⟩
  rw [← hlb] at L2 hsz1
  rw [← hlb]
  obtain ⟨wb, hwb⟩ : ∃ wb, wb = w.heap.size := ⟨_, rfl⟩
  rw [← hwb] at L2 W2 hsz1
  rw [← hwb]
  have HWB := Lib.hid hwb
  clear hlb hwb B1 B2 N1
  have hlb2 : 2 < lb := by have := HWB.out; omega
  have hwb2 : 2 < wb := by have := HWB.out; omega
  have hne : lb ≠ wb := by omega
  go_upto_region 5 with (first
    | (go_at_call 26; refine (CR.out _).mono ?_; rintro e v3 ⟨rfl, hb3⟩; have L3 := Lib.hid (keepBlk hb3 L2.out); have W3 := Lib.hid (keepBlk hb3 W2.out); have N3 := Lib.hid (keepBelow N2.out hb3); have T3 := Lib.hid (HT.out.keep (keepBelow N2.out hb3)); clear hb3)
    | (go_at_call 14; refine (CS.out lb wb hne _ L3.out W3.out T3.out hlb2 hwb2).mono ?_; rintro e v4 ⟨rfl, _, hW4, hT4⟩; have W4 := Lib.hid hW4; have N4 := Lib.hid (hT4.below N3.out (by have := HWB.out; omega) (by have := HWB.out; omega)); have c0 : v4.cell? ⟨wb, 0, none⟩ = some (.string OB) := hW4.cell 0; clear hW4 hT4))
  have k2 : (1058 : Int) ≤ OB.size := by omega
  have k3 : 1058 ≤ OB.size := by omega
  have T4 := Lib.hid (HT.out.keep N4.out)
  go_upto_region 6 with fail
  first | rw [← HS3.out] | rw [← HS2.out]
  obtain ⟨wb2, hw2⟩ : ∃ b, b = v4.heap.size := ⟨_, rfl⟩
  obtain ⟨V5, hV5⟩ : ∃ V5, V5 = v4.alloc (.cells #[.string ⟨#[]⟩, .int .i64 0, .int .i64 0, .string S2, .int .i64 0] 48) := ⟨_, rfl⟩
  have W5 : Hid (Blk V5 wb2 48 (wireC ⟨⟨#[]⟩, 0, 0, S2, 0⟩)) := by rw [hV5, hw2]; exact Lib.hid (Blk.new v4 48 [_, _, _, _, _])
  have N5 : Hid (Below w.heap.size w V5) := by rw [hV5]; exact Lib.hid (keepBelow N4.out ((Below.refl _ _).alloc (Nat.le_refl _) _))
  have hw3 : w.heap.size ≤ wb2 := by rw [hw2]; exact N4.out.size
  have hw4 : wb2 < V5.heap.size := W5.out.lt
  rw [← hV5, ← hw2]
  clear hV5 hw2 c0 k2 k3
  go_upto_region 9 with (first
    | (go_at_call 20; refine (CK.out _).mono ?_; rintro e v6 ⟨rfl, hb6⟩; have W6 := Lib.hid (keepBlk hb6 W5.out); have N6 := Lib.hid (keepBelow N5.out hb6); have hs6 := hb6.size; clear hb6)
    | (go_at_call 24; refine (CN2.out _ _).mono ?_; rintro e v7 ⟨rfl, hL7, hb7⟩; have L7 := Lib.hid hL7; have W7 := Lib.hid (keepBlk hb7 W6.out); have N7 := Lib.hid (keepBelow N6.out hb7); clear hL7 hb7))
  have T7 := Lib.hid (HT.out.keep N7.out)
  have hlw := N6.out.size
  go_wp2_with (first
    | (go_at_call 15; refine (CV.out v6.heap.size wb2 (by omega) _ L7.out W7.out T7.out (by omega) (by omega)).mono ?_; rintro e v8 ⟨rfl, hL8, hT8⟩; have L8 := Lib.hid hL8; have N8 := Lib.hid (hT8.below N7.out (by omega) (by omega)); clear hL8 hT8)
    | (go_at_call 16; refine (ended_any v6.heap.size wb2 ⟨K, 2, 0, 0, ⟨#[]⟩, true⟩ _ L8.out).mono ?_; rintro e v9 ⟨rfl, rfl⟩))
  go_ret
  exact ⟨rfl, N8.out⟩
end Go.Proofs.YtmblnacckboggaaDoor
