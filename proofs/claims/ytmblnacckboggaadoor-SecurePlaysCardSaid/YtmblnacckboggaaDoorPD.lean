/- chance (19). -/
import Derived.Test.YtmblnacckboggaaDoorPC
namespace Go.Proofs.YtmblnacckboggaaDoor
open Go.RowKit
set_option maxRecDepth 100000 in
set_option maxHeartbeats 3200000 in
theorem chance_any (k s b : ByteArray) (hk : badE k.data.toList 1 0 = 0) (hb : b.size ≤ 100000000) (w : World) :
    Calls Tryd.prog 19 #[.string s, .string b, .string k] w fun e w' => e = .returned (.bool (chanceB k.data.toList 1 b.size 0 s.data.toList b.data.toList)) ∧ Below w.heap.size w w' := by
  obtain ⟨R, hR⟩ : ∃ R, R = chanceB k.data.toList 1 b.size 0 s.data.toList b.data.toList := ⟨_, rfl⟩
  rw [← hR]
  have HR := Lib.hid hR
  have HK := Lib.hid hk
  clear hR hk
  go_enter Tryd.func19, Tryd.ntmps19
  go_wp2_with fail
  go_loopg [0, 1, 7] b.size (fun q sv bv nv wr => ∃ (n : Nat) (S B : ByteArray), sv = .string S ∧ bv = .string B ∧ nv = .int .i64 n ∧ n + q ≤ b.size ∧ B.size ≤ q ∧ chanceB k.data.toList 1 q n S.data.toList B.data.toList = R ∧ Below w.heap.size w wr)
  case atStart => exact ⟨0, s, b, rfl, rfl, rfl, by omega, Nat.le_refl _, HR.out.symm, Below.refl _ _⟩
  case round =>
    obtain ⟨n, S, B, rfl, rfl, rfl, hnq, hBq, hC, hB⟩ := hrel
    have HB := Lib.hid hB
    have HC := Lib.hid hC
    have CO := Lib.hid (fun W => ropen_any k B 1 n (by omega) W)
    obtain ⟨O, hO⟩ : ∃ O, O = openR k.data.toList 1 n B.data.toList := ⟨_, rfl⟩
    rw [← hO] at CO
    obtain ⟨DB, hDB⟩ : ∃ D : ByteArray, D = ⟨O.1.toArray⟩ := ⟨_, rfl⟩
    unfold str at CO
    rw [← hDB] at CO
    have HO := Lib.hid hO
    clear hC hB hDB hO
    by_cases hE : O.2.2 = 0
    · have hsz := open_size (key := k.data.toList) (side := 1) (number := (n : Int)) (s := B.data.toList) (by rw [← HO.out]; exact hE)
      rw [← HO.out] at hsz
      obtain ⟨s1, s2, _, _, _⟩ := hsz
      rw [bytes_len] at s2
      obtain ⟨q', rfl⟩ : ∃ q', gk = q' + 1 := ⟨gk - 1, by omega⟩
      obtain ⟨m, hm⟩ : ∃ m : Nat, m = O.2.1 := ⟨_, rfl⟩
      have hst : (if B.data.toList.take m <+: S.data.toList then chanceB k.data.toList 1 q' (n + 1) (S.data.toList.drop m) (B.data.toList.drop m) else true) = R := by
        have h := HC.out
        rw [chanceB, ← HO.out, if_pos hE, ← hm] at h
        exact h
      rw [← hm] at s1 s2 CO
      rw [hE] at CO
      have m2 : (m : Int) ≤ B.size := by omega
      have m3 : (0 : Int) ≤ m := by omega
      have hex : (B.extract 0 m).data.toList = B.data.toList.take m := ex_take _ _
      have CH := Lib.hid (fun W => (Tryd.strings_HasPrefix S (B.extract 0 m) W).mono fun e w' ⟨a, b⟩ => (⟨a, b.symm⟩ : _ ∧ W = w'))
      rw [hex] at CH
      by_cases hp : B.data.toList.take m <+: S.data.toList
      · rw [if_pos hp] at hst
        have HST := Lib.hid hst
        have hl := hp.length_le
        rw [List.length_take, bytes_len, bytes_len] at hl
        have hpb : Lib.hasPrefix S.data.toList (B.data.toList.take m) = true := List.isPrefixOf_iff_prefix.2 hp
        rw [hpb] at CH
        have m4 : (m : Int) ≤ S.size := by omega
        have p1 : IntKind.i64.wrap ((n : Int) + 1) = (n : Int) + 1 := IntWalk.i64_in _ (by omega)
        have HD1 := Lib.hid (show (S.extract m S.size).data.toList = S.data.toList.drop m by rw [ex_drop])
        have HD2 := Lib.hid (show (B.extract m B.size).data.toList = B.data.toList.drop m by rw [ex_drop])
        clear hst hp hl hpb hex hm hE
        go_wp2_with (first
          | (go_at_call 12; refine (CO.out _).mono ?_; rintro e v1 ⟨rfl, hb1⟩; have B1 := Lib.hid (keepBelow HB.out hb1); clear hb1)
          | (go_at_call 18; refine (CH.out _).mono ?_; rintro e v2 ⟨rfl, rfl⟩))
        go_quiet (fail)
        go_wp2_with fail
        go_roundg q'
        case measure => omega
        case rel => exact ⟨n + 1, S.extract m S.size, B.extract m B.size, rfl, rfl, by go_num, by omega, by rw [ByteArray.size_extract]; omega, by rw [HD1.out, HD2.out]; exact HST.out, belowN B1.out _⟩
      · rw [if_neg hp] at hst
        have HST := Lib.hid hst
        have hpb : Lib.hasPrefix S.data.toList (B.data.toList.take m) = false := by rw [Bool.eq_false_iff]; exact fun h => hp (List.isPrefixOf_iff_prefix.1 h)
        rw [hpb] at CH
        clear hst hp hpb hex hm hE
        go_wp2_with (first
          | (go_at_call 12; refine (CO.out _).mono ?_; rintro e v1 ⟨rfl, hb1⟩; have B1 := Lib.hid (keepBelow HB.out hb1); clear hb1)
          | (go_at_call 18; refine (CH.out _).mono ?_; rintro e v2 ⟨rfl, rfl⟩))
        go_ret
        exact ⟨by rw [← HST.out]; rfl, B1.out⟩
    · have hF : R = false := by
        have h := HC.out
        cases gk with
        | zero => rw [← h]; rfl
        | succ q => rw [chanceB, ← HO.out, if_neg hE] at h; exact h.symm
      have HF := Lib.hid hF
      have b0 : (O.2.2 != 0) = true := by rw [bne_iff_ne]; exact hE
      clear hF hE
      go_wp2_with (go_at_call 12; refine (CO.out _).mono ?_; rintro e v1 ⟨rfl, hb1⟩; have B1 := Lib.hid (keepBelow HB.out hb1); clear hb1)
      go_ret
      exact ⟨by rw [HF.out]; rfl, B1.out⟩
end Go.Proofs.YtmblnacckboggaaDoor
