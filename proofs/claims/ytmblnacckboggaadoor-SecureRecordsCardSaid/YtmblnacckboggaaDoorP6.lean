/- SecureRecords: the law's walk. -/
import Derived.Test.YtmblnacckboggaaDoorQ9
import Derived.Test.YtmblnacckboggaaDoorP1
import Derived.Test.YtmblnacckboggaaDoorP4
import Derived.Test.YtmblnacckboggaaDoorQB
import Derived.Test.YtmblnacckboggaaDoorQC
namespace Go.Proofs.YtmblnacckboggaaDoor
open Go.RowKit
theorem rec_small (key : List UInt8) (side number : Int) (d : List UInt8) : (recR key side number d).1.length ≤ d.length + 34 := by
  unfold recR
  split
  · simp
  split
  · simp
  split
  · simp
  · rw [rec_len]; exact Nat.le_refl _
theorem rec_ok {key : List UInt8} {side number : Int} {d : List UInt8} (h : (recR key side number d).1 ≠ []) : (recR key side number d).1 = recL key side number.toNat d ∧ badE key side number = 0 ∧ d.length ≠ 0 ∧ d.length ≤ 1024 := by
  unfold recR at h ⊢
  by_cases h1 : badE key side number ≠ 0
  · rw [if_pos h1] at h; exact absurd rfl h
  rw [if_neg h1] at h ⊢
  by_cases h2 : d.length = 0
  · rw [if_pos h2] at h; exact absurd rfl h
  rw [if_neg h2] at h ⊢
  by_cases h3 : 1024 < d.length
  · rw [if_pos h3] at h; exact absurd rfl h
  rw [if_neg h3]
  exact ⟨rfl, by simpa using h1, h2, by omega⟩
/-- what is opened of a record whose bytes stand, whatever is changed behind it -/
theorem open_kept {key : List UInt8} {side number : Int} {d t : List UInt8} (h : (recR key side number d).1 ≠ []) {a : Int} {b : UInt8} (hc : b = 0 ∨ a < 0 ∨ ((recR key side number d).1.length : Int) ≤ a) :
    openR key side number (spoilL ((recR key side number d).1 ++ t) a b) = (d, (recR key side number d).1.length, 0) := by
  obtain ⟨e1, e2, e3, e4⟩ := rec_ok h
  rw [e1] at hc ⊢
  have : ∃ t', spoilL (recL key side number.toNat d ++ t) a b = recL key side number.toNat d ++ t' := by
    unfold spoilL
    by_cases hi : 0 ≤ a ∧ a < ((recL key side number.toNat d ++ t).length : Nat)
    · rw [if_pos hi]
      by_cases hb : b = 0
      · refine ⟨t, ?_⟩
        subst hb
        rw [UInt8.xor_zero]
        have hlt : a.toNat < (recL key side number.toNat d ++ t).length := by omega
        rw [List.getD_eq_getElem?_getD, List.getElem?_eq_getElem hlt]
        exact List.set_getElem_self hlt
      · have : (recL key side number.toNat d).length ≤ a.toNat := by
          rcases hc with h | h | h
          · exact absurd h hb
          · omega
          · omega
        exact ⟨_, List.set_append_right _ _ this⟩
    · rw [if_neg hi]
      exact ⟨t, rfl⟩
  obtain ⟨t', ht⟩ := this
  rw [ht, open_rec e2 e3 e4, rec_len]
set_option maxRecDepth 100000 in
set_option maxHeartbeats 6400000 in
theorem records_any (k d : ByteArray) (n0 n1 : Int) (at_ : Int) (by_ : UInt8) (hn : n1 < 9223372036854775808) (hat : -9223372036854775808 ≤ at_ ∧ at_ < 9223372036854775808) (w : World) (hT : Tabs w) :
    Calls Tryd.prog 3 #[.string k, .string d, .agg #[.int .i64 n0, .int .i64 n1], .agg #[.int .i64 at_, .int .u8 (by_.toNat : Nat)]] w fun e w' => e = .returned (.bool true) ∧ Below w.heap.size w w' := by
  have CA := Lib.hid (fun W (hb : Below w.heap.size w W) => awake_any W (hT.keep hb))
  have BX : Hid (Below w.heap.size w ((w.alloc (.cells #[.int .i64 n0, .int .i64 n1] 22)).alloc (.cells #[.int .i64 at_, .int .u8 (by_.toNat : Nat)] 24))) := Lib.hid (((Below.refl _ _).alloc (Nat.le_refl _) _).alloc (by simp) _)
  have XN : Hid (Blk ((w.alloc (.cells #[.int .i64 n0, .int .i64 n1] 22)).alloc (.cells #[.int .i64 at_, .int .u8 (by_.toNat : Nat)] 24)) w.heap.size 22 [.int .i64 n0, .int .i64 n1]) := Lib.hid ((Blk.new w 22 [_, _]).alloc _)
  have XS : Hid (Blk ((w.alloc (.cells #[.int .i64 n0, .int .i64 n1] 22)).alloc (.cells #[.int .i64 at_, .int .u8 (by_.toNat : Nat)] 24)) (w.heap.size + 1) 24 [.int .i64 at_, .int .u8 (by_.toNat : Nat)]) := Lib.hid (blk_at (by simp) 24 [_, _])
  by_cases hk : k.size ≤ 100
  · by_cases hd : d.size ≤ 1100
    · have d1 : decide ((100 : Int) < k.size) = false := decide_eq_false (by omega)
      have d2 : decide ((1100 : Int) < d.size) = false := decide_eq_false (by omega)
      obtain ⟨Q, hQ⟩ : ∃ Q, Q = recR k.data.toList n0 n1 d.data.toList := ⟨_, rfl⟩
      obtain ⟨S, hS⟩ : ∃ S : ByteArray, S = ⟨Q.1.toArray⟩ := ⟨_, rfl⟩
      have hSl : S.data.toList = Q.1 := by rw [hS]
      have hSs : S.size ≤ 1134 := by rw [← bytes_len, hSl, hQ]; have := rec_small k.data.toList n0 n1 d.data.toList; rw [bytes_len] at this; omega
      have C9 := Lib.hid (fun W (hb : Below w.heap.size w W) => record_any k d n0 n1 hn W (hT.keep hb))
      have C10 := Lib.hid (fun W => rrecord_any k d n0 n1 W)
      rw [← hQ] at C9 C10
      unfold str at C9 C10
      rw [← hS] at C9 C10
      obtain ⟨L, hL⟩ : ∃ L, L = spoilL (S ++ d).data.toList at_ by_ := ⟨_, rfl⟩
      have hLs : L.length = (S ++ d).size := by rw [hL, spoil_len, bytes_len]
      obtain ⟨BB, hBB⟩ : ∃ B : ByteArray, B = ⟨L.toArray⟩ := ⟨_, rfl⟩
      have hBs : BB.size = S.size + d.size := by rw [hBB, str_size, hLs, ByteArray.size_append]
      obtain ⟨O, hO⟩ : ∃ O, O = openR k.data.toList n0 n1 BB.data.toList := ⟨_, rfl⟩
      have C11 := Lib.hid (fun W (hb : Below w.heap.size w W) => open_any k BB n0 n1 hn (by omega) W (hT.keep hb))
      have C12 := Lib.hid (fun W => ropen_any k BB n0 n1 (by omega) W)
      rw [← hO] at C11 C12
      obtain ⟨DD, hDD⟩ : ∃ D : ByteArray, D = ⟨O.1.toArray⟩ := ⟨_, rfl⟩
      unfold str at C11 C12
      rw [← hDD] at C11 C12
      have LAST := Lib.hid (show S.size ≠ 0 → (by_ = 0 ∨ at_ < 0 ∨ (S.size : Int) ≤ at_) → DD = d ∧ (O.2.1 : Nat) = S.size by
        intro h0 hc
        have hne : Q.1 ≠ [] := by intro h; rw [← hSl] at h; apply h0; rw [← bytes_len, h]; rfl
        have hlen : S.size = Q.1.length := by rw [← bytes_len, hSl]
        have h := open_kept (key := k.data.toList) (side := n0) (number := n1) (d := d.data.toList) (t := d.data.toList) (by rw [← hQ]; exact hne) (a := at_) (b := by_) (by rw [← hQ, ← hlen]; exact hc)
        rw [← hQ, ← hSl, ← ap_list, ← hL] at h
        have hO2 : O = (d.data.toList, S.data.toList.length, 0) := by rw [hO, hBB]; exact h
        rw [bytes_len] at hO2
        refine ⟨by rw [hDD, hO2], by rw [hO2]⟩)
      have c1 : ¬ 9223372036854775807 < S.size + d.size := by omega
      have hcv := fun W : World => run_bytes_of_string W 9 29 5 (S ++ d) Tryd.underlying9 Tryd.underlying29 Tryd.underlying5
      have HBB := Lib.hid hBB
      have HL := Lib.hid hL
      have HLS := Lib.hid hLs
      have HBS := Lib.hid hBs
      clear hQ hS hSl hO hDD hBB hL hLs hT hn hBs hk hd
      go_enter Tryd.func3, Tryd.ntmps3
      go_upto_region 5 with (go_at_call 8; refine (CA.out _ BX.out).mono ?_; rintro e v1 ⟨rfl, hb1⟩; have B1 := Lib.hid (keepBelow BX.out hb1); have N1 := Lib.hid (keepBlk hb1 XN.out); have S1 := Lib.hid (keepBlk hb1 XS.out); clear hb1)
      have q0 : v1.cell? ⟨w.heap.size, 0, none⟩ = some (.int .i64 n0) := N1.out.cell 0
      have q1 : v1.cell? ⟨w.heap.size, 1, none⟩ = some (.int .i64 n1) := N1.out.cell 1
      go_upto_region 10 with (first
        | (go_at_call 9; refine (C9.out _ B1.out).mono ?_; rintro e v2 ⟨rfl, hb2⟩; have B2 := Lib.hid (keepBelow B1.out hb2); have N2 := Lib.hid (keepBlk hb2 N1.out); have S2 := Lib.hid (keepBlk hb2 S1.out); have r0 : v2.cell? ⟨w.heap.size, 0, none⟩ = some (.int .i64 n0) := N2.out.cell 0; have r1 : v2.cell? ⟨w.heap.size, 1, none⟩ = some (.int .i64 n1) := N2.out.cell 1; clear hb2)
        | (go_at_call 10; refine (C10.out _).mono ?_; rintro e v3 ⟨rfl, hb3⟩; have B3 := Lib.hid (keepBelow B2.out hb3); have N3 := Lib.hid (keepBlk hb3 N2.out); have S3 := Lib.hid (keepBlk hb3 S2.out); clear hb3))
      obtain ⟨cap, hcap⟩ : ∃ c, c = grownCap v3 (S.size + d.size) 0 5 := ⟨_, rfl⟩
      rw [← hcap]
      have BM := Lib.hid (Byt.make (S ++ d) cap v3)
      obtain ⟨W4, hW4⟩ : ∃ W4, W4 = (v3.alloc (.cells (bytesRow (S ++ d) cap) 5 ((bytesRow (S ++ d) cap).size, (bytesRow (S ++ d) cap).size + 1))).drew := ⟨_, rfl⟩
      rw [← hW4] at BM
      have hb34 : Below v3.heap.size v3 W4 := by rw [hW4]; exact ((Below.refl _ _).alloc (Nat.le_refl _) _).drew
      have B4 := Lib.hid (keepBelow B3.out hb34)
      have N4 := Lib.hid (keepBlk hb34 N3.out)
      have S4 := Lib.hid (keepBlk hb34 S3.out)
      have hg0 : w.heap.size ≤ v3.heap.size := B3.out.size
      have hg1 : w.heap.size + 1 < v3.heap.size := S3.out.lt
      rw [← hW4]
      generalize v3.heap.size = g at *
      clear hW4 hb34 hcap q0 q1 r0 r1 hcv
      have s0 : W4.cell? ⟨w.heap.size + 1, 0, none⟩ = some (.int .i64 at_) := S4.out.cell 0
      have s1 : W4.cell? ⟨w.heap.size + 1, 1, none⟩ = some (.int .u8 (by_.toNat : Nat)) := S4.out.cell 1
      go_cut [70] (fun c wx => c = .bool (decide (0 ≤ at_ ∧ at_ < S.size + d.size)) ∧ wx = W4)
      case first =>
        by_cases h0 : 0 ≤ at_
        · by_cases h1 : at_ < S.size + d.size
          · have hc : Hid (decide (0 ≤ at_ ∧ at_ < (S.size : Int) + d.size) = true) := Lib.hid (decide_eq_true ⟨h0, h1⟩)
            go_wp2_with fail
            go_meet
            exact ⟨by rw [hc.out], rfl⟩
          · have hc : Hid (decide (0 ≤ at_ ∧ at_ < (S.size : Int) + d.size) = false) := Lib.hid (decide_eq_false (fun h => h1 h.2))
            have h1' : decide (at_ < (S.size : Int) + d.size) = false := decide_eq_false h1
            clear h1
            go_wp2_with fail
            go_meet
            exact ⟨by rw [hc.out], rfl⟩
        · have hc : Hid (decide (0 ≤ at_ ∧ at_ < (S.size : Int) + d.size) = false) := Lib.hid (decide_eq_false (fun h => h0 h.1))
          have h0' : decide (0 ≤ at_) = false := decide_eq_false h0
          clear h0
          go_wp2_with fail
          go_meet
          exact ⟨by rw [hc.out], rfl⟩
      case rest =>
        obtain ⟨rfl, rfl⟩ := hcut
        go_upto_if 70 with fail
        go_cut [] (fun wx => Byt wx g L ∧ Below w.heap.size w wx ∧ Blk wx w.heap.size 22 [.int .i64 n0, .int .i64 n1] ∧ Blk wx (w.heap.size + 1) 24 [.int .i64 at_, .int .u8 (by_.toNat : Nat)])
        case first =>
          by_cases hin : 0 ≤ at_ ∧ at_ < S.size + d.size
          · rw [decide_eq_true hin]
            obtain ⟨i, rfl⟩ : ∃ i : Nat, at_ = i := ⟨at_.toNat, by omega⟩
            have hi : i < (S ++ d).data.toList.length := by rw [bytes_len, ByteArray.size_append]; omega
            have ci := BM.out.cell hi
            have fi := BM.out.frozen hi
            have hx := xor_byte ((S ++ d).data.toList.getD i 0) by_
            have HX := Lib.hid hx
            have HSP := Lib.hid (show L = (S ++ d).data.toList.set i ((S ++ d).data.toList.getD i 0 ^^^ by_) by
              rw [HL.out]; unfold spoilL
              rw [if_pos ⟨hin.1, by rw [bytes_len, ByteArray.size_append]; omega⟩]; rfl)
            generalize (S ++ d).data.toList.getD i 0 = b0 at *
            have i0 : (0 : Int) ≤ i := hin.1
            have i1 : (i : Int) < (S.size : Int) + d.size := hin.2
            have i2 : (i : Int) < ((S.size + d.size : Nat) : Int) := by omega
            clear hin hi hx
            go_wp2_with fail
            go_region
            all_goals
              go_wp2_with fail
              go_meet
              rw [HX.out, HSP.out]
              exact ⟨(BM.out.set_ (by rw [bytes_len, ByteArray.size_append]; omega) _).drew, (B4.out.setCell hg0 _).drew, N4.out.far (p := ⟨g, i, none⟩) (by simp only; omega) _, S4.out.far (p := ⟨g, i, none⟩) (by simp only; omega) _⟩
          · rw [decide_eq_false hin]
            have HSP := Lib.hid (show L = (S ++ d).data.toList by
              rw [HL.out]; unfold spoilL
              rw [if_neg (by rw [bytes_len, ByteArray.size_append]; omega)])
            clear hin
            go_wp2_with fail
            go_meet
            rw [HSP.out]
            exact ⟨BM.out, B4.out, N4.out, S4.out⟩
        case rest =>
          obtain ⟨hB5, hb5, hN5, hS5⟩ := hcut
          have Y5 := Lib.hid hB5
          have B5 := Lib.hid hb5
          have N5 := Lib.hid hN5
          have S5 := Lib.hid hS5
          have y0 := hB5.back (S.size + d.size) cap (by rw [HLS.out, ByteArray.size_append])
          rw [← HBB.out] at y0
          have q0 : wc.cell? ⟨w.heap.size, 0, none⟩ = some (.int .i64 n0) := N5.out.cell 0
          have q1 : wc.cell? ⟨w.heap.size, 1, none⟩ = some (.int .i64 n1) := N5.out.cell 1
          clear hB5 hb5 hN5 hS5 s0 s1
          go_upto_region 17 with (first
            | (go_at_call 11; refine (C11.out _ B5.out).mono ?_; rintro e v6 ⟨rfl, hb6⟩; have B6 := Lib.hid (keepBelow B5.out hb6); have N6 := Lib.hid (keepBlk hb6 N5.out); have S6 := Lib.hid (keepBlk hb6 S5.out); have Y6 := Lib.hid (Y5.out.below hb6); have y1 := Y6.out.back (S.size + d.size) cap (by rw [HLS.out, ByteArray.size_append]); rw [← HBB.out] at y1; have r0 : v6.cell? ⟨w.heap.size, 0, none⟩ = some (.int .i64 n0) := N6.out.cell 0; have r1 : v6.cell? ⟨w.heap.size, 1, none⟩ = some (.int .i64 n1) := N6.out.cell 1; clear hb6)
            | (go_at_call 12; refine (C12.out _).mono ?_; rintro e v7 ⟨rfl, hb7⟩; have B7 := Lib.hid (keepBelow B6.out hb7); have S7 := Lib.hid (keepBlk hb7 S6.out); clear hb7))
          have s0 : v7.cell? ⟨w.heap.size + 1, 0, none⟩ = some (.int .i64 at_) := S7.out.cell 0
          have s1 : v7.cell? ⟨w.heap.size + 1, 1, none⟩ = some (.int .u8 (by_.toNat : Nat)) := S7.out.cell 1
          clear q0 q1 r0 r1 y0 y1
          generalize O.2.2 = E at *
          have fin_tail : True := trivial
          clear fin_tail
          by_cases h32 : k.size = 32
          · have k1 : ((k.size : Int) == 32) = true := by rw [beq_iff_eq]; omega
            by_cases hS0 : S.size = 0
            · have e1 : S.toList.isEmpty = true := by rw [← str_empty, hS0]; rfl
              have e2 : S.toList = [] := by rw [List.isEmpty_iff] at e1; exact e1
              clear h32 hS0
              go_wp2_with fail
              go_ret
              exact ⟨rfl, B7.out⟩
            · have e1 := not_empty hS0
              have e2 := not_nil hS0
              by_cases hE : E = 0
              · have e3 : (E == 0) = true := by rw [beq_iff_eq]; exact hE
                have e4 : E = 0 := hE
                clear hE
                by_cases hby : by_ = 0
                · obtain ⟨hd, hs⟩ := LAST.out hS0 (.inl hby)
                  rw [hd, hs]
                  have b1 : (((by_.toNat : Nat) : Int) == 0) = true := by rw [hby]; rfl
                  have b2 : ((by_.toNat : Nat) : Int) = 0 := by rw [hby]; rfl
                  clear h32 hS0 hby hd hs
                  go_wp2_with fail
                  go_ret
                  exact ⟨rfl, B7.out⟩
                · have b1 : (((by_.toNat : Nat) : Int) == 0) = false := by
                    rw [beq_eq_false_iff_ne]
                    intro h
                    exact hby (UInt8.toNat_inj.1 (by simpa using h))
                  have b2 : ¬ ((by_.toNat : Nat) : Int) = 0 := by rwa [beq_eq_false_iff_ne] at b1
                  by_cases ha : at_ < 0
                  · obtain ⟨hd, hs⟩ := LAST.out hS0 (.inr (.inl ha))
                    rw [hd, hs]
                    clear h32 hS0 hby hd hs
                    go_wp2_with fail
                    go_ret
                    exact ⟨rfl, B7.out⟩
                  · have a1 : decide (at_ < 0) = false := decide_eq_false ha
                    by_cases hl : (S.size : Int) ≤ at_
                    · obtain ⟨hd, hs⟩ := LAST.out hS0 (.inr (.inr hl))
                      rw [hd, hs]
                      clear h32 hS0 hby hd hs
                      go_wp2_with fail
                      go_ret
                      exact ⟨rfl, B7.out⟩
                    · have a2 : decide ((S.size : Int) ≤ at_) = false := decide_eq_false hl
                      clear h32 hS0 hby hl
                      go_wp2_with fail
                      go_ret
                      exact ⟨rfl, B7.out⟩
              · have e3 : (E == 0) = false := by rw [beq_eq_false_iff_ne]; exact hE
                clear h32 hS0 hE
                go_wp2_with fail
                go_ret
                exact ⟨rfl, B7.out⟩
          · have k1 : ((k.size : Int) == 32) = false := by rw [beq_eq_false_iff_ne]; omega
            clear h32
            go_wp2_with fail
            go_ret
            exact ⟨rfl, B7.out⟩
    · have d1 : decide ((100 : Int) < k.size) = false := decide_eq_false (by omega)
      have d2 : (1100 : Int) < d.size := by omega
      clear hk hd hT hn
      go_enter Tryd.func3, Tryd.ntmps3
      go_wp2_with (go_at_call 8; refine (CA.out _ BX.out).mono ?_; rintro e v1 ⟨rfl, hb1⟩; have B1 := Lib.hid (keepBelow BX.out hb1); clear hb1)
      go_ret
      exact ⟨rfl, B1.out⟩
  · have d1 : (100 : Int) < k.size := by omega
    clear hk hT hn
    go_enter Tryd.func3, Tryd.ntmps3
    go_wp2_with (go_at_call 8; refine (CA.out _ BX.out).mono ?_; rintro e v1 ⟨rfl, hb1⟩; have B1 := Lib.hid (keepBelow BX.out hb1); clear hb1)
    go_ret
    exact ⟨rfl, B1.out⟩
end Go.Proofs.YtmblnacckboggaaDoor
