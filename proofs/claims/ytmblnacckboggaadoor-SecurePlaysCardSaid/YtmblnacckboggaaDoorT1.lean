/- The keystream: the plain law, Stream (func 37). -/
import Derived.Test.YtmblnacckboggaaDoorDB
namespace Go.Proofs.YtmblnacckboggaaDoor
open Go.RowKit
/-- a block of the keystream -/
def kblk (key : List UInt8) (nonce i : Nat) : List UInt8 := SH.mac key (SH.bytes8 nonce ++ SH.bytes8 i)
theorem kblk_len (key : List UInt8) (nonce i : Nat) : (kblk key nonce i).length = 32 := sum_len _
/-- the byte at a place -/
def kbyte (key : List UInt8) (nonce p : Nat) : UInt8 := (kblk key nonce (p / 32)).getD (p % 32) 0
/-- bytes of the keystream -/
def kst (key : List UInt8) (nonce a : Nat) : Nat → List UInt8
  | 0 => []
  | n + 1 => kst key nonce a n ++ [kbyte key nonce (a + n)]
theorem kst_len (key : List UInt8) (nonce a n : Nat) : (kst key nonce a n).length = n := by
  induction n with
  | zero => rfl
  | succ n ih => simp [kst, ih]
theorem kst_at (key : List UInt8) (nonce a n j : Nat) (h : j < n) : (kst key nonce a n)[j]? = some (kbyte key nonce (a + j)) := by
  induction n with
  | zero => omega
  | succ n ih =>
    rw [kst]
    by_cases e : j < n
    · rw [List.getElem?_append_left (by rw [kst_len]; exact e), ih e]
    · obtain rfl : j = n := by omega
      rw [List.getElem?_append_right (by rw [kst_len]; exact Nat.le_refl _), kst_len, Nat.sub_self]
      rfl
/-- whole blocks -/
def kcat (key : List UInt8) (nonce f : Nat) : Nat → List UInt8
  | 0 => []
  | c + 1 => kcat key nonce f c ++ kblk key nonce (f + c)
theorem kcat_len (key : List UInt8) (nonce f c : Nat) : (kcat key nonce f c).length = 32 * c := by
  induction c with
  | zero => rfl
  | succ c ih => rw [kcat, List.length_append, ih, kblk_len]; omega
theorem kcat_eq (key : List UInt8) (nonce f c : Nat) : kcat key nonce f c = kst key nonce (32 * f) (32 * c) := by
  apply List.ext_getElem?
  intro j
  by_cases hj : j < 32 * c
  · rw [kst_at _ _ _ _ _ hj]
    induction c with
    | zero => omega
    | succ c ih =>
      rw [kcat]
      by_cases e : j < 32 * c
      · rw [List.getElem?_append_left (by rw [kcat_len]; exact e), ih e]
      · rw [List.getElem?_append_right (by rw [kcat_len]; omega), kcat_len, kbyte]
        rw [show (32 * f + j) / 32 = f + c by omega, show (32 * f + j) % 32 = j - 32 * c by omega, List.getD_eq_getElem?_getD]
        rw [List.getElem?_eq_getElem (by rw [kblk_len]; omega)]
        rfl
  · rw [List.getElem?_eq_none (by rw [kcat_len]; omega), List.getElem?_eq_none (by rw [kst_len]; omega)]
theorem kst_part (key : List UInt8) (nonce a n d k : Nat) (h : d + k ≤ n) : ((kst key nonce a n).drop d).take k = kst key nonce (a + d) k := by
  apply List.ext_getElem?
  intro j
  rw [List.getElem?_take]
  by_cases hj : j < k
  · rw [if_pos hj, List.getElem?_drop, kst_at _ _ _ _ _ (by omega), kst_at _ _ _ _ _ hj, Nat.add_assoc]
  · rw [if_neg hj, List.getElem?_eq_none (by rw [kst_len]; omega)]
/-- what may not be asked -/
def sBad (nonce a n : Int) : Prop := nonce < 0 ∨ a < 0 ∨ n < 0 ∨ 1048576 < a ∨ 1048576 < n
set_option maxRecDepth 100000 in
set_option maxHeartbeats 800000 in
theorem stream_bad (key : ByteArray) (nonce a n : Int) (h : sBad nonce a n) (w : World) :
    Calls Tryd.prog 43 #[.string key, .int .i64 nonce, .int .i64 a, .int .i64 n] w fun e w' => e = .returned (.tuple #[.string ⟨#[]⟩, .int .i64 11]) ∧ Below w.heap.size w w' := by
  unfold sBad at h
  by_cases h1 : nonce < 0
  · clear h
    go_enter Tryd.func43, Tryd.ntmps43
    go_wp2_with fail
    go_ret2
    exact ⟨rfl, Below.refl _ _⟩
  · by_cases h2 : a < 0
    · clear h
      go_enter Tryd.func43, Tryd.ntmps43
      go_wp2_with fail
      go_ret2
      exact ⟨rfl, Below.refl _ _⟩
    · by_cases h3 : n < 0
      · clear h
        go_enter Tryd.func43, Tryd.ntmps43
        go_wp2_with fail
        go_ret2
        exact ⟨rfl, Below.refl _ _⟩
      · by_cases h4 : 1048576 < a
        · clear h
          go_enter Tryd.func43, Tryd.ntmps43
          go_wp2_with fail
          go_ret2
          exact ⟨rfl, Below.refl _ _⟩
        · have h5 : 1048576 < n := by omega
          clear h
          go_enter Tryd.func43, Tryd.ntmps43
          go_wp2_with fail
          go_ret2
          exact ⟨rfl, Below.refl _ _⟩
set_option maxRecDepth 100000 in
set_option maxHeartbeats 1600000 in
theorem stream_good (key : ByteArray) (nonce a n : Nat) (hk : key.size < 1000000) (hno : nonce < 9223372036854775808) (ha : a ≤ 1048576) (hn : n ≤ 1048576) (w : World) (hT : Tabs w) :
    Calls Tryd.prog 43 #[.string key, .int .i64 nonce, .int .i64 a, .int .i64 n] w fun e w' => e = .returned (.tuple #[.string ⟨(kst key.data.toList nonce a n).toArray⟩, .int .i64 0]) ∧ Below w.heap.size w w' := by
  have HT := Lib.hid hT
  have h1 : ¬ (nonce : Int) < 0 := by omega
  have h2 : ¬ (a : Int) < 0 := by omega
  have h3 : ¬ (n : Int) < 0 := by omega
  have h4 : ¬ (1048576 : Int) < a := by omega
  have h5 : ¬ (1048576 : Int) < n := by omega
  obtain ⟨f, hf⟩ : ∃ f, f = a / 32 := ⟨_, rfl⟩
  have t1 : Int.tdiv (a : Int) 32 = (f : Int) := by rw [hf]; exact (Int.ofNat_tdiv a 32).symm
  have t2 : IntKind.i64.wrap (f : Int) = (f : Int) := IntWalk.i64_in _ (by omega)
  have t3 : IntKind.i64.wrap ((a : Int) + n) = (a : Int) + n := IntWalk.i64_in _ (by omega)
  have t4 : IntKind.u64.wrap (nonce : Int) = (nonce : Int) := by rw [IntKind.wrap_u64]; omega
  have t5 : IntKind.i64.wrap ((f : Int) * 32) = (f : Int) * 32 := IntWalk.i64_in _ (by omega)
  have t6 : IntKind.i64.wrap ((a : Int) - f * 32) = (a : Int) - f * 32 := IntWalk.i64_in _ (by omega)
  have d1 : decide ((nonce : Int) < 0) = false := decide_eq_false h1
  have d2 : decide ((a : Int) < 0) = false := decide_eq_false h2
  have d3 : decide ((n : Int) < 0) = false := decide_eq_false h3
  have d4 : decide ((1048576 : Int) < a) = false := decide_eq_false h4
  have d5 : decide ((1048576 : Int) < n) = false := decide_eq_false h5
  have HF := Lib.hid hf
  obtain ⟨KL, hKL⟩ : ∃ K, K = key.data.toList := ⟨_, rfl⟩
  rw [← hKL]
  have HKL := Lib.hid hKL
  clear hT hf hKL
  go_enter Tryd.func43, Tryd.ntmps43
  go_wp2_with fail
  go_loopw [12] (fun i wr => ∃ p c : Nat, p = f + c ∧ i = .int .i64 p ∧ 32 * c ≤ 2000000000 ∧ c ≤ 100000 ∧ (0 < c → 32 * (p - 1) < a + n) ∧ Lib.IsBuilderF 85 5 w.heap.size w.heap.size (Lib.byteCells (kcat KL nonce f c)) wr ∧ w.heap.size ≤ wr.heap.size ∧ Below w.heap.size w wr) (fun i _ => a + n + 64 - 32 * (intOf i).toNat)
  case atStart => exact ⟨f, 0, rfl, rfl, by omega, by omega, fun h => by omega, Lib.IsBuilderF.of (Lib.fresh_isBuilder 85 5 w), by simp, (Below.refl _ _).alloc (Nat.le_refl _) _⟩
  case round =>
    obtain ⟨p, c, hp, rfl, hc0, hc1, hcl, hB, hsz, hN⟩ := hrel
    have HB := Lib.hid hB
    have HNN := Lib.hid hN
    have HSZ := Lib.hid hsz
    have HP := Lib.hid hp
    have HCL := Lib.hid hcl
    clear hB hN hsz hp hcl
    have hpb : p ≤ 2000000 := by have := HP.out; have := HF.out; omega
    have s1 : IntKind.i64.wrap ((p : Int) * 32) = (p : Int) * 32 := IntWalk.i64_in _ (by omega)
    by_cases hlt : 32 * p < a + n
    · have q1 : (p : Int) * 32 < (a : Int) + n := by omega
      have s2 : IntKind.u64.wrap (p : Int) = (p : Int) := by rw [IntKind.wrap_u64]; omega
      have s3 : IntKind.i64.wrap ((p : Int) + 1) = (((p + 1 : Nat)) : Int) := by rw [IntWalk.i64_in _ (by omega)]; omega
      obtain ⟨EA, hEA⟩ : ∃ E : ByteArray, E = ⟨(SH.bytes8 nonce).toArray⟩ := ⟨_, rfl⟩
      obtain ⟨EB, hEB⟩ : ∃ E : ByteArray, E = ⟨(SH.bytes8 p).toArray⟩ := ⟨_, rfl⟩
      have hEAs : EA.size = 8 := by rw [← bytes_len, hEA]; rfl
      have hEBs : EB.size = 8 := by rw [← bytes_len, hEB]; rfl
      have CE1 := Lib.hid (fun W => (eight_any nonce W).mono (fun e w' h => by rw [← hEA] at h; exact h))
      have CE2 := Lib.hid (fun W => (eight_any p W).mono (fun e w' h => by rw [← hEB] at h; exact h))
      obtain ⟨MB, hMB⟩ : ∃ M : ByteArray, M = ⟨(SH.mac key.data.toList (EA ++ EB).data.toList).toArray⟩ := ⟨_, rfl⟩
      have hMs : MB.size = 32 := by rw [hMB, str_size]; exact sum_len _
      have CM := Lib.hid (fun W (hW : Tabs W) => (mac_any key (EA ++ EB) (by omega) (by rw [ByteArray.size_append]; omega) W hW).mono (fun e w' h => by rw [← hMB] at h; exact h))
      have HMB := Lib.hid (show MB.data.toList = kblk KL nonce (f + c) by rw [hMB, str_list, ap_list, hEA, hEB, str_list, str_list, HKL.out, HP.out]; rfl)
      have k1 : ¬ 9223372036854775807 < EA.size + EB.size := by omega
      have HLN := Lib.hid (show (Lib.byteCells (kcat KL nonce f c)).length + MB.size ≤ 140737488355328 by rw [Lib.byteCells_length, kcat_len]; omega)
      clear hEA hEB hMB hEAs hEBs hMs
      go_wp2_with (first
        | (go_at_call 36; have tok := N3; clear tok; refine (wstr _ _ _ _ _ B3.out HLN.out S3.out).mono ?_; rintro e v4 ⟨rfl, hB4, hb4, _⟩; have B4 := Lib.hid hB4; have N4 := Lib.hid (N3.out.trans hb4); have S4 := Lib.hid (Nat.le_trans S3.out hb4.size); clear hB4 hb4)
        | (go_at_call 44; have tok := N2; clear tok; refine (CM.out _ (HT.out.keep N2.out)).mono ?_; rintro e v3 ⟨rfl, hb⟩; have B3 := Lib.hid (isB_below B2.out hb); have N3 := Lib.hid (keepBelow N2.out hb); have S3 := Lib.hid (Nat.le_trans S2.out hb.size); clear hb)
        | (go_at_call 52; have tok := N1; clear tok; refine (CE2.out _).mono ?_; rintro e v2 ⟨rfl, hb⟩; have B2 := Lib.hid (isB_below B1.out hb); have N2 := Lib.hid (keepBelow N1.out hb); have S2 := Lib.hid (Nat.le_trans S1.out hb.size); clear hb)
        | (go_at_call 52; refine (CE1.out _).mono ?_; rintro e v1 ⟨rfl, hb⟩; have B1 := Lib.hid (isB_below HB.out hb); have N1 := Lib.hid (keepBelow HNN.out hb); have S1 := Lib.hid (Nat.le_trans HSZ.out hb.size); clear hb))
      have hcb : c ≤ 70000 := by have := HP.out; have := HF.out; omega
      refine ⟨⟨p + 1, c + 1, by have := HP.out; omega, rfl, by omega, by omega, fun _ => by omega, ?_, S4.out, N4.out⟩, by simp [intOf]; omega⟩
      rw [kcat, Lib.byteCells_append, ← HMB.out, ← Lib.strCells_eq]
      exact Or.inr B4.out
    · have q1 : ¬ (p : Int) * 32 < (a : Int) + n := by omega
      obtain ⟨SB, hSB⟩ : ∃ S : ByteArray, S = ⟨(kcat KL nonce f c).toArray⟩ := ⟨_, rfl⟩
      have CS := Lib.hid ((Tryd.Builder_String_any_k _ _ _ _ HB.out HSZ.out).mono (fun e w' h => by rw [← hSB] at h; exact h))
      have hSs : SB.size = 32 * c := by rw [hSB, str_size, kcat_len]
      by_cases hn0 : n = 0
      · subst hn0
        go_wp2_with (go_at_call 37; refine CS.out.mono ?_; rintro e v1 ⟨rfl, _, hb1, _⟩)
        go_ret2
        exact ⟨rfl, HNN.out.trans hb1⟩
      · have z1 : ¬ (n : Int) = 0 := by omega
        have z2 : ((n : Int) == 0) = false := by rw [beq_eq_false_iff_ne]; exact z1
        have hfa : 32 * f ≤ a := by have := HF.out; omega
        obtain ⟨d, hd⟩ : ∃ d, d = a - 32 * f := ⟨_, rfl⟩
        have hdn : d + n ≤ 32 * c := by have := HP.out; omega
        have u1 : (a : Int) - f * 32 = (d : Int) := by omega
        rw [u1] at t6
        have u2 : IntKind.i64.wrap ((a : Int) - f * 32) = (d : Int) := by rw [u1]; exact t6
        have v1 : (0 : Int) ≤ d := by omega
        have v2 : (d : Int) ≤ SB.size := by omega
        have v3 : d ≤ SB.size := by omega
        have v4 : (n : Int) ≤ (SB.extract d SB.size).size := by rw [ByteArray.size_extract]; omega
        have v5 : n ≤ (SB.extract d SB.size).size := by rw [ByteArray.size_extract]; omega
        have v6 : (0 : Int) ≤ n := by omega
        have HFIN := Lib.hid (show ((SB.extract d SB.size).extract 0 n) = ⟨(kst KL nonce a n).toArray⟩ by
          have e : ((SB.extract d SB.size).extract 0 n).data.toList = kst KL nonce a n := by
            rw [ex_take, ex_drop, hSB, str_list, kcat_eq, kst_part _ _ _ _ _ _ hdn, hd]
            congr 1
            omega
          rw [← e])
        clear t5 u1 t6 hd hdn hSs hSB
        go_wp2_with (go_at_call 37; refine CS.out.mono ?_; rintro e v1 ⟨rfl, _, hb1, _⟩)
        go_ret2
        exact ⟨by rw [← HFIN.out]; rfl, HNN.out.trans hb1⟩
end Go.Proofs.YtmblnacckboggaaDoor
