/- The reference's Mac (func 18). -/
import Derived.Test.YtmblnacckboggaaDoorR2
import Derived.Test.YtmblnacckboggaaDoorDB
namespace Go.Proofs.YtmblnacckboggaaDoor
open Go.RowKit
/-- the first bytes of a padded key, each exclusive-or a byte; the rest of the row is 0 -/
def kC (K : List UInt8) (x : UInt8) (u : Nat) : List Value := byteC ((K.take u).map (· ^^^ x)) ++ List.replicate (64 - u) (.int .u8 0)
theorem kC_len (K : List UInt8) (x : UInt8) (u : Nat) (hK : K.length = 64) (hu : u ≤ 64) : (kC K x u).length = 64 := by
  simp only [kC, byteC, List.length_append, List.length_map, List.length_take, List.length_replicate, hK]; omega
theorem kC_step (K : List UInt8) (x : UInt8) (u : Nat) (hK : K.length = 64) (hu : u < 64) : (kC K x u).set u (.int .u8 ((K.getD u 0 ^^^ x).toNat : Nat)) = kC K x (u + 1) := by
  unfold kC byteC
  have hl : (((K.take u).map (· ^^^ x)).map fun b : UInt8 => Value.int .u8 (b.toNat : Nat)).length = u := by
    simp only [List.length_map, List.length_take, hK]; omega
  rw [List.set_append_right _ _ (by rw [hl]; exact Nat.le_refl _), hl, Nat.sub_self]
  obtain ⟨k, hk⟩ : ∃ k, 64 - u = k + 1 := ⟨63 - u, by omega⟩
  rw [hk, List.replicate_succ, List.set_cons_zero, show 64 - (u + 1) = k by omega, List.take_succ_eq_append_getElem (by omega), List.getD_eq_getElem?_getD, List.getElem?_eq_getElem (by omega)]
  simp only [List.map_append, List.map_cons, List.map_nil, List.append_assoc, List.cons_append, List.nil_append]
  rfl
theorem kC_all (K : List UInt8) (x : UInt8) (hK : K.length = 64) : kC K x 64 = byteC (K.map (· ^^^ x)) := by
  unfold kC
  rw [List.take_of_length_le (by omega), Nat.sub_self, List.replicate_zero, List.append_nil]
theorem keyOf_at (k : ByteArray) (u : Nat) : (k.data.toList ++ List.replicate (64 - k.size) (0 : UInt8)).getD u 0 = if h : u < k.size then k[u] else 0 := by
  by_cases h : u < k.size
  · rw [dif_pos h, List.getD_eq_getElem?_getD, List.getElem?_append_left (by rw [bytes_len]; exact h), ← List.getD_eq_getElem?_getD, getD_str k u h]
  · rw [dif_neg h, List.getD_eq_getElem?_getD, List.getElem?_append_right (by rw [bytes_len]; omega), bytes_len, List.getElem?_replicate]
    split <;> rfl
theorem back_bytes (W : World) (g : Nat) (l : List UInt8) (h : Blk W g 5 (byteC l)) : (convert 29 9 (.slice (some ⟨g, 0, none⟩) l.length l.length)).run Tryd.prog W = .ok (.string ⟨l.toArray⟩) W := by
  refine run_convert_bytes_back W 29 9 5 ⟨g, 0, none⟩ l.length l Tryd.underlying29 Tryd.underlying5 Tryd.underlying9 (fun j hj => ?_)
  rw [Addr.add_mid]
  refine (h.cell (0 + j)).trans ?_
  rw [Nat.zero_add, byteC, List.getElem?_map, List.getElem?_eq_getElem hj]
  rfl
theorem kC_zero (K : List UInt8) (x : UInt8) : kC K x 0 = List.replicate 64 (.int .u8 0) := by simp [kC, byteC]
theorem xor54 (c : UInt8) : bits .xor .u8 ((c.toNat : Nat) : Int) 54 = ((c ^^^ 54).toNat : Nat) := xor_byte c 54
theorem xor92 (c : UInt8) : bits .xor .u8 ((c.toNat : Nat) : Int) 92 = ((c ^^^ 92).toNat : Nat) := xor_byte c 92
theorem hmk8 (W : World) : (Instr.makeSlice 29 (.int .i64 64) (.int .i64 64)).run Tryd.prog W = .ok (.slice (some ⟨W.heap.size, 0, none⟩) 64 64) (W.alloc (.cells #[.int .u8 0, .int .u8 0, .int .u8 0, .int .u8 0, .int .u8 0, .int .u8 0, .int .u8 0, .int .u8 0, .int .u8 0, .int .u8 0, .int .u8 0, .int .u8 0, .int .u8 0, .int .u8 0, .int .u8 0, .int .u8 0, .int .u8 0, .int .u8 0, .int .u8 0, .int .u8 0, .int .u8 0, .int .u8 0, .int .u8 0, .int .u8 0, .int .u8 0, .int .u8 0, .int .u8 0, .int .u8 0, .int .u8 0, .int .u8 0, .int .u8 0, .int .u8 0, .int .u8 0, .int .u8 0, .int .u8 0, .int .u8 0, .int .u8 0, .int .u8 0, .int .u8 0, .int .u8 0, .int .u8 0, .int .u8 0, .int .u8 0, .int .u8 0, .int .u8 0, .int .u8 0, .int .u8 0, .int .u8 0, .int .u8 0, .int .u8 0, .int .u8 0, .int .u8 0, .int .u8 0, .int .u8 0, .int .u8 0, .int .u8 0, .int .u8 0, .int .u8 0, .int .u8 0, .int .u8 0, .int .u8 0, .int .u8 0, .int .u8 0, .int .u8 0] 5)) := by kernel_rfl
theorem zrow (W : World) (K : List UInt8) (x : UInt8) : Blk (W.alloc (.cells #[.int .u8 0, .int .u8 0, .int .u8 0, .int .u8 0, .int .u8 0, .int .u8 0, .int .u8 0, .int .u8 0, .int .u8 0, .int .u8 0, .int .u8 0, .int .u8 0, .int .u8 0, .int .u8 0, .int .u8 0, .int .u8 0, .int .u8 0, .int .u8 0, .int .u8 0, .int .u8 0, .int .u8 0, .int .u8 0, .int .u8 0, .int .u8 0, .int .u8 0, .int .u8 0, .int .u8 0, .int .u8 0, .int .u8 0, .int .u8 0, .int .u8 0, .int .u8 0, .int .u8 0, .int .u8 0, .int .u8 0, .int .u8 0, .int .u8 0, .int .u8 0, .int .u8 0, .int .u8 0, .int .u8 0, .int .u8 0, .int .u8 0, .int .u8 0, .int .u8 0, .int .u8 0, .int .u8 0, .int .u8 0, .int .u8 0, .int .u8 0, .int .u8 0, .int .u8 0, .int .u8 0, .int .u8 0, .int .u8 0, .int .u8 0, .int .u8 0, .int .u8 0, .int .u8 0, .int .u8 0, .int .u8 0, .int .u8 0, .int .u8 0, .int .u8 0] 5)) W.heap.size 5 (kC K x 0) := by
  rw [kC_zero]
  exact Blk.new W 5 (List.replicate 64 (.int .u8 0))
theorem two_rows {w w1 : World} (h : Below w.heap.size w w1) (K : List UInt8) (x y : UInt8) : Blk (((w1.alloc (.cells #[.int .u8 0, .int .u8 0, .int .u8 0, .int .u8 0, .int .u8 0, .int .u8 0, .int .u8 0, .int .u8 0, .int .u8 0, .int .u8 0, .int .u8 0, .int .u8 0, .int .u8 0, .int .u8 0, .int .u8 0, .int .u8 0, .int .u8 0, .int .u8 0, .int .u8 0, .int .u8 0, .int .u8 0, .int .u8 0, .int .u8 0, .int .u8 0, .int .u8 0, .int .u8 0, .int .u8 0, .int .u8 0, .int .u8 0, .int .u8 0, .int .u8 0, .int .u8 0, .int .u8 0, .int .u8 0, .int .u8 0, .int .u8 0, .int .u8 0, .int .u8 0, .int .u8 0, .int .u8 0, .int .u8 0, .int .u8 0, .int .u8 0, .int .u8 0, .int .u8 0, .int .u8 0, .int .u8 0, .int .u8 0, .int .u8 0, .int .u8 0, .int .u8 0, .int .u8 0, .int .u8 0, .int .u8 0, .int .u8 0, .int .u8 0, .int .u8 0, .int .u8 0, .int .u8 0, .int .u8 0, .int .u8 0, .int .u8 0, .int .u8 0, .int .u8 0] 5)).alloc (.cells #[.int .u8 0, .int .u8 0, .int .u8 0, .int .u8 0, .int .u8 0, .int .u8 0, .int .u8 0, .int .u8 0, .int .u8 0, .int .u8 0, .int .u8 0, .int .u8 0, .int .u8 0, .int .u8 0, .int .u8 0, .int .u8 0, .int .u8 0, .int .u8 0, .int .u8 0, .int .u8 0, .int .u8 0, .int .u8 0, .int .u8 0, .int .u8 0, .int .u8 0, .int .u8 0, .int .u8 0, .int .u8 0, .int .u8 0, .int .u8 0, .int .u8 0, .int .u8 0, .int .u8 0, .int .u8 0, .int .u8 0, .int .u8 0, .int .u8 0, .int .u8 0, .int .u8 0, .int .u8 0, .int .u8 0, .int .u8 0, .int .u8 0, .int .u8 0, .int .u8 0, .int .u8 0, .int .u8 0, .int .u8 0, .int .u8 0, .int .u8 0, .int .u8 0, .int .u8 0, .int .u8 0, .int .u8 0, .int .u8 0, .int .u8 0, .int .u8 0, .int .u8 0, .int .u8 0, .int .u8 0, .int .u8 0, .int .u8 0, .int .u8 0, .int .u8 0] 5)).drew) w1.heap.size 5 (kC K x 0) ∧ Blk (((w1.alloc (.cells #[.int .u8 0, .int .u8 0, .int .u8 0, .int .u8 0, .int .u8 0, .int .u8 0, .int .u8 0, .int .u8 0, .int .u8 0, .int .u8 0, .int .u8 0, .int .u8 0, .int .u8 0, .int .u8 0, .int .u8 0, .int .u8 0, .int .u8 0, .int .u8 0, .int .u8 0, .int .u8 0, .int .u8 0, .int .u8 0, .int .u8 0, .int .u8 0, .int .u8 0, .int .u8 0, .int .u8 0, .int .u8 0, .int .u8 0, .int .u8 0, .int .u8 0, .int .u8 0, .int .u8 0, .int .u8 0, .int .u8 0, .int .u8 0, .int .u8 0, .int .u8 0, .int .u8 0, .int .u8 0, .int .u8 0, .int .u8 0, .int .u8 0, .int .u8 0, .int .u8 0, .int .u8 0, .int .u8 0, .int .u8 0, .int .u8 0, .int .u8 0, .int .u8 0, .int .u8 0, .int .u8 0, .int .u8 0, .int .u8 0, .int .u8 0, .int .u8 0, .int .u8 0, .int .u8 0, .int .u8 0, .int .u8 0, .int .u8 0, .int .u8 0, .int .u8 0] 5)).alloc (.cells #[.int .u8 0, .int .u8 0, .int .u8 0, .int .u8 0, .int .u8 0, .int .u8 0, .int .u8 0, .int .u8 0, .int .u8 0, .int .u8 0, .int .u8 0, .int .u8 0, .int .u8 0, .int .u8 0, .int .u8 0, .int .u8 0, .int .u8 0, .int .u8 0, .int .u8 0, .int .u8 0, .int .u8 0, .int .u8 0, .int .u8 0, .int .u8 0, .int .u8 0, .int .u8 0, .int .u8 0, .int .u8 0, .int .u8 0, .int .u8 0, .int .u8 0, .int .u8 0, .int .u8 0, .int .u8 0, .int .u8 0, .int .u8 0, .int .u8 0, .int .u8 0, .int .u8 0, .int .u8 0, .int .u8 0, .int .u8 0, .int .u8 0, .int .u8 0, .int .u8 0, .int .u8 0, .int .u8 0, .int .u8 0, .int .u8 0, .int .u8 0, .int .u8 0, .int .u8 0, .int .u8 0, .int .u8 0, .int .u8 0, .int .u8 0, .int .u8 0, .int .u8 0, .int .u8 0, .int .u8 0, .int .u8 0, .int .u8 0, .int .u8 0, .int .u8 0] 5)).drew) (w1.heap.size + 1) 5 (kC K y 0) ∧ Below w.heap.size w (((w1.alloc (.cells #[.int .u8 0, .int .u8 0, .int .u8 0, .int .u8 0, .int .u8 0, .int .u8 0, .int .u8 0, .int .u8 0, .int .u8 0, .int .u8 0, .int .u8 0, .int .u8 0, .int .u8 0, .int .u8 0, .int .u8 0, .int .u8 0, .int .u8 0, .int .u8 0, .int .u8 0, .int .u8 0, .int .u8 0, .int .u8 0, .int .u8 0, .int .u8 0, .int .u8 0, .int .u8 0, .int .u8 0, .int .u8 0, .int .u8 0, .int .u8 0, .int .u8 0, .int .u8 0, .int .u8 0, .int .u8 0, .int .u8 0, .int .u8 0, .int .u8 0, .int .u8 0, .int .u8 0, .int .u8 0, .int .u8 0, .int .u8 0, .int .u8 0, .int .u8 0, .int .u8 0, .int .u8 0, .int .u8 0, .int .u8 0, .int .u8 0, .int .u8 0, .int .u8 0, .int .u8 0, .int .u8 0, .int .u8 0, .int .u8 0, .int .u8 0, .int .u8 0, .int .u8 0, .int .u8 0, .int .u8 0, .int .u8 0, .int .u8 0, .int .u8 0, .int .u8 0] 5)).alloc (.cells #[.int .u8 0, .int .u8 0, .int .u8 0, .int .u8 0, .int .u8 0, .int .u8 0, .int .u8 0, .int .u8 0, .int .u8 0, .int .u8 0, .int .u8 0, .int .u8 0, .int .u8 0, .int .u8 0, .int .u8 0, .int .u8 0, .int .u8 0, .int .u8 0, .int .u8 0, .int .u8 0, .int .u8 0, .int .u8 0, .int .u8 0, .int .u8 0, .int .u8 0, .int .u8 0, .int .u8 0, .int .u8 0, .int .u8 0, .int .u8 0, .int .u8 0, .int .u8 0, .int .u8 0, .int .u8 0, .int .u8 0, .int .u8 0, .int .u8 0, .int .u8 0, .int .u8 0, .int .u8 0, .int .u8 0, .int .u8 0, .int .u8 0, .int .u8 0, .int .u8 0, .int .u8 0, .int .u8 0, .int .u8 0, .int .u8 0, .int .u8 0, .int .u8 0, .int .u8 0, .int .u8 0, .int .u8 0, .int .u8 0, .int .u8 0, .int .u8 0, .int .u8 0, .int .u8 0, .int .u8 0, .int .u8 0, .int .u8 0, .int .u8 0, .int .u8 0] 5)).drew) := by
  refine ⟨blk_drew ((zrow w1 K x).alloc _), ?_, ((h.alloc h.size _).alloc (by have := h.size; simp; omega) _).drew⟩
  have h2 := zrow (w1.alloc (.cells #[.int .u8 0, .int .u8 0, .int .u8 0, .int .u8 0, .int .u8 0, .int .u8 0, .int .u8 0, .int .u8 0, .int .u8 0, .int .u8 0, .int .u8 0, .int .u8 0, .int .u8 0, .int .u8 0, .int .u8 0, .int .u8 0, .int .u8 0, .int .u8 0, .int .u8 0, .int .u8 0, .int .u8 0, .int .u8 0, .int .u8 0, .int .u8 0, .int .u8 0, .int .u8 0, .int .u8 0, .int .u8 0, .int .u8 0, .int .u8 0, .int .u8 0, .int .u8 0, .int .u8 0, .int .u8 0, .int .u8 0, .int .u8 0, .int .u8 0, .int .u8 0, .int .u8 0, .int .u8 0, .int .u8 0, .int .u8 0, .int .u8 0, .int .u8 0, .int .u8 0, .int .u8 0, .int .u8 0, .int .u8 0, .int .u8 0, .int .u8 0, .int .u8 0, .int .u8 0, .int .u8 0, .int .u8 0, .int .u8 0, .int .u8 0, .int .u8 0, .int .u8 0, .int .u8 0, .int .u8 0, .int .u8 0, .int .u8 0, .int .u8 0, .int .u8 0] 5)) K y
  rw [show (w1.alloc (.cells #[.int .u8 0, .int .u8 0, .int .u8 0, .int .u8 0, .int .u8 0, .int .u8 0, .int .u8 0, .int .u8 0, .int .u8 0, .int .u8 0, .int .u8 0, .int .u8 0, .int .u8 0, .int .u8 0, .int .u8 0, .int .u8 0, .int .u8 0, .int .u8 0, .int .u8 0, .int .u8 0, .int .u8 0, .int .u8 0, .int .u8 0, .int .u8 0, .int .u8 0, .int .u8 0, .int .u8 0, .int .u8 0, .int .u8 0, .int .u8 0, .int .u8 0, .int .u8 0, .int .u8 0, .int .u8 0, .int .u8 0, .int .u8 0, .int .u8 0, .int .u8 0, .int .u8 0, .int .u8 0, .int .u8 0, .int .u8 0, .int .u8 0, .int .u8 0, .int .u8 0, .int .u8 0, .int .u8 0, .int .u8 0, .int .u8 0, .int .u8 0, .int .u8 0, .int .u8 0, .int .u8 0, .int .u8 0, .int .u8 0, .int .u8 0, .int .u8 0, .int .u8 0, .int .u8 0, .int .u8 0, .int .u8 0, .int .u8 0, .int .u8 0, .int .u8 0] 5)).heap.size = w1.heap.size + 1 by simp] at h2
  exact h2
set_option maxRecDepth 100000 in
set_option maxHeartbeats 1600000 in
theorem rmac_any (key s : ByteArray) (hk : key.size < 288230376151711744) (hs : s.size < 144115188075855872) (w : World) :
    Calls Tryd.prog 35 #[.string key, .string s] w fun e w' => e = .returned (.string ⟨(SH.mac key.data.toList s.data.toList).toArray⟩) ∧ Below w.heap.size w w' := by
  have HS := Lib.hid hs
  clear hs
  by_cases hgt : 64 < key.size
  · have g1 : (64 : Int) < key.size := by omega
    obtain ⟨K, hK⟩ : ∃ K : ByteArray, K = ⟨(SH.sum key.data.toList).toArray⟩ := ⟨_, rfl⟩
    have C16 := Lib.hid (fun W => (rsum_any key hk W).mono (fun e w' h => by rw [← hK] at h; exact h))
    have hks : K.size = 32 := by rw [hK, str_size]; exact sum_len _
    obtain ⟨KO, hKO⟩ : ∃ KO, KO = SH.keyOf key.data.toList := ⟨_, rfl⟩
    have hko : KO = K.data.toList ++ List.replicate (64 - K.size) 0 := by rw [hKO]; exact (keyOf_big key K hgt (by rw [hK])).symm
    have HMAC := Lib.hid (show SH.mac key.data.toList s.data.toList = SH.sum (KO.map (· ^^^ 0x5c) ++ SH.sum (KO.map (· ^^^ 0x36) ++ s.data.toList)) by rw [hKO]; rfl)
    have hkol : KO.length = 64 := by rw [hko, List.length_append, bytes_len, List.length_replicate]; omega
    have HKO := Lib.hid hko
    have HKOL := Lib.hid hkol
    clear hK hKO hko hkol hks hgt
    go_enter Tryd.func35, Tryd.ntmps35
    go_upto_region 3 with (go_at_call 47; refine (C16.out _).mono ?_; rintro e W1 ⟨rfl, hb1⟩; have B1 := Lib.hid hb1; clear hb1)
    have hmk := hmk8
    go_cut [5, 6] (fun a b wx => ∃ gi go : Nat, a = .slice (some ⟨gi, 0, none⟩) 64 64 ∧ b = .slice (some ⟨go, 0, none⟩) 64 64 ∧ gi ≠ go ∧ (w.heap.size ≤ gi ∧ w.heap.size ≤ go) ∧ Blk wx gi 5 (kC KO 54 0) ∧ Blk wx go 5 (kC KO 92 0) ∧ Below w.heap.size w wx)
    case first =>
      go_region
      all_goals
        go_wp2_with fail
        go_meet
        first
          | exact ⟨W1.heap.size, W1.heap.size + 1, rfl, rfl, by omega, ⟨B1.out.size, by have := B1.out.size; omega⟩, two_rows B1.out KO 54 92⟩
          | exact ⟨W1.heap.size + 1, W1.heap.size, rfl, rfl, by omega, ⟨by have := B1.out.size; omega, B1.out.size⟩, (two_rows B1.out KO 92 54).2.1, (two_rows B1.out KO 92 54).1, (two_rows B1.out KO 92 54).2.2⟩
    case rest =>
      obtain ⟨gi, go, rfl, rfl, hne, ⟨hgi, hgo⟩, hI, hO, hB⟩ := hcut
      have GI := Lib.hid hI
      have GO := Lib.hid hO
      have BC := Lib.hid hB
      have HNE := Lib.hid hne
      have LI := Lib.hid hgi
      have LO := Lib.hid hgo
      clear hI hO hB hmk hne hgi hgo
      go_wp2_with fail
      go_loopw [7] (fun i wr => ∃ u : Nat, u ≤ 64 ∧ i = .int .i64 u ∧ Blk wr gi 5 (kC KO 54 u) ∧ Blk wr go 5 (kC KO 92 u) ∧ Below w.heap.size w wr) (fun i _ => 64 - (intOf i).toNat)
      case atStart => exact ⟨0, by omega, rfl, GI.out, GO.out, BC.out⟩
      case round =>
        obtain ⟨u, hu, rfl, hI, hO, hB⟩ := hrel
        have UI := Lib.hid hI
        have UO := Lib.hid hO
        have BU := Lib.hid hB
        clear hI hO hB GI GO BC
        by_cases hul : u < 64
        · have p9 : (u : Int) < 64 := by omega
          have p8 : (0 : Int) ≤ u := by omega
          obtain ⟨vi, hvi⟩ : ∃ v, (kC KO 54 u)[u]? = some v := ⟨_, List.getElem?_eq_getElem (by rw [kC_len KO 54 u HKOL.out hu]; exact hul)⟩
          obtain ⟨vo, hvo⟩ : ∃ v, (kC KO 92 u)[u]? = some v := ⟨_, List.getElem?_eq_getElem (by rw [kC_len KO 92 u HKOL.out hu]; exact hul)⟩
          have ci : wr.cell? ⟨gi, u, none⟩ = some vi := (UI.out.cell u).trans hvi
          have co : wr.cell? ⟨go, u, none⟩ = some vo := (UO.out.cell u).trans hvo
          have fi : wr.frozen? ⟨gi, u, none⟩ = false := UI.out.frozen u
          have fo : wr.frozen? ⟨go, u, none⟩ = false := UO.out.frozen u
          have SI := Lib.hid (kC_step KO 54 u HKOL.out hul)
          have SO := Lib.hid (kC_step KO 92 u HKOL.out hul)
          have ne1 : ¬ gi = go := HNE.out
          have ne2 : ¬ go = gi := fun h => HNE.out h.symm
          clear hvi hvo
          by_cases huk : u < K.size
          · have r1 : (u : Int) < K.size := by omega
            have hat : KO.getD u 0 = K[u] := by rw [HKO.out, keyOf_at, dif_pos huk]
            rw [hat] at SI SO
            have x1 := xor54 K[u]
            have x2 := xor92 K[u]
            clear hat
            go_wp2_with fail
            go_roundw
            case rel =>
              refine ⟨u + 1, by omega, by go_num, ?_, ?_, (BU.out.setCell LI.out _).setCell LO.out _⟩
              · rw [← SI.out]
                exact (UI.out.set_ u _).far (fun h => HNE.out h) _
              · rw [← SO.out]
                exact (UO.out.far (fun h => HNE.out h.symm) _).set_ u _
            case measure => simp [intOf]; omega
          · have r1 : ¬ (u : Int) < K.size := by omega
            have hat : KO.getD u 0 = 0 := by rw [HKO.out, keyOf_at, dif_neg huk]
            rw [hat] at SI SO
            have x1 : bits .xor .u8 0 54 = (((0 : UInt8) ^^^ 54).toNat : Nat) := xor54 0
            have x2 : bits .xor .u8 0 92 = (((0 : UInt8) ^^^ 92).toNat : Nat) := xor92 0
            obtain ⟨z1, hz1⟩ : ∃ z : Nat, z = ((0 : UInt8) ^^^ 54).toNat := ⟨_, rfl⟩
            obtain ⟨z2, hz2⟩ : ∃ z : Nat, z = ((0 : UInt8) ^^^ 92).toNat := ⟨_, rfl⟩
            rw [← hz1] at SI x1
            rw [← hz2] at SO x2
            clear hat hz1 hz2
            go_wp2_with fail
            go_roundw
            case rel =>
              refine ⟨u + 1, by omega, by go_num, ?_, ?_, (BU.out.setCell LI.out _).setCell LO.out _⟩
              · rw [← SI.out]
                exact (UI.out.set_ u _).far (fun h => HNE.out h) _
              · rw [← SO.out]
                exact (UO.out.far (fun h => HNE.out h.symm) _).set_ u _
            case measure => simp [intOf]; omega
        · obtain rfl : u = 64 := by omega
          rw [kC_all _ _ HKOL.out] at UI UO
          have hli : (KO.map (· ^^^ (54 : UInt8))).length = 64 := by rw [List.length_map]; exact HKOL.out
          have hlo : (KO.map (· ^^^ (92 : UInt8))).length = 64 := by rw [List.length_map]; exact HKOL.out
          obtain ⟨AI, hAI⟩ : ∃ A : ByteArray, A = ⟨(KO.map (· ^^^ (54 : UInt8))).toArray⟩ := ⟨_, rfl⟩
          obtain ⟨AO, hAO⟩ : ∃ A : ByteArray, A = ⟨(KO.map (· ^^^ (92 : UInt8))).toArray⟩ := ⟨_, rfl⟩
          have cvI : ∀ W, Blk W gi 5 (byteC (KO.map (· ^^^ (54 : UInt8)))) → (convert 29 9 (.slice (some ⟨gi, 0, none⟩) 64 64)).run Tryd.prog W = .ok (.string AI) W := fun W h => by
            have := back_bytes W gi _ h
            rw [hli, ← hAI] at this
            exact this
          have cvO : ∀ W, Blk W go 5 (byteC (KO.map (· ^^^ (92 : UInt8)))) → (convert 29 9 (.slice (some ⟨go, 0, none⟩) 64 64)).run Tryd.prog W = .ok (.string AO) W := fun W h => by
            have := back_bytes W go _ h
            rw [hlo, ← hAO] at this
            exact this
          have hAIs : AI.size = 64 := by rw [hAI, str_size]; exact hli
          have hAOs : AO.size = 64 := by rw [hAO, str_size]; exact hlo
          obtain ⟨S1, hS1⟩ : ∃ S : ByteArray, S = ⟨(SH.sum (AI ++ s).data.toList).toArray⟩ := ⟨_, rfl⟩
          have hs1 : S1.size = 32 := by rw [hS1, str_size]; exact sum_len _
          have CA := Lib.hid (fun W => (rsum_any (AI ++ s) (by rw [ByteArray.size_append]; have := HS.out; omega) W).mono (fun e w' h => by rw [← hS1] at h; exact h))
          have CB := Lib.hid (fun W => rsum_any (AO ++ S1) (by rw [ByteArray.size_append]; omega) W)
          have HFIN := Lib.hid (show SH.sum (AO ++ S1).data.toList = SH.mac key.data.toList s.data.toList by rw [HMAC.out, ap_list, hS1, str_list, ap_list, hAI, hAO])
          have a1 : ¬ 9223372036854775807 < AI.size + s.size := by have := HS.out; omega
          have a2 : ¬ 9223372036854775807 < AO.size + S1.size := by omega
          have k1 := cvI _ UI.out
          have k2 := cvO _ UO.out
          have k3 := cvI _ (blk_drew UI.out)
          have k4 := cvO _ (blk_drew UO.out)
          have CVO := Lib.hid cvO
          clear cvI cvO hAI hAO hli hlo hS1 hAIs hAOs hs1 HMAC HKO
          go_wp2_with fail
          go_region_with (first
            | (go_at_call 47; have tok := B7; clear tok; refine (CB.out _).mono ?_; rintro e v8 ⟨rfl, hb8⟩; have B8 := Lib.hid (keepBelow B7.out hb8); clear hb8)
            | (go_at_call 47; refine (CA.out _).mono ?_; rintro e v7 ⟨rfl, hb7⟩; have B7 := Lib.hid (keepBelow BU.out.drew hb7); have k5 := CVO.out _ (keepBlk hb7 (blk_drew UO.out)); clear hb7))
          all_goals
            go_wp2_with fail
            go_ret
            exact ⟨by rw [← HFIN.out]; rfl, B8.out⟩
  · have g1 : ¬ (64 : Int) < key.size := by omega
    obtain ⟨KO, hKO⟩ : ∃ KO, KO = SH.keyOf key.data.toList := ⟨_, rfl⟩
    have hko : KO = key.data.toList ++ List.replicate (64 - key.size) 0 := by rw [hKO]; exact (keyOf_small key hgt).symm
    have HMAC := Lib.hid (show SH.mac key.data.toList s.data.toList = SH.sum (KO.map (· ^^^ 0x5c) ++ SH.sum (KO.map (· ^^^ 0x36) ++ s.data.toList)) by rw [hKO]; rfl)
    have hkol : KO.length = 64 := by rw [hko, List.length_append, bytes_len, List.length_replicate]; omega
    have HKO := Lib.hid hko
    have HKOL := Lib.hid hkol
    have B1 := Lib.hid (Below.refl w.heap.size w)
    clear hKO hko hkol hgt
    go_enter Tryd.func35, Tryd.ntmps35
    go_upto_region 3 with (fail)
    have hmk := hmk8
    go_cut [5, 6] (fun a b wx => ∃ gi go : Nat, a = .slice (some ⟨gi, 0, none⟩) 64 64 ∧ b = .slice (some ⟨go, 0, none⟩) 64 64 ∧ gi ≠ go ∧ (w.heap.size ≤ gi ∧ w.heap.size ≤ go) ∧ Blk wx gi 5 (kC KO 54 0) ∧ Blk wx go 5 (kC KO 92 0) ∧ Below w.heap.size w wx)
    case first =>
      go_region
      all_goals
        go_wp2_with fail
        go_meet
        first
          | exact ⟨w.heap.size, w.heap.size + 1, rfl, rfl, by omega, ⟨B1.out.size, by have := B1.out.size; omega⟩, two_rows B1.out KO 54 92⟩
          | exact ⟨w.heap.size + 1, w.heap.size, rfl, rfl, by omega, ⟨by have := B1.out.size; omega, B1.out.size⟩, (two_rows B1.out KO 92 54).2.1, (two_rows B1.out KO 92 54).1, (two_rows B1.out KO 92 54).2.2⟩
    case rest =>
      obtain ⟨gi, go, rfl, rfl, hne, ⟨hgi, hgo⟩, hI, hO, hB⟩ := hcut
      have GI := Lib.hid hI
      have GO := Lib.hid hO
      have BC := Lib.hid hB
      have HNE := Lib.hid hne
      have LI := Lib.hid hgi
      have LO := Lib.hid hgo
      clear hI hO hB hmk hne hgi hgo
      go_wp2_with fail
      go_loopw [7] (fun i wr => ∃ u : Nat, u ≤ 64 ∧ i = .int .i64 u ∧ Blk wr gi 5 (kC KO 54 u) ∧ Blk wr go 5 (kC KO 92 u) ∧ Below w.heap.size w wr) (fun i _ => 64 - (intOf i).toNat)
      case atStart => exact ⟨0, by omega, rfl, GI.out, GO.out, BC.out⟩
      case round =>
        obtain ⟨u, hu, rfl, hI, hO, hB⟩ := hrel
        have UI := Lib.hid hI
        have UO := Lib.hid hO
        have BU := Lib.hid hB
        clear hI hO hB GI GO BC
        by_cases hul : u < 64
        · have p9 : (u : Int) < 64 := by omega
          have p8 : (0 : Int) ≤ u := by omega
          obtain ⟨vi, hvi⟩ : ∃ v, (kC KO 54 u)[u]? = some v := ⟨_, List.getElem?_eq_getElem (by rw [kC_len KO 54 u HKOL.out hu]; exact hul)⟩
          obtain ⟨vo, hvo⟩ : ∃ v, (kC KO 92 u)[u]? = some v := ⟨_, List.getElem?_eq_getElem (by rw [kC_len KO 92 u HKOL.out hu]; exact hul)⟩
          have ci : wr.cell? ⟨gi, u, none⟩ = some vi := (UI.out.cell u).trans hvi
          have co : wr.cell? ⟨go, u, none⟩ = some vo := (UO.out.cell u).trans hvo
          have fi : wr.frozen? ⟨gi, u, none⟩ = false := UI.out.frozen u
          have fo : wr.frozen? ⟨go, u, none⟩ = false := UO.out.frozen u
          have SI := Lib.hid (kC_step KO 54 u HKOL.out hul)
          have SO := Lib.hid (kC_step KO 92 u HKOL.out hul)
          have ne1 : ¬ gi = go := HNE.out
          have ne2 : ¬ go = gi := fun h => HNE.out h.symm
          clear hvi hvo
          by_cases huk : u < key.size
          · have r1 : (u : Int) < key.size := by omega
            have hat : KO.getD u 0 = key[u] := by rw [HKO.out, keyOf_at, dif_pos huk]
            rw [hat] at SI SO
            have x1 := xor54 key[u]
            have x2 := xor92 key[u]
            clear hat
            go_wp2_with fail
            go_roundw
            case rel =>
              refine ⟨u + 1, by omega, by go_num, ?_, ?_, (BU.out.setCell LI.out _).setCell LO.out _⟩
              · rw [← SI.out]
                exact (UI.out.set_ u _).far (fun h => HNE.out h) _
              · rw [← SO.out]
                exact (UO.out.far (fun h => HNE.out h.symm) _).set_ u _
            case measure => simp [intOf]; omega
          · have r1 : ¬ (u : Int) < key.size := by omega
            have hat : KO.getD u 0 = 0 := by rw [HKO.out, keyOf_at, dif_neg huk]
            rw [hat] at SI SO
            have x1 : bits .xor .u8 0 54 = (((0 : UInt8) ^^^ 54).toNat : Nat) := xor54 0
            have x2 : bits .xor .u8 0 92 = (((0 : UInt8) ^^^ 92).toNat : Nat) := xor92 0
            obtain ⟨z1, hz1⟩ : ∃ z : Nat, z = ((0 : UInt8) ^^^ 54).toNat := ⟨_, rfl⟩
            obtain ⟨z2, hz2⟩ : ∃ z : Nat, z = ((0 : UInt8) ^^^ 92).toNat := ⟨_, rfl⟩
            rw [← hz1] at SI x1
            rw [← hz2] at SO x2
            clear hat hz1 hz2
            go_wp2_with fail
            go_roundw
            case rel =>
              refine ⟨u + 1, by omega, by go_num, ?_, ?_, (BU.out.setCell LI.out _).setCell LO.out _⟩
              · rw [← SI.out]
                exact (UI.out.set_ u _).far (fun h => HNE.out h) _
              · rw [← SO.out]
                exact (UO.out.far (fun h => HNE.out h.symm) _).set_ u _
            case measure => simp [intOf]; omega
        · obtain rfl : u = 64 := by omega
          rw [kC_all _ _ HKOL.out] at UI UO
          have hli : (KO.map (· ^^^ (54 : UInt8))).length = 64 := by rw [List.length_map]; exact HKOL.out
          have hlo : (KO.map (· ^^^ (92 : UInt8))).length = 64 := by rw [List.length_map]; exact HKOL.out
          obtain ⟨AI, hAI⟩ : ∃ A : ByteArray, A = ⟨(KO.map (· ^^^ (54 : UInt8))).toArray⟩ := ⟨_, rfl⟩
          obtain ⟨AO, hAO⟩ : ∃ A : ByteArray, A = ⟨(KO.map (· ^^^ (92 : UInt8))).toArray⟩ := ⟨_, rfl⟩
          have cvI : ∀ W, Blk W gi 5 (byteC (KO.map (· ^^^ (54 : UInt8)))) → (convert 29 9 (.slice (some ⟨gi, 0, none⟩) 64 64)).run Tryd.prog W = .ok (.string AI) W := fun W h => by
            have := back_bytes W gi _ h
            rw [hli, ← hAI] at this
            exact this
          have cvO : ∀ W, Blk W go 5 (byteC (KO.map (· ^^^ (92 : UInt8)))) → (convert 29 9 (.slice (some ⟨go, 0, none⟩) 64 64)).run Tryd.prog W = .ok (.string AO) W := fun W h => by
            have := back_bytes W go _ h
            rw [hlo, ← hAO] at this
            exact this
          have hAIs : AI.size = 64 := by rw [hAI, str_size]; exact hli
          have hAOs : AO.size = 64 := by rw [hAO, str_size]; exact hlo
          obtain ⟨S1, hS1⟩ : ∃ S : ByteArray, S = ⟨(SH.sum (AI ++ s).data.toList).toArray⟩ := ⟨_, rfl⟩
          have hs1 : S1.size = 32 := by rw [hS1, str_size]; exact sum_len _
          have CA := Lib.hid (fun W => (rsum_any (AI ++ s) (by rw [ByteArray.size_append]; have := HS.out; omega) W).mono (fun e w' h => by rw [← hS1] at h; exact h))
          have CB := Lib.hid (fun W => rsum_any (AO ++ S1) (by rw [ByteArray.size_append]; omega) W)
          have HFIN := Lib.hid (show SH.sum (AO ++ S1).data.toList = SH.mac key.data.toList s.data.toList by rw [HMAC.out, ap_list, hS1, str_list, ap_list, hAI, hAO])
          have a1 : ¬ 9223372036854775807 < AI.size + s.size := by have := HS.out; omega
          have a2 : ¬ 9223372036854775807 < AO.size + S1.size := by omega
          have k1 := cvI _ UI.out
          have k2 := cvO _ UO.out
          have k3 := cvI _ (blk_drew UI.out)
          have k4 := cvO _ (blk_drew UO.out)
          have CVO := Lib.hid cvO
          clear cvI cvO hAI hAO hli hlo hS1 hAIs hAOs hs1 HMAC HKO
          go_wp2_with fail
          go_region_with (first
            | (go_at_call 47; have tok := B7; clear tok; refine (CB.out _).mono ?_; rintro e v8 ⟨rfl, hb8⟩; have B8 := Lib.hid (keepBelow B7.out hb8); clear hb8)
            | (go_at_call 47; refine (CA.out _).mono ?_; rintro e v7 ⟨rfl, hb7⟩; have B7 := Lib.hid (keepBelow BU.out.drew hb7); have k5 := CVO.out _ (keepBlk hb7 (blk_drew UO.out)); clear hb7))
          all_goals
            go_wp2_with fail
            go_ret
            exact ⟨by rw [← HFIN.out]; rfl, B8.out⟩
end Go.Proofs.YtmblnacckboggaaDoor
