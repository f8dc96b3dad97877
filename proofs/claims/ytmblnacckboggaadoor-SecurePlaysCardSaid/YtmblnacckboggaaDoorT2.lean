/- Mask (func 39). -/
import Derived.Test.YtmblnacckboggaaDoorT1
import Derived.Test.YtmblnacckboggaaDoorD6
namespace Go.Proofs.YtmblnacckboggaaDoor
open Go.RowKit
/-- the bytes, the first ones exclusive-or those of a stream -/
def mk (l k : List UInt8) : Nat → List UInt8
  | 0 => l
  | u + 1 => (mk l k u).set u ((mk l k u).getD u 0 ^^^ k.getD u 0)
theorem mk_len (l k : List UInt8) (u : Nat) : (mk l k u).length = l.length := by
  induction u with
  | zero => rfl
  | succ u ih => simp [mk, ih]
theorem mk_at (l k : List UInt8) (u j : Nat) (hj : j < l.length) : (mk l k u).getD j 0 = if j < u then l.getD j 0 ^^^ k.getD j 0 else l.getD j 0 := by
  induction u with
  | zero => rfl
  | succ u ih =>
    rw [mk, List.getD_eq_getElem?_getD, List.getElem?_set]
    by_cases e : u = j
    · subst e
      rw [if_pos rfl, if_pos (by rw [mk_len]; exact hj), if_pos (by omega), ih, if_neg (by omega)]
      rfl
    · rw [if_neg e, ← List.getD_eq_getElem?_getD, ih]
      by_cases h : j < u
      · rw [if_pos h, if_pos (by omega)]
      · rw [if_neg h, if_neg (by omega)]
theorem mk_twice (l k : List UInt8) : mk (mk l k l.length) k l.length = l := by
  apply List.ext_getElem?
  intro j
  by_cases hj : j < l.length
  · have h1 := mk_at (mk l k l.length) k l.length j (by rw [mk_len]; exact hj)
    rw [if_pos hj, mk_at l k l.length j hj, if_pos hj, UInt8.xor_assoc, UInt8.xor_self, UInt8.xor_zero] at h1
    have e1 : (mk (mk l k l.length) k l.length)[j]? = some ((mk (mk l k l.length) k l.length).getD j 0) := by
      rw [List.getD_eq_getElem?_getD, List.getElem?_eq_getElem (by rw [mk_len, mk_len]; exact hj)]; rfl
    have e2 : l[j]? = some (l.getD j 0) := by
      rw [List.getD_eq_getElem?_getD, List.getElem?_eq_getElem hj]; rfl
    rw [e1, e2, h1]
  · rw [List.getElem?_eq_none (by rw [mk_len, mk_len]; omega), List.getElem?_eq_none (by omega)]
theorem mask_bad (s key : ByteArray) (nonce : Int) (h : nonce < 0) (w : World) :
    Calls Tryd.prog 28 #[.string s, .string key, .int .i64 nonce] w fun e w' => e = .returned (.tuple #[.string ⟨#[]⟩, .int .i64 11]) ∧ Below w.heap.size w w' := by
  have C := Lib.hid (fun W => stream_bad key nonce 0 s.size (.inl h) W)
  clear h
  go_enter Tryd.func28, Tryd.ntmps28
  go_wp2_with (go_at_call 43; refine (C.out _).mono ?_; rintro e v1 ⟨rfl, hb⟩)
  go_ret2
  exact ⟨rfl, hb⟩
set_option maxRecDepth 100000 in
set_option maxHeartbeats 1600000 in
theorem mask_good (s key : ByteArray) (nonce : Nat) (hk : key.size < 1000000) (hno : nonce < 9223372036854775808) (hs : s.size < 1000000) (w : World) (hT : Tabs w) :
    Calls Tryd.prog 28 #[.string s, .string key, .int .i64 nonce] w fun e w' => e = .returned (.tuple #[.string ⟨(mk s.data.toList (kst key.data.toList nonce 0 s.size) s.size).toArray⟩, .int .i64 0]) ∧ Below w.heap.size w w' := by
  obtain ⟨KB, hKB⟩ : ∃ K : ByteArray, K = ⟨(kst key.data.toList nonce 0 s.size).toArray⟩ := ⟨_, rfl⟩
  have hKs : KB.size = s.size := by rw [hKB, str_size, kst_len]
  have C := Lib.hid ((stream_good key nonce 0 s.size hk hno (by omega) (by omega) w hT).mono (fun e w' h => by rw [← hKB] at h; exact h))
  have hcv := fun W : World => run_bytes_of_string W 9 29 5 s Tryd.underlying9 Tryd.underlying29 Tryd.underlying5
  obtain ⟨KL, hKL⟩ : ∃ K, K = kst key.data.toList nonce 0 s.size := ⟨_, rfl⟩
  rw [← hKL]
  obtain ⟨L, hL⟩ : ∃ L, L = s.data.toList := ⟨_, rfl⟩
  rw [← hL]
  have HL := Lib.hid hL
  have HKL := Lib.hid (show KB.data.toList = KL by rw [hKB, hKL])
  clear hT hKB hKL hL
  go_enter Tryd.func28, Tryd.ntmps28
  go_wp2_with (go_at_call 43; refine C.out.mono ?_; rintro e v9 ⟨rfl, hb⟩; have B9 := Lib.hid hb; clear hb)
  obtain ⟨cap, hcap⟩ : ∃ c, c = grownCap v9 s.size 0 5 := ⟨_, rfl⟩
  rw [← hcap]
  have hrow : (bytesRow s cap).size = s.size + (cap - s.size) := by simp [bytesRow]
  obtain ⟨W1, hW1⟩ : ∃ W1, W1 = (v9.alloc (.cells (bytesRow s cap) 5 ((bytesRow s cap).size, (bytesRow s cap).size + 1))).drew := ⟨_, rfl⟩
  have hs1 : W1.heap[v9.heap.size]? = some (.cells (bytesRow s cap) 5 ((bytesRow s cap).size, (bytesRow s cap).size + 1)) := by rw [hW1]; exact heap_alloc_new v9 _
  have hB1 : Below w.heap.size w W1 := by rw [hW1]; exact ((B9.out).alloc B9.out.size _).drew
  have hgs : w.heap.size ≤ v9.heap.size := B9.out.size
  have hL := HL.out
  have hLs : L.length = s.size := by rw [hL, bytes_len]
  have hc1 : ∀ j, j < L.length → W1.cell? ⟨v9.heap.size, j, none⟩ = some (.int .u8 (((mk L KL 0).getD j 0).toNat : Nat)) ∧ W1.frozen? ⟨v9.heap.size, j, none⟩ = false := by
    intro j hj
    have hj' : j < s.data.size := by rw [hL] at hj; simpa using hj
    refine ⟨?_, ?_⟩
    · rw [cell_of_row W1 v9.heap.size j _ 5 _ hs1, bytesRow_at s cap j hj']
      show some _ = some (Value.int .u8 ((L.getD j 0).toNat : Nat))
      rw [List.getD_eq_getElem?_getD, List.getElem?_eq_getElem hj]
      subst hL
      rfl
    · unfold World.frozen?
      rw [hs1]
      have h1 : s.data.size = s.size := rfl
      simp [hrow]; omega
  rw [← hW1]
  have HC1 := Lib.hid hc1
  have HB1 := Lib.hid hB1
  have HLS := Lib.hid hLs
  have HGS := Lib.hid hgs
  generalize v9.heap.size = g at *
  clear hc1 hB1 hs1 hW1 hrow hcap hLs hL hgs hcv
  go_loopw [27] (fun i wr => ∃ u : Nat, u ≤ s.size ∧ i = .int .i64 u ∧ (∀ j, j < L.length → wr.cell? ⟨g, j, none⟩ = some (.int .u8 (((mk L KL u).getD j 0).toNat : Nat)) ∧ wr.frozen? ⟨g, j, none⟩ = false) ∧ Below w.heap.size w wr) (fun i _ => s.size - (intOf i).toNat)
  case atStart => exact ⟨0, by omega, rfl, HC1.out, HB1.out⟩
  case round =>
    obtain ⟨u, hu, rfl, hC, hB⟩ := hrel
    have HC := Lib.hid hC
    have HB := Lib.hid hB
    clear hC hB HC1 HB1
    by_cases hul : u < s.size
    · have p8 : (0 : Int) ≤ u := by omega
      have p9 : (u : Int) < s.size := by omega
      have p10 : (u : Int) < KB.size := by omega
      have hkb : u < KB.size := by omega
      have hul2 : u < L.length := by rw [HLS.out]; exact hul
      have ck0 := (HC.out u hul2).1
      have fk0 := (HC.out u hul2).2
      have HFL := Lib.hid (show mk L KL (u + 1) = (mk L KL u).set u ((mk L KL u).getD u 0 ^^^ KL.getD u 0) from rfl)
      have HLEN := Lib.hid (mk_len L KL u)
      have hkat : KL.getD u 0 = KB[u] := by rw [← HKL.out, getD_str KB u hkb]
      rw [hkat] at HFL
      have HX := Lib.hid (xor_byte ((mk L KL u).getD u 0) KB[u])
      generalize hb0 : (mk L KL u).getD u 0 = b0 at *
      clear hkat hb0
      go_wp2_with fail
      go_region
      go_wp2_with fail
      refine ⟨⟨u + 1, by omega, rfl, ?_, (HB.out.setCell HGS.out _).drew⟩, by simp [intOf]; omega⟩
      intro q hq
      rw [HX.out]
      by_cases hqk : q = u
      · subst hqk
        refine ⟨?_, by rw [World.frozen?_drew, World.frozen?_setCell]; exact fk0⟩
        rw [World.cell?_drew]
        refine (World.cell?_setCell_same (h := ck0) ..).trans ?_
        rw [HFL.out, List.getD_eq_getElem?_getD, List.getElem?_set_self (by rw [HLEN.out]; exact hq)]
        rfl
      · refine ⟨?_, by rw [World.frozen?_drew, World.frozen?_setCell]; exact (HC.out q hq).2⟩
        rw [World.cell?_drew]
        refine (World.cell?_setCell_other (h := fun e => hqk (Addr.mk.inj e).2.1.symm) ..).trans ((HC.out q hq).1.trans ?_)
        rw [HFL.out, List.getD_eq_getElem?_getD, List.getD_eq_getElem?_getD, List.getElem?_set_ne (fun h => hqk h.symm)]
    · obtain rfl : u = s.size := by omega
      have hfl : (mk L KL s.size).length = s.size := by rw [mk_len]; exact HLS.out
      have hcv2 : (convert 29 9 (.slice (some ⟨g, 0, none⟩) s.size cap)).run Tryd.prog wr = .ok (.string ⟨(mk L KL s.size).toArray⟩) wr := by
        have := run_convert_bytes_back wr 29 9 5 ⟨g, 0, none⟩ cap (mk L KL s.size) Tryd.underlying29 Tryd.underlying5 Tryd.underlying9 (fun j hj => by
          rw [Addr.add_mid, Nat.zero_add, (HC.out j (by rw [mk_len] at hj; exact hj)).1, List.getD_eq_getElem?_getD, List.getElem?_eq_getElem hj]
          rfl)
        rw [hfl] at this
        exact this
      clear hfl
      go_wp2_with fail
      go_ret2
      exact ⟨rfl, HB.out⟩
end Go.Proofs.YtmblnacckboggaaDoor
