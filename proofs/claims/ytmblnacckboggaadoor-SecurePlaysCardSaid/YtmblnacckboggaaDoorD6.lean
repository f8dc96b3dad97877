/- mixed (func 54): each byte exclusive-or a byte. -/
import Derived.Test.YtmblnacckboggaaDoorD5
import Derived.Laws.IdiomStrings
namespace Go.Proofs.YtmblnacckboggaaDoor
open Go.RowKit
def mixL (l : List UInt8) (x : UInt8) (u : Nat) : List UInt8 := (l.take u).map (· ^^^ x) ++ l.drop u
theorem mixL_len (l : List UInt8) (x : UInt8) (u : Nat) : (mixL l x u).length = l.length := by
  simp [mixL]; omega
theorem mixL_old (l : List UInt8) (x : UInt8) (u j : Nat) (hu : u ≤ l.length) (h : u ≤ j) : (mixL l x u).getD j 0 = l.getD j 0 := by
  have hl : ((l.take u).map (· ^^^ x)).length = u := by simp; omega
  unfold mixL
  rw [List.getD_eq_getElem?_getD, List.getElem?_append_right (by rw [hl]; exact h), hl, List.getElem?_drop, List.getD_eq_getElem?_getD]
  congr 2; omega
theorem mixL_new (l : List UInt8) (x : UInt8) (u : Nat) (hu : u < l.length) : (mixL l x (u + 1)).getD u 0 = l.getD u 0 ^^^ x := by
  unfold mixL
  rw [List.getD_eq_getElem?_getD, List.getElem?_append_left (by simp; omega)]
  simp [List.getD_eq_getElem?_getD, List.getElem?_eq_getElem hu]
theorem mixL_other (l : List UInt8) (x : UInt8) (u j : Nat) (hu : u < l.length) (h : j ≠ u) : (mixL l x (u + 1)).getD j 0 = (mixL l x u).getD j 0 := by
  by_cases hj : u + 1 ≤ j
  · rw [mixL_old l x (u + 1) j (by omega) hj, mixL_old l x u j (by omega) (by omega)]
  · have h1 : j < u := by omega
    unfold mixL
    rw [List.getD_eq_getElem?_getD, List.getD_eq_getElem?_getD, List.getElem?_append_left (by simp; omega), List.getElem?_append_left (by simp; omega)]
    simp [h1, show j < u + 1 by omega]
theorem mixL_all (l : List UInt8) (x : UInt8) : mixL l x l.length = l.map (· ^^^ x) := by simp [mixL]
theorem mixL_zero (l : List UInt8) (x : UInt8) : mixL l x 0 = l := by simp [mixL]
theorem xor_byte (a x : UInt8) : bits .xor .u8 (a.toNat : Int) (x.toNat : Int) = ((a ^^^ x).toNat : Nat) := by
  rw [u8_xor_nat _ _ a.toNat_lt x.toNat_lt, UInt8.toNat_xor]
set_option maxRecDepth 100000 in
theorem mixed_any (s : ByteArray) (x : UInt8) (hs : s.size < 1152921504606846976) (w : World) :
    Calls Tryd.prog 55 #[.string s, .int .u8 (x.toNat : Nat)] w fun e w' => e = .returned (.string ⟨(s.data.toList.map (· ^^^ x)).toArray⟩) ∧ Below w.heap.size w w' := by
  obtain ⟨cap, hcap⟩ : ∃ c, c = grownCap w s.size 0 5 := ⟨_, rfl⟩
  have hcv := run_bytes_of_string w 9 29 5 s Tryd.underlying9 Tryd.underlying29 Tryd.underlying5
  rw [← hcap] at hcv
  obtain ⟨W0, hW0⟩ : ∃ W0, W0 = w.drew.alloc (.cells (bytesRow s cap) 5 ((bytesRow s cap).size, (bytesRow s cap).size + 1)) := ⟨_, rfl⟩
  rw [← hW0] at hcv
  have hs0 : W0.heap[w.heap.size]? = some (.cells (bytesRow s cap) 5 ((bytesRow s cap).size, (bytesRow s cap).size + 1)) := by rw [hW0]; exact heap_alloc_new w.drew _
  have hbs : (bytesRow s cap).size = s.size + (cap - s.size) := by simp [bytesRow]
  have hc0 : ∀ j, j < s.data.toList.length → W0.cell? ⟨w.heap.size, j, none⟩ = some (.int .u8 (((mixL s.data.toList x 0).getD j 0).toNat : Nat)) ∧ W0.frozen? ⟨w.heap.size, j, none⟩ = false := by
    intro j hj
    have hj' : j < s.data.size := by simpa using hj
    refine ⟨?_, ?_⟩
    · rw [cell_of_row W0 w.heap.size j _ 5 _ hs0, bytesRow_at s cap j hj', mixL_zero, List.getD_eq_getElem?_getD, List.getElem?_eq_getElem hj]
      rfl
    · unfold World.frozen?
      rw [hs0]
      have : s.data.size = s.size := rfl
      simp [hbs]; omega
  have hB0 : Below w.heap.size w W0 := by rw [hW0]; exact ((Below.refl _ w).drew).alloc (Nat.le_refl _) _
  have HC0 := Lib.hid hc0
  have HB0 := Lib.hid hB0
  clear hc0 hB0 hbs hs0 hW0 hcap
  go_enter Tryd.func55, Tryd.ntmps55
  go_wp2_with fail
  go_loopw [11] (fun i wr => ∃ u : Nat, u ≤ s.size ∧ i = .int .i64 u ∧ (∀ j, j < s.data.toList.length → wr.cell? ⟨w.heap.size, j, none⟩ = some (.int .u8 (((mixL s.data.toList x u).getD j 0).toNat : Nat)) ∧ wr.frozen? ⟨w.heap.size, j, none⟩ = false) ∧ Below w.heap.size w wr) (fun i _ => s.size - (intOf i).toNat)
  case atStart => exact ⟨0, by omega, rfl, HC0.out, HB0.out⟩
  case round =>
    obtain ⟨u, hu, rfl, hC, hB⟩ := hrel
    have HCC := Lib.hid hC
    have HBB := Lib.hid hB
    clear hC hB
    by_cases hlt : u < s.size
    · have hul : u < s.data.toList.length := by rw [bytes_len]; exact hlt
      have hc := (HCC.out u hul).1
      have hf := (HCC.out u hul).2
      rw [mixL_old _ _ _ _ (by omega) (Nat.le_refl _)] at hc
      have HX := Lib.hid (xor_byte (s.data.toList.getD u 0) x)
      have HN := Lib.hid (mixL_new s.data.toList x u hul)
      generalize s.data.toList.getD u 0 = a at *
      have p1 : (0 : Int) ≤ u := by omega
      have p2 : (u : Int) < s.size := by omega
      go_wp2_with fail
      refine ⟨⟨u + 1, by omega, rfl, ?_, HBB.out.setCell (Nat.le_refl _) _⟩, by simp [intOf]; omega⟩
      intro j hj
      rw [HX.out]
      by_cases hju : j = u
      · subst hju
        rw [HN.out]
        exact ⟨World.cell?_setCell_same (h := hc) .., by rw [World.frozen?_setCell]; exact hf⟩
      · rw [mixL_other _ _ _ _ hul hju]
        refine ⟨(World.cell?_setCell_other (h := fun e => hju (Addr.mk.inj e).2.1.symm) ..).trans (HCC.out j hj).1, by rw [World.frozen?_setCell]; exact (HCC.out j hj).2⟩
    · obtain rfl : u = s.size := by omega
      have hcv2 : (convert 29 9 (.slice (some ⟨w.heap.size, 0, none⟩) s.size cap)).run Tryd.prog wr = .ok (.string ⟨(s.data.toList.map (· ^^^ x)).toArray⟩) wr := by
        have hl : s.size = (s.data.toList.map (· ^^^ x)).length := by simp
        have := run_convert_bytes_back wr 29 9 5 ⟨w.heap.size, 0, none⟩ cap (s.data.toList.map (· ^^^ x)) Tryd.underlying29 Tryd.underlying5 Tryd.underlying9 (fun j hj => by
          rw [Addr.add_mid, Nat.zero_add, (HCC.out j (by simpa using hj)).1, ← bytes_len s, mixL_all, List.getD_eq_getElem?_getD, List.getElem?_eq_getElem hj]
          rfl)
        rw [← hl] at this
        exact this
      go_wp2_with fail
      go_ret
      exact ⟨rfl, HBB.out⟩
end Go.Proofs.YtmblnacckboggaaDoor
