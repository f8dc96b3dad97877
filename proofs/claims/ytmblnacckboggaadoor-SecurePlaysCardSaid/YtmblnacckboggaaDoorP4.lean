/- Bytes in memory: a row that was made of a string, changed at places, and made a string again. -/
import Derived.Test.YtmblnacckboggaaDoorQ6
namespace Go.Proofs.YtmblnacckboggaaDoor
open Go.RowKit
def Byt (W : World) (g : Nat) (L : List UInt8) : Prop := g < W.heap.size ∧ ∀ j, j < L.length → W.cell? ⟨g, j, none⟩ = some (.int .u8 ((L.getD j 0).toNat : Nat)) ∧ W.frozen? ⟨g, j, none⟩ = false
theorem Byt.cell {W : World} {g : Nat} {L : List UInt8} (h : Byt W g L) {j : Nat} (hj : j < L.length) : W.cell? ⟨g, j, none⟩ = some (.int .u8 ((L.getD j 0).toNat : Nat)) := (h.2 j hj).1
theorem Byt.frozen {W : World} {g : Nat} {L : List UInt8} (h : Byt W g L) {j : Nat} (hj : j < L.length) : W.frozen? ⟨g, j, none⟩ = false := (h.2 j hj).2
theorem Byt.drew {W : World} {g : Nat} {L : List UInt8} (h : Byt W g L) : Byt W.drew g L := h
theorem Byt.same {W W' : World} {g : Nat} {L : List UInt8} (h : Byt W g L) (hs : W.heap.size ≤ W'.heap.size) (hb : W'.heap[g]? = W.heap[g]?) : Byt W' g L := by
  refine ⟨Nat.lt_of_lt_of_le h.1 hs, fun j hj => ?_⟩
  have := h.2 j hj
  simp only [World.cell?, World.frozen?] at this ⊢
  rw [hb]
  exact this
theorem Byt.below {W W' : World} {g : Nat} {L : List UInt8} (h : Byt W g L) (hb : Below W.heap.size W W') : Byt W' g L := h.same hb.size (hb.block g h.1)
theorem Byt.far {W : World} {g : Nat} {L : List UInt8} (h : Byt W g L) {p : Addr} (hp : g ≠ p.block) (v : Value) : Byt (W.setCell p v) g L := h.same (by simp [World.setCell]) (Below.heap_setCell W p v g hp)
theorem Byt.set_ {W : World} {g : Nat} {L : List UInt8} (h : Byt W g L) {k : Nat} (hk : k < L.length) (v : UInt8) : Byt (W.setCell ⟨g, k, none⟩ (.int .u8 (v.toNat : Nat))) g (L.set k v) := by
  refine ⟨by simpa [World.setCell] using h.1, fun j hj => ?_⟩
  rw [List.length_set] at hj
  by_cases hjk : j = k
  · subst hjk
    refine ⟨?_, by rw [World.frozen?_setCell]; exact h.frozen hj⟩
    refine (World.cell?_setCell_same (h := h.cell hj) ..).trans ?_
    rw [List.getD_eq_getElem?_getD, List.getElem?_set_self hj]
    rfl
  · refine ⟨?_, by rw [World.frozen?_setCell]; exact h.frozen hj⟩
    refine (World.cell?_setCell_other (h := fun e => hjk (Addr.mk.inj e).2.1.symm) ..).trans ((h.cell hj).trans ?_)
    rw [List.getD_eq_getElem?_getD, List.getD_eq_getElem?_getD, List.getElem?_set_ne (fun h => hjk h.symm)]
theorem Byt.make (s : ByteArray) (cap : Nat) (v : World) : Byt (v.alloc (.cells (bytesRow s cap) 5 ((bytesRow s cap).size, (bytesRow s cap).size + 1))).drew v.heap.size s.data.toList := by
  have hrow : (bytesRow s cap).size = s.size + (cap - s.size) := by simp [bytesRow]
  obtain ⟨W1, hW1⟩ : ∃ W1, W1 = (v.alloc (.cells (bytesRow s cap) 5 ((bytesRow s cap).size, (bytesRow s cap).size + 1))).drew := ⟨_, rfl⟩
  have hs1 : W1.heap[v.heap.size]? = some (.cells (bytesRow s cap) 5 ((bytesRow s cap).size, (bytesRow s cap).size + 1)) := by rw [hW1]; exact heap_alloc_new v _
  rw [← hW1]
  refine ⟨(Array.getElem?_eq_some_iff.1 hs1).1, fun j hj => ?_⟩
  have hj' : j < s.data.size := by simpa using hj
  refine ⟨?_, ?_⟩
  · rw [cell_of_row W1 v.heap.size j _ 5 _ hs1, bytesRow_at s cap j hj', List.getD_eq_getElem?_getD, List.getElem?_eq_getElem hj]
    rfl
  · unfold World.frozen?
    rw [hs1]
    have h1 : s.data.size = s.size := rfl
    simp [hrow]; omega
theorem Byt.part {W : World} {g : Nat} {L : List UInt8} (h : Byt W g L) (a n cap : Nat) (hn : a + n ≤ L.length) : (convert 29 9 (.slice (some ⟨g, a, none⟩) n cap)).run Tryd.prog W = .ok (.string ⟨((L.drop a).take n).toArray⟩) W := by
  have hl : ((L.drop a).take n).length = n := by rw [List.length_take, List.length_drop]; omega
  have := run_convert_bytes_back W 29 9 5 ⟨g, a, none⟩ cap ((L.drop a).take n) Tryd.underlying29 Tryd.underlying5 Tryd.underlying9 (fun j hj => by
    have hj2 : a + j < L.length := by omega
    rw [Addr.add_mid, h.cell hj2, List.getD_eq_getElem?_getD, List.getElem?_eq_getElem hj2]
    simp)
  rw [hl] at this
  exact this
theorem Byt.back {W : World} {g : Nat} {L : List UInt8} (h : Byt W g L) (n cap : Nat) (hn : L.length = n) : (convert 29 9 (.slice (some ⟨g, 0, none⟩) n cap)).run Tryd.prog W = .ok (.string ⟨L.toArray⟩) W := by
  have := h.part 0 n cap (by omega)
  rw [List.drop_zero, List.take_of_length_le (by omega)] at this
  exact this
/-- bytes with one changed -/
def spoilL (L : List UInt8) (a : Int) (by_ : UInt8) : List UInt8 := if 0 ≤ a ∧ a < L.length then L.set a.toNat (L.getD a.toNat 0 ^^^ by_) else L
theorem spoil_len (L : List UInt8) (a : Int) (b : UInt8) : (spoilL L a b).length = L.length := by
  unfold spoilL
  split
  · rw [List.length_set]
  · rfl
end Go.Proofs.YtmblnacckboggaaDoor
