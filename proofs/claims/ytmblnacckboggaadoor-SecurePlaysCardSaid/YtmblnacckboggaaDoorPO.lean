/- Slices of strings, of bytes, of changes, out of an argument. -/
import Derived.Test.YtmblnacckboggaaDoorPC
import Derived.Test.YtmblnacckboggaaDoorL2
import Derived.SliceStrings
import Derived.ChangeSlices
import Derived.Deep.Slices
namespace Go.Proofs.YtmblnacckboggaaDoor
open Go.ChangeShapes Go.WideShapes Go.ChangeAt Go.RowKit Go.Deep
theorem i64_rng {n : Int} (h : (Lit.int .i64 n).wf = true) : -9223372036854775808 ≤ n ∧ n < 9223372036854775808 := by
  simp only [Lit.wf, Bool.and_eq_true, decide_eq_true_eq] at h
  have hmin : IntKind.i64.min = -9223372036854775808 := rfl
  have hmax : IntKind.i64.max = 9223372036854775807 := rfl
  omega
theorem u8_of {n : Int} (h : (Lit.int .u8 n).wf = true) : ∃ b : UInt8, n = (b.toNat : Nat) := by
  simp only [Lit.wf, Bool.and_eq_true, decide_eq_true_eq] at h
  have hmin : IntKind.u8.min = 0 := rfl
  have hmax : IntKind.u8.max = 255 := rfl
  refine ⟨UInt8.ofNat n.toNat, ?_⟩
  rw [UInt8.toNat_ofNat']
  omega
theorem reach_is : reachBytes = 140737488351232 := by decide
section
variable {H : Type} {enc : TypeId × Value → H} {W : World}
set_option maxRecDepth 100000 in
theorem open_strs {n : Nat} {v : Value} {y : DataW H × List MemPlace} (h : DataW.trod enc Tryd.prog W 0 (fun _ => true) true n 33 [v] = some y) : ∃ l, Strs W v l := by
  rcases open_strings Tryd.underlying33 Tryd.underlying9 (by kernel_rfl) h with ⟨h1, _⟩ | ⟨a, len, cap, ss, h1, _, hl, hmx, hss, _, hat, _⟩
  · obtain rfl : v = .slice none 0 0 := by simpa using h1
    exact ⟨[], .inl ⟨rfl, _, _, rfl⟩⟩
  · obtain rfl : v = .slice (some a) len cap := by simpa using h1
    have hss' : ss.length = cap := by simpa using hss
    by_cases h0 : len = 0
    · subst h0; exact ⟨[], .inl ⟨rfl, _, _, rfl⟩⟩
    · have hsp : a.spot = none := by
        have := World.cell?_spot (hat 0 (by omega))
        simpa [Addr.add] using this
      obtain ⟨ab, ao, asp⟩ := a
      dsimp only at hsp
      subst hsp
      have hel : ∀ i, i < len → W.cell? ⟨ab, ao + i, none⟩ = some (.string ((ss.take len).getD i emB)) := by
        intro i hi
        have := hat i (by omega)
        have hadd : (⟨ab, ao, none⟩ : Addr).add i = ⟨ab, ao + i, none⟩ := by by_cases hi0 : i = 0 <;> simp [Addr.add, hi0]
        rw [hadd] at this
        rw [this, List.getD_eq_getElem?_getD, List.getD_eq_getElem?_getD, List.getElem?_take, if_pos hi, List.getElem?_eq_getElem (by omega)]
        rfl
      have hlt : ab < W.heap.size := World.block_lt_of_cell? _ _ (hel 0 (by omega))
      have hlen : (ss.take len).length = len := by rw [List.length_take]; omega
      refine ⟨ss.take len, .inr ⟨ab, ao, cap, by rw [hlen], by omega, by rw [hlen]; unfold maxLen at hmx; omega, hlt, fun i hi => hel i (by omega)⟩⟩
set_option maxRecDepth 100000 in
theorem open_u8s {n : Nat} {v : Value} {y : DataW H × List MemPlace} (h : DataW.trod enc Tryd.prog W 0 (fun _ => true) true n 29 [v] = some y) : ∃ l, U8s W v l := by
  rcases open_ints Tryd.underlying29 Tryd.underlying5 (by kernel_rfl) h with ⟨h1, _⟩ | ⟨a, len, cap, zs, h1, _, hl, hmx, hss, _, hat, hwf⟩
  · obtain rfl : v = .slice none 0 0 := by simpa using h1
    exact ⟨[], .inl ⟨rfl, _, _, rfl⟩⟩
  · obtain rfl : v = .slice (some a) len cap := by simpa using h1
    have hss' : zs.length = cap := by simpa using hss
    by_cases h0 : len = 0
    · subst h0; exact ⟨[], .inl ⟨rfl, _, _, rfl⟩⟩
    · have hsp : a.spot = none := by
        have := World.cell?_spot (hat 0 (by omega))
        simpa [Addr.add] using this
      obtain ⟨ab, ao, asp⟩ := a
      dsimp only at hsp
      subst hsp
      have hel : ∀ i, i < len → W.cell? ⟨ab, ao + i, none⟩ = some (.int .u8 ((((zs.take len).map fun z => UInt8.ofNat z.toNat).getD i 0).toNat : Nat)) := by
        intro i hi
        have := hat i (by omega)
        have hadd : (⟨ab, ao, none⟩ : Addr).add i = ⟨ab, ao + i, none⟩ := by by_cases hi0 : i = 0 <;> simp [Addr.add, hi0]
        rw [hadd] at this
        rw [this, List.getD_eq_getElem?_getD, List.getD_eq_getElem?_getD, List.getElem?_map, List.getElem?_take, if_pos hi, List.getElem?_eq_getElem (by omega)]
        have hz := hwf zs[i] (List.getElem_mem _)
        simp only [Lit.wf, Bool.and_eq_true, decide_eq_true_eq] at hz
        have hmin : IntKind.u8.min = 0 := rfl
        have hmax : IntKind.u8.max = 255 := rfl
        show some (Value.int .u8 zs[i]) = some (Value.int .u8 ((UInt8.ofNat zs[i].toNat).toNat : Nat))
        rw [UInt8.toNat_ofNat']
        congr 2
        omega
      have hlt : ab < W.heap.size := World.block_lt_of_cell? _ _ (hel 0 (by omega))
      have hlen : ((zs.take len).map fun z => UInt8.ofNat z.toNat).length = len := by rw [List.length_map, List.length_take]; omega
      refine ⟨_, .inr ⟨ab, ao, cap, by rw [hlen], by omega, by rw [hlen]; unfold maxLen at hmx; omega, hlt, fun i hi => hel i (by omega)⟩⟩
end
end Go.Proofs.YtmblnacckboggaaDoor
