/- Acts out of an argument. -/
import Derived.Test.YtmnlojbfdpjjdaaD1
import Derived.Test.YtmnlojbfdpjjdaaL1
import Derived.Deep.Slices
namespace Go.Proofs.Ytmnlojbfdpjjdaa
open Go.ChangeShapes Go.WideShapes Go.ChangeAt Go.RowKit Go.Deep
set_option maxRecDepth 100000 in
theorem open_act {H : Type} {enc : TypeId × Value → H} {W : World} {n : Nat} {cs : List Value} {y : DataW H × List MemPlace} (hlen : cs.length = 6) (h : DataW.trod enc Try.prog W 0 (fun _ => true) true n 44 cs = some y) :
    ∃ (k t ok of_ oc : Int) (od : ByteArray), cs = [.int .i64 k, .int .i64 t, .int .i64 ok, .int .i64 of_, .int .i64 oc, .string od] := by
  obtain ⟨ys, n', _, hy, _, hyl, hf⟩ := DataW.trod_struct Try.underlying44 h
  match cs, hlen with
  | [c0, c1, c2, c3, c4, c5], _ =>
  match ys, hyl with
  | [y0, y1, y2], _ =>
    have g0 : DataW.trod enc Try.prog W 0 (fun _ => true) true n' 3 [c0] = some y0 := by
      have := hf 0 _ rfl
      rwa [show Try.prog.cellsOf _ = 1 by kernel_rfl] at this
    have g1 : DataW.trod enc Try.prog W 0 (fun _ => true) true n' 3 [c1] = some y1 := by
      have := hf 1 _ rfl
      rwa [show Try.prog.cellsOf _ = 1 by kernel_rfl] at this
    have g2 : DataW.trod enc Try.prog W 0 (fun _ => true) true n' 42 [c2, c3, c4, c5] = some y2 := by
      have := hf 2 _ rfl
      rwa [show Try.prog.cellsOf _ = 4 by kernel_rfl] at this
    obtain ⟨zs, n2, _, hz, _, hzl, hg⟩ := DataW.trod_struct Try.underlying42 g2
    match zs, hzl with
    | [z0, z1, z2, z3], _ =>
      have k0 : DataW.trod enc Try.prog W 0 (fun _ => true) true n2 3 [c2] = some z0 := by
        have := hg 0 _ rfl
        rwa [show Try.prog.cellsOf _ = 1 by kernel_rfl] at this
      have k1 : DataW.trod enc Try.prog W 0 (fun _ => true) true n2 3 [c3] = some z1 := by
        have := hg 1 _ rfl
        rwa [show Try.prog.cellsOf _ = 1 by kernel_rfl] at this
      have k2 : DataW.trod enc Try.prog W 0 (fun _ => true) true n2 3 [c4] = some z2 := by
        have := hg 2 _ rfl
        rwa [show Try.prog.cellsOf _ = 1 by kernel_rfl] at this
      have k3 : DataW.trod enc Try.prog W 0 (fun _ => true) true n2 9 [c5] = some z3 := by
        have := hg 3 _ rfl
        rwa [show Try.prog.cellsOf _ = 1 by kernel_rfl] at this
      obtain ⟨a0, h0, _, _⟩ := DataW.trod_int Try.underlying3 g0
      obtain ⟨a1, h1, _, _⟩ := DataW.trod_int Try.underlying3 g1
      obtain ⟨a2, h2, _, _⟩ := DataW.trod_int Try.underlying3 k0
      obtain ⟨a3, h3, _, _⟩ := DataW.trod_int Try.underlying3 k1
      obtain ⟨a4, h4, _, _⟩ := DataW.trod_int Try.underlying3 k2
      obtain ⟨a5, h5, _, _⟩ := DataW.trod_string Try.underlying9 k3
      obtain rfl : c0 = .int .i64 a0 := by simpa using h0
      obtain rfl : c1 = .int .i64 a1 := by simpa using h1
      obtain rfl : c2 = .int .i64 a2 := by simpa using h2
      obtain rfl : c3 = .int .i64 a3 := by simpa using h3
      obtain rfl : c4 = .int .i64 a4 := by simpa using h4
      obtain rfl : c5 = .string a5 := by simpa using h5
      exact ⟨a0, a1, a2, a3, a4, a5, rfl⟩
instance : Inhabited Ac := ⟨ac0⟩
set_option maxRecDepth 100000 in
theorem open_acts {H : Type} {enc : TypeId × Value → H} {W : World} {n : Nat} {v : Value} {y : DataW H × List MemPlace} (h : DataW.trod enc Try.prog W 0 (fun _ => true) true n 37 [v] = some y) : ∃ l, Acts W v l := by
  rcases open_slice Try.underlying37 h with ⟨h1, _⟩ | ⟨a, len, cap, m, k, D, Pl, h1, _, hl, hmx, hm, _, hi⟩
  · obtain rfl : v = .slice none 0 0 := by simpa using h1
    exact ⟨[], .inl ⟨rfl, _, _, rfl⟩⟩
  · obtain rfl : v = .slice (some a) len cap := by simpa using h1
    have hm' : m = cap := by simpa using hm
    by_cases h0 : len = 0
    · subst h0; exact ⟨[], .inl ⟨rfl, _, _, rfl⟩⟩
    · have e6 : Try.prog.cellsOf 44 = 6 := by kernel_rfl
      have hsp : a.spot = none := by
        obtain ⟨cs', hc, _⟩ := hi 0 (by omega)
        obtain ⟨_, hcl, hat⟩ := World.cells?_some hc
        rw [e6] at hcl hat
        have h00 := hat 0 (by omega)
        rw [List.getElem?_eq_getElem (by omega)] at h00
        have := World.cell?_spot h00
        simpa [Addr.add] using this
      obtain ⟨ab, ao, asp⟩ := a
      dsimp only at hsp
      subst hsp
      have hel : ∀ i, i < len → ∃ x : Ac, AcAt W ab (ao + i * 6) x := by
        intro i hi0
        obtain ⟨cs', hc, ht⟩ := hi i (by omega)
        obtain ⟨_, hcl, hat⟩ := World.cells?_some hc
        rw [e6] at hcl hat
        obtain ⟨kk, t, ok, of_, oc, od, rfl⟩ := open_act hcl ht
        have hadd : ∀ j, (Addr.add ((⟨ab, ao, none⟩ : Addr).add (i * Try.prog.cellsOf 44)) j) = ⟨ab, ao + i * 6 + j, none⟩ := by
          intro j
          rw [e6]
          by_cases hi6 : i * 6 = 0 <;> by_cases hj : j = 0 <;> simp [Addr.add, hi6, hj]
        refine ⟨⟨kk, t, ⟨ok, of_, oc, od⟩⟩, ?_⟩
        have hh := fun j (hj : j < 6) => (hadd j) ▸ (hat j hj)
        exact ⟨hh 0 (by omega), hh 1 (by omega), hh 2 (by omega), hh 3 (by omega), hh 4 (by omega), hh 5 (by omega)⟩
      obtain ⟨f, hf⟩ := choose_lt (α := Ac) hel
      have hlt : ab < W.heap.size := World.block_lt_of_cell? _ _ (hf 0 (by omega)).1
      refine ⟨(List.range len).map f, .inr ⟨ab, ao, cap, by simp, by simp; omega, by simp; unfold maxLen at hmx; omega, hlt, fun i hi => ?_⟩⟩
      have hil : i < len := by simpa using hi
      have : ((List.range len).map f).getD i ac0 = f i := by simp [List.getD_eq_getElem?_getD, hil]
      rw [this]
      exact hf i hil
end Go.Proofs.Ytmnlojbfdpjjdaa
