/- A slice of items that was read: its elements' cells. The reach bounds what it holds. -/
import Derived.Test.YteendimoopmakaaT17
import Derived.Deep.Slices
import Derived.Deep.Fields
import Derived.SizedLaws
namespace Go.Proofs.Yteendimoopmakaa
open Go.ChangeShapes Go.WideShapes Go.Deep Go.RowKit

theorem weights_all {H : Type} {P : Program} {e : TypeId} : ∀ {ds : List (DataW H)} {d : DataW H}, d ∈ ds → ∀ n ∈ d.weights P e, n ∈ DataW.weightsAll P e ds := by
  intro ds
  induction ds with
  | nil => intro d h; cases h
  | cons d0 ds ih =>
    intro d h n hn
    simp only [DataW.weightsAll, List.mem_append]
    rcases List.mem_cons.1 h with rfl | h
    · exact .inl hn
    · exact .inr (ih h n hn)

theorem i64_rng' {n : Int} (h : (Lit.int .i64 n).wf = true) : -9223372036854775808 ≤ n ∧ n ≤ 9223372036854775807 := by
  simp only [Lit.wf, Bool.and_eq_true, decide_eq_true_eq] at h
  have hmin : IntKind.i64.min = -9223372036854775808 := rfl
  have hmax : IntKind.i64.max = 9223372036854775807 := rfl
  omega
theorem reach_is : reachBytes = 140737488351232 := by decide
section
variable {H : Type} {enc : TypeId × Value → H} {W : World}

theorem open_bools {n : Nat} {v : Value} {y : DataW H × List MemPlace} (h : DataW.trod enc Try.prog W 0 (fun _ => true) true n 33 [v] = some y) (hw : ∀ m ∈ y.1.weights Try.prog 33, m ≤ reachBytes) : ∃ L, Bools W W.heap.size v L := by
  rcases open_slice1 Try.underlying33 (by kernel_rfl) h with ⟨h1, _⟩ | ⟨a, len, cap, m, k, V, D, Pl, h1, _, hl, _, hm, hx, hi⟩
  · obtain rfl : v = .slice none 0 0 := by simpa using h1
    exact ⟨[], .inl ⟨⟨_, _, rfl⟩, rfl⟩⟩
  · obtain rfl : v = .slice (some a) len cap := by simpa using h1
    have hm' : m = cap := by simpa using hm
    by_cases h0 : len = 0
    · subst h0; exact ⟨[], .inl ⟨⟨_, _, rfl⟩, rfl⟩⟩
    · have hb : ∀ i, i < len → ∃ b, W.cell? (a.add i) = some (.bool b) := by
        intro i hl'
        obtain ⟨hc, ht⟩ := hi i (by omega)
        obtain ⟨b, hb, _⟩ := DataW.trod_bool Try.underlying4 ht
        have hb' : V i = .bool b := by simpa using hb
        exact ⟨b, by rw [hc, hb']⟩
      obtain ⟨f, hf⟩ := choose_lt (α := Bool) hb
      have hcap : cap ≤ reachBytes := by
        have h1 : (len + (m - len)) * Try.prog.bytesOf 4 ≤ reachBytes := hw _ (by rw [hx]; simp [DataW.weights, Try.underlying33])
        rw [show Try.prog.bytesOf 4 = 1 by kernel_rfl] at h1
        omega
      have hlt := World.block_lt_of_cell? _ _ (hf 0 (by omega))
      have hsp := World.cell?_spot (hf 0 (by omega))
      obtain ⟨ab, ao, asp⟩ := a
      have hsp' : asp = none := by simpa [Addr.add] using hsp
      subst hsp'
      refine ⟨(List.range len).map f, .inr ⟨ab, ao, cap, by simp, by simpa [Addr.add] using hlt, by simp; omega, by rw [reach_is] at hcap; exact hcap, fun j hj => ?_⟩⟩
      have hj' : j < len := by simpa using hj
      have := hf j hj'
      have ha : (Addr.add ⟨ab, ao, none⟩ j) = ⟨ab, ao + j, none⟩ := by unfold Addr.add; split <;> simp_all
      rw [ha] at this
      rw [this]
      simp [List.getD, hj']

set_option maxRecDepth 100000 in
theorem open_item {n : Nat} {ab ao : Nat} {cs : List Value} {y : DataW H × List MemPlace} (hc : W.cells? 0 ⟨ab, ao, none⟩ (Try.prog.cellsOf 35) = some cs) (h : DataW.trod enc Try.prog W 0 (fun _ => true) true n 35 cs = some y) (hw : ∀ m ∈ y.1.weights Try.prog 35, m ≤ reachBytes) :
    ∃ x : It, ItemAt W ab ao x ∧ x.ok W W.heap.size := by
  obtain ⟨ys, n', _, hy, hlen, hyl, hf⟩ := DataW.trod_struct Try.underlying35 h
  obtain ⟨_, hcl, hat⟩ := World.cells?_some hc
  rw [show Try.prog.cellsOf 35 = 5 by kernel_rfl] at hlen hat
  match cs, hlen with
  | [c0, c1, c2, c3, c4], _ =>
  match ys, hyl with
  | [y0, y1, y2, y3, y4], _ =>
    have g0 : DataW.trod enc Try.prog W 0 (fun _ => true) true n' 3 [c0] = some y0 := by
      have := hf 0 _ rfl
      rwa [show Try.prog.cellsOf _ = 1 by kernel_rfl] at this
    have g1 : DataW.trod enc Try.prog W 0 (fun _ => true) true n' 3 [c1] = some y1 := by
      have := hf 1 _ rfl
      rwa [show Try.prog.cellsOf _ = 1 by kernel_rfl] at this
    have g2 : DataW.trod enc Try.prog W 0 (fun _ => true) true n' 2 [c2] = some y2 := by
      have := hf 2 _ rfl
      rwa [show Try.prog.cellsOf _ = 1 by kernel_rfl] at this
    have g3 : DataW.trod enc Try.prog W 0 (fun _ => true) true n' 9 [c3] = some y3 := by
      have := hf 3 _ rfl
      rwa [show Try.prog.cellsOf _ = 1 by kernel_rfl] at this
    have g4 : DataW.trod enc Try.prog W 0 (fun _ => true) true n' 33 [c4] = some y4 := by
      have := hf 4 _ rfl
      rwa [show Try.prog.cellsOf _ = 1 by kernel_rfl] at this
    obtain ⟨a0, ha0, _, hr0⟩ := DataW.trod_int Try.underlying3 g0
    obtain ⟨a1, ha1, _, hr1⟩ := DataW.trod_int Try.underlying3 g1
    obtain ⟨a2, ha2, _, hr2⟩ := DataW.trod_int Try.underlying2 g2
    obtain ⟨a3, ha3, _, hr3⟩ := DataW.trod_string Try.underlying9 g3
    obtain ⟨L, hL⟩ := open_bools g4 (fun m hm => hw m (by rw [hy]; simp only [DataW.weights, Try.underlying35]; exact DataW.weights_mem_each (j := 4) (t := 33) rfl rfl m hm))
    obtain rfl : c0 = .int .i64 a0 := by simpa using ha0
    obtain rfl : c1 = .int .i64 a1 := by simpa using ha1
    obtain rfl : c2 = .int .i64 a2 := by simpa using ha2
    obtain rfl : c3 = .string a3 := by simpa using ha3
    refine ⟨⟨a0, a1, a2, a3, c4, L⟩, ⟨?_, ?_, ?_, ?_, ?_⟩, ⟨i64_rng' hr2, hL⟩⟩
    · exact hat 0 (by omega)
    · exact hat 1 (by omega)
    · exact hat 2 (by omega)
    · exact hat 3 (by omega)
    · exact hat 4 (by omega)

set_option maxRecDepth 100000 in
theorem open_items {b0 : Nat} {v : Value} {d : DataW H} {p : List MemPlace} (hok : Value.okWide Try.prog W .any b0 30 v) (h : DataW.Trod enc Try.prog W 0 (fun _ => true) true 30 v d p) (hw : ∀ m ∈ d.weights Try.prog 30, m ≤ reachBytes) :
    ∃ l, Items W W.heap.size v l := by
  obtain ⟨a0, len0, cap0, rfl⟩ := okWide_slice Try.underlying30 hok
  obtain ⟨fuel, hf⟩ := h
  rcases open_slice Try.underlying30 hf with ⟨h1, _⟩ | ⟨a, len, cap, m, k, D, Pl, h1, _, hl, _, hm, hx, hi⟩
  · obtain ⟨rfl, rfl, rfl⟩ : a0 = none ∧ len0 = 0 ∧ cap0 = 0 := by simpa [Value.cells] using h1
    exact ⟨[], .inl ⟨⟨_, _, rfl⟩, rfl⟩⟩
  · obtain ⟨rfl, rfl, rfl⟩ : a0 = some a ∧ len0 = len ∧ cap0 = cap := by simpa [Value.cells] using h1
    have hm' : m = cap0 := by simpa using hm
    by_cases h0 : len0 = 0
    · subst h0; exact ⟨[], .inl ⟨⟨_, _, rfl⟩, rfl⟩⟩
    · have hd : d = .slice ((List.range len0).map D) ((List.range (m - len0)).map fun j => D (len0 + j)) := congrArg Prod.fst hx
      have e5 : Try.prog.cellsOf 35 = 5 := by kernel_rfl
      have hsp : a.spot = none := by
        obtain ⟨cs', hc, _⟩ := hi 0 (by omega)
        obtain ⟨_, hcl, hat⟩ := World.cells?_some hc
        rw [e5] at hcl hat
        have h00 := hat 0 (by omega)
        rw [List.getElem?_eq_getElem (by omega)] at h00
        have := World.cell?_spot h00
        simpa [Addr.add] using this
      obtain ⟨ab, ao, asp⟩ := a
      dsimp only at hsp
      subst hsp
      have hel : ∀ i, i < len0 → ∃ x : It, ItemAt W ab (ao + i * 5) x ∧ x.ok W W.heap.size := by
        intro i hi0
        obtain ⟨cs', hc, ht⟩ := hi i (by omega)
        have ha : (Addr.add ⟨ab, ao, none⟩ (i * Try.prog.cellsOf 35)) = ⟨ab, ao + i * 5, none⟩ := by rw [e5]; unfold Addr.add; split <;> simp_all
        rw [ha] at hc
        refine open_item hc ht fun n hn => hw n ?_
        rw [hd]
        simp only [DataW.weights, Try.underlying30, List.mem_cons, List.mem_append]
        exact .inr (.inl (weights_all (List.mem_map.2 ⟨i, List.mem_range.2 hi0, rfl⟩) n hn))
      obtain ⟨f, hf⟩ := choose_lt (α := It) hel
      have hcap : cap0 ≤ reachBytes := by
        have h1 : (len0 + (m - len0)) * Try.prog.bytesOf 35 ≤ reachBytes := hw _ (by rw [hd]; simp [DataW.weights, Try.underlying30])
        have h2 : 1 ≤ Try.prog.bytesOf 35 := of_decide_eq_true (by kernel_rfl)
        have h3 : (len0 + (m - len0)) * 1 ≤ (len0 + (m - len0)) * Try.prog.bytesOf 35 := Nat.mul_le_mul_left _ h2
        omega
      have hlt := World.block_lt_of_cell? _ _ (hf 0 (by omega)).1.1
      refine ⟨(List.range len0).map f, .inr ⟨ab, ao, cap0, by simp, hlt, by simp; omega, by rw [reach_is] at hcap; exact hcap, fun j hj => ?_⟩⟩
      have hj' : j < len0 := by simpa using hj
      rw [getElem!_pos _ j hj]
      simpa using hf j hj'
end
end Go.Proofs.Yteendimoopmakaa
