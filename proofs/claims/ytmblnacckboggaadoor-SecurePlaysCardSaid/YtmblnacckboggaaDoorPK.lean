/- SecurePlays: acts that are not small; slices of acts out of an argument. -/
import Derived.Test.YtmblnacckboggaaDoorPH
import Derived.Test.YtmblnacckboggaaDoorPO
namespace Go.Proofs.YtmblnacckboggaaDoor
open Go.ChangeShapes Go.WideShapes Go.ChangeAt Go.RowKit Go.Deep
set_option maxRecDepth 100000 in
set_option maxHeartbeats 1600000 in
theorem plays_many (k : ByteArray) (sa : Option Addr) (sc : Nat) (l : List PAct) (hk : k.size ≤ 200000000000000) (hs : smallB l = false) (hll : l.length ≤ 9223372036854775807) (w : World) (hA : PActs w (.slice sa l.length sc) l) (hT : Tabs w) :
    Calls Tryd.prog 6 #[.string k, .slice sa l.length sc] w fun e w' => e = .returned (.bool true) ∧ Below w.heap.size w w' := by
  have CA := Lib.hid (awake_any w hT)
  have CO := Lib.hid (fun W => open_two k hk W)
  have CS := Lib.hid (fun W (hb : Below w.heap.size w W) => small_any sa sc l hll W (hA.below hb))
  rw [hs] at CS
  clear hA hT hk hs
  go_enter Tryd.func6, Tryd.ntmps6
  go_wp2_with (first
    | (go_at_call 8; refine (CA.out).mono ?_; rintro e v1 ⟨rfl, hb1⟩; have B1 := Lib.hid hb1; clear hb1)
    | (go_at_call 13; refine (CO.out _).mono ?_; rintro e v2 ⟨g, l0, l1, w0, w1, rfl, _, hb2⟩; have B2 := Lib.hid (keepBelow B1.out hb2); clear hb2)
    | (go_at_call 21; refine (CS.out _ B2.out).mono ?_; rintro e v3 ⟨rfl, hb3⟩; have B3 := Lib.hid (keepBelow B2.out hb3); clear hb3))
  go_ret
  exact ⟨rfl, B3.out⟩
section
variable {H : Type} {enc : TypeId × Value → H} {W : World}
theorem choose_pact {n : Nat} {P : Nat → PAct → Prop} (h : ∀ i, i < n → ∃ x, P i x) : ∃ f : Nat → PAct, ∀ i, i < n → P i (f i) := by
  refine ⟨fun i => if hi : i < n then Classical.choose (h i hi) else pact0, fun i hi => ?_⟩
  simp only [hi, dite_true]
  exact Classical.choose_spec (h i hi)
set_option maxRecDepth 100000 in
theorem open_acts {n : Nat} {v : Value} {y : DataW H × List MemPlace} (h : DataW.trod enc Tryd.prog W 0 (fun _ => true) true n 58 [v] = some y) : ∃ l, PActs W v l := by
  rcases open_slice Tryd.underlying58 h with ⟨h1, _⟩ | ⟨a, len, cap, m, k, D, Pl, h1, _, hl, hmx, hm, _, hi⟩
  · obtain rfl : v = .slice none 0 0 := by simpa using h1
    exact ⟨[], .inl ⟨rfl, _, _, rfl⟩⟩
  · obtain rfl : v = .slice (some a) len cap := by simpa using h1
    have hm' : m = cap := by simpa using hm
    by_cases h0 : len = 0
    · subst h0; exact ⟨[], .inl ⟨rfl, _, _, rfl⟩⟩
    · have e2 : Tryd.prog.cellsOf 61 = 6 := by kernel_rfl
      have hsp : a.spot = none := by
        obtain ⟨cs', hc, _⟩ := hi 0 (by omega)
        obtain ⟨_, hcl, hat⟩ := World.cells?_some hc
        rw [e2] at hcl hat
        have h00 := hat 0 (by omega)
        rw [List.getElem?_eq_getElem (by omega)] at h00
        have := World.cell?_spot h00
        simpa [Addr.add] using this
      obtain ⟨ab, ao, asp⟩ := a
      dsimp only at hsp
      subst hsp
      have hel : ∀ i, i < len → ∃ x : PAct, PactAt W ab (ao + i * 6) x := by
        intro i hi0
        obtain ⟨cs', hc, ht⟩ := hi i (by omega)
        obtain ⟨_, hcl, hat⟩ := World.cells?_some hc
        rw [e2] at hcl hat
        obtain ⟨ys, n', _, hy, _, hyl, hf⟩ := DataW.trod_struct Tryd.underlying61 ht
        match cs', hcl with
        | [c0, c1, c2, c3, c4, c5], _ =>
        match ys, hyl with
        | [y0, y1, y2, y3, y4], _ =>
          have g0 : DataW.trod enc Tryd.prog W 0 (fun _ => true) true n' 3 [c0] = some y0 := by
            have := hf 0 _ rfl
            rwa [show Tryd.prog.cellsOf _ = 1 by kernel_rfl] at this
          have g1 : DataW.trod enc Tryd.prog W 0 (fun _ => true) true n' 3 [c1] = some y1 := by
            have := hf 1 _ rfl
            rwa [show Tryd.prog.cellsOf _ = 1 by kernel_rfl] at this
          have g2 : DataW.trod enc Tryd.prog W 0 (fun _ => true) true n' 3 [c2] = some y2 := by
            have := hf 2 _ rfl
            rwa [show Tryd.prog.cellsOf _ = 1 by kernel_rfl] at this
          have g3 : DataW.trod enc Tryd.prog W 0 (fun _ => true) true n' 9 [c3] = some y3 := by
            have := hf 3 _ rfl
            rwa [show Tryd.prog.cellsOf _ = 1 by kernel_rfl] at this
          have g4 : DataW.trod enc Tryd.prog W 0 (fun _ => true) true n' 24 [c4, c5] = some y4 := by
            have := hf 4 _ rfl
            rwa [show Tryd.prog.cellsOf _ = 2 by kernel_rfl] at this
          obtain ⟨zs, n'', _, hz, _, hzl, hg⟩ := DataW.trod_struct Tryd.underlying24 g4
          match zs, hzl with
          | [z0, z1], _ =>
          have k0 : DataW.trod enc Tryd.prog W 0 (fun _ => true) true n'' 3 [c4] = some z0 := by
            have := hg 0 _ rfl
            rwa [show Tryd.prog.cellsOf _ = 1 by kernel_rfl] at this
          have k1 : DataW.trod enc Tryd.prog W 0 (fun _ => true) true n'' 5 [c5] = some z1 := by
            have := hg 1 _ rfl
            rwa [show Tryd.prog.cellsOf _ = 1 by kernel_rfl] at this
          obtain ⟨a0, h0, _, _⟩ := DataW.trod_int Tryd.underlying3 g0
          obtain ⟨a1, h1, _, _⟩ := DataW.trod_int Tryd.underlying3 g1
          obtain ⟨a2, h2, _, _⟩ := DataW.trod_int Tryd.underlying3 g2
          obtain ⟨a3, h3, _⟩ := DataW.trod_string Tryd.underlying9 g3
          obtain ⟨a4, h4, _, _⟩ := DataW.trod_int Tryd.underlying3 k0
          obtain ⟨a5, h5, _, k5⟩ := DataW.trod_int Tryd.underlying5 k1
          obtain rfl : c0 = .int .i64 a0 := by simpa using h0
          obtain rfl : c1 = .int .i64 a1 := by simpa using h1
          obtain rfl : c2 = .int .i64 a2 := by simpa using h2
          obtain rfl : c3 = .string a3 := by simpa using h3
          obtain rfl : c4 = .int .i64 a4 := by simpa using h4
          obtain rfl : c5 = .int .u8 a5 := by simpa using h5
          obtain ⟨b, rfl⟩ := u8_of k5
          have hadd : ∀ j, (Addr.add ((⟨ab, ao, none⟩ : Addr).add (i * Tryd.prog.cellsOf 61)) j) = ⟨ab, ao + i * 6 + j, none⟩ := by
            intro j
            rw [e2]
            by_cases hi6 : i * 6 = 0 <;> by_cases hj : j = 0 <;> simp [Addr.add, hi6, hj]
          have hh := fun j (hj : j < 6) => (hadd j) ▸ (hat j hj)
          exact ⟨⟨a0, a1, a2, a3, a4, b⟩, hh 0 (by omega), hh 1 (by omega), hh 2 (by omega), hh 3 (by omega), hh 4 (by omega), hh 5 (by omega)⟩
      obtain ⟨f, hf⟩ := choose_pact hel
      have hlt : ab < W.heap.size := World.block_lt_of_cell? _ _ (hf 0 (by omega)).1
      refine ⟨(List.range len).map f, .inr ⟨ab, ao, cap, by simp, by simp; omega, by simp; unfold maxLen at hmx; omega, hlt, fun i hi => ?_⟩⟩
      have hil : i < len := by simpa using hi
      have : ((List.range len).map f).getD i pact0 = f i := by simp [List.getD_eq_getElem?_getD, hil]
      rw [this]
      exact hf i hil
end
end Go.Proofs.YtmblnacckboggaaDoor
