/- SecureChanges: every way; a slice of changes out of an argument. -/
import Derived.Test.YtmblnacckboggaaDoorPE
namespace Go.Proofs.YtmblnacckboggaaDoor
open Go.ChangeShapes Go.WideShapes Go.ChangeAt Go.RowKit Go.Deep
set_option maxRecDepth 100000 in
set_option maxHeartbeats 1600000 in
theorem changes_many (k : ByteArray) (sa ba : Option Addr) (sc bc : Nat) (ds : List ByteArray) (sp : List Spo) (fr to_ put : Int) (hk : k.size ≤ 200000000000000) (hds : ¬ ds.length ≤ 8) (w : World) (hT : Tabs w) :
    Calls Tryd.prog 5 #[.string k, .slice sa ds.length sc, .slice ba sp.length bc, .int .i64 fr, .int .i64 to_, .int .i64 put] w fun e w' => e = .returned (.bool true) ∧ Below w.heap.size w w' := by
  have CA := Lib.hid (awake_any w hT)
  have CO := Lib.hid (fun W => open_two k hk W)
  have d1 : (8 : Int) < ds.length := by omega
  clear hT hk
  go_enter Tryd.func5, Tryd.ntmps5
  go_wp2_with (first
    | (go_at_call 8; refine (CA.out).mono ?_; rintro e v1 ⟨rfl, hb1⟩; have B1 := Lib.hid hb1; clear hb1)
    | (go_at_call 13; refine (CO.out _).mono ?_; rintro e v2 ⟨g, l0, l1, w0, w1, rfl, _, hb2⟩; have B2 := Lib.hid (keepBelow B1.out hb2); clear hb2))
  go_ret
  exact ⟨rfl, B2.out⟩
set_option maxRecDepth 100000 in
set_option maxHeartbeats 1600000 in
theorem changes_by (k : ByteArray) (sa ba : Option Addr) (sc bc : Nat) (ds : List ByteArray) (sp : List Spo) (fr to_ put : Int) (hk : k.size ≤ 200000000000000) (hds : ds.length ≤ 8) (hsp : ¬ sp.length ≤ 10) (w : World) (hT : Tabs w) :
    Calls Tryd.prog 5 #[.string k, .slice sa ds.length sc, .slice ba sp.length bc, .int .i64 fr, .int .i64 to_, .int .i64 put] w fun e w' => e = .returned (.bool true) ∧ Below w.heap.size w w' := by
  have CA := Lib.hid (awake_any w hT)
  have CO := Lib.hid (fun W => open_two k hk W)
  have d1 : decide ((8 : Int) < ds.length) = false := decide_eq_false (by omega)
  have d2 : (10 : Int) < sp.length := by omega
  clear hT hk
  go_enter Tryd.func5, Tryd.ntmps5
  go_wp2_with (first
    | (go_at_call 8; refine (CA.out).mono ?_; rintro e v1 ⟨rfl, hb1⟩; have B1 := Lib.hid hb1; clear hb1)
    | (go_at_call 13; refine (CO.out _).mono ?_; rintro e v2 ⟨g, l0, l1, w0, w1, rfl, _, hb2⟩; have B2 := Lib.hid (keepBelow B1.out hb2); clear hb2))
  go_ret
  exact ⟨rfl, B2.out⟩
theorem changes_any (k : ByteArray) (sv bv : Value) (ds : List ByteArray) (sp : List Spo) (fr to_ put : Int) (hk : k.size ≤ 200000000000000) (w : World) (hS : Strs w sv ds) (hC : Spls w bv sp) (hT : Tabs w) :
    Calls Tryd.prog 5 #[.string k, sv, bv, .int .i64 fr, .int .i64 to_, .int .i64 put] w fun e w' => e = .returned (.bool true) ∧ Below w.heap.size w w' := by
  obtain ⟨sa, sc, rfl⟩ := hS.form
  obtain ⟨ba, bc, rfl⟩ := hC.form
  by_cases h1 : ds.length ≤ 8
  · by_cases h2 : sp.length ≤ 10
    · exact changes_ok k sa ba sc bc ds sp fr to_ put hk h1 h2 w hS hC hT
    · exact changes_by k sa ba sc bc ds sp fr to_ put hk h1 h2 w hT
  · exact changes_many k sa ba sc bc ds sp fr to_ put hk h1 w hT
section
variable {H : Type} {enc : TypeId × Value → H} {W : World}
theorem choose_spo {n : Nat} {P : Nat → Spo → Prop} (h : ∀ i, i < n → ∃ x, P i x) : ∃ f : Nat → Spo, ∀ i, i < n → P i (f i) := by
  refine ⟨fun i => if hi : i < n then Classical.choose (h i hi) else spo0, fun i hi => ?_⟩
  simp only [hi, dite_true]
  exact Classical.choose_spec (h i hi)
set_option maxRecDepth 100000 in
theorem open_spls {n : Nat} {v : Value} {y : DataW H × List MemPlace} (h : DataW.trod enc Tryd.prog W 0 (fun _ => true) true n 51 [v] = some y) : ∃ l, Spls W v l := by
  rcases open_slice Tryd.underlying51 h with ⟨h1, _⟩ | ⟨a, len, cap, m, k, D, Pl, h1, _, hl, hmx, hm, _, hi⟩
  · obtain rfl : v = .slice none 0 0 := by simpa using h1
    exact ⟨[], .inl ⟨rfl, _, _, rfl⟩⟩
  · obtain rfl : v = .slice (some a) len cap := by simpa using h1
    have hm' : m = cap := by simpa using hm
    by_cases h0 : len = 0
    · subst h0; exact ⟨[], .inl ⟨rfl, _, _, rfl⟩⟩
    · have e2 : Tryd.prog.cellsOf 24 = 2 := by kernel_rfl
      have hsp : a.spot = none := by
        obtain ⟨cs', hc, _⟩ := hi 0 (by omega)
        obtain ⟨_, hcl, hat⟩ := World.cells?_some hc
        rw [e2] at hcl hat
        have h00 := hat 0 (by omega)
        rw [List.getElem?_eq_getElem (by omega)] at h00
        have := World.cell?_spot h00
        simpa [Addr.add] using this
      obtain ⟨ab, ao, asp⟩ := a
      dsimp only at hsp
      subst hsp
      have hel : ∀ i, i < len → ∃ x : Spo, W.cell? ⟨ab, ao + i * 2, none⟩ = some (.int .i64 x.1) ∧ W.cell? ⟨ab, ao + i * 2 + 1, none⟩ = some (.int .u8 (x.2.toNat : Nat)) := by
        intro i hi0
        obtain ⟨cs', hc, ht⟩ := hi i (by omega)
        obtain ⟨_, hcl, hat⟩ := World.cells?_some hc
        rw [e2] at hcl hat
        obtain ⟨ys, n', _, hy, _, hyl, hf⟩ := DataW.trod_struct Tryd.underlying24 ht
        match cs', hcl with
        | [c0, c1], _ =>
        match ys, hyl with
        | [y0, y1], _ =>
          have g0 : DataW.trod enc Tryd.prog W 0 (fun _ => true) true n' 3 [c0] = some y0 := by
            have := hf 0 _ rfl
            rwa [show Tryd.prog.cellsOf _ = 1 by kernel_rfl] at this
          have g1 : DataW.trod enc Tryd.prog W 0 (fun _ => true) true n' 5 [c1] = some y1 := by
            have := hf 1 _ rfl
            rwa [show Tryd.prog.cellsOf _ = 1 by kernel_rfl] at this
          obtain ⟨a0, h0, _, _⟩ := DataW.trod_int Tryd.underlying3 g0
          obtain ⟨a1, h1, _, k1⟩ := DataW.trod_int Tryd.underlying5 g1
          obtain rfl : c0 = .int .i64 a0 := by simpa using h0
          obtain rfl : c1 = .int .u8 a1 := by simpa using h1
          obtain ⟨b, rfl⟩ := u8_of k1
          have hadd : ∀ j, (Addr.add ((⟨ab, ao, none⟩ : Addr).add (i * Tryd.prog.cellsOf 24)) j) = ⟨ab, ao + i * 2 + j, none⟩ := by
            intro j
            rw [e2]
            by_cases hi6 : i * 2 = 0 <;> by_cases hj : j = 0 <;> simp [Addr.add, hi6, hj]
          have hh := fun j (hj : j < 2) => (hadd j) ▸ (hat j hj)
          exact ⟨(a0, b), hh 0 (by omega), hh 1 (by omega)⟩
      obtain ⟨f, hf⟩ := choose_spo hel
      have hlt : ab < W.heap.size := World.block_lt_of_cell? _ _ (hf 0 (by omega)).1
      refine ⟨(List.range len).map f, .inr ⟨ab, ao, cap, by simp, by simp; omega, by simp; unfold maxLen at hmx; omega, hlt, fun i hi => ?_⟩⟩
      have hil : i < len := by simpa using hi
      have : ((List.range len).map f).getD i spo0 = f i := by simp [List.getD_eq_getElem?_getD, hil]
      rw [this]
      exact hf i hil
end
end Go.Proofs.YtmblnacckboggaaDoor
