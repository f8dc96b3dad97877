/- DigestSigns: a signature belongs to its key and its message; whether any other one does is as the definition says. No condition beyond the laid tables. -/
import Derived.Test.YtklikkmnemooeaaDoorV3
import Derived.Test.YtklikkmnemooeaaDoorL2
import Derived.SevenTiedAt
import Derived.Lib.SmallJoins
import Derived.Deep.Fields
namespace Go.Proofs.YtklikkmnemooeaaDoor.digestSigns
open Go.ChangeShapes Go.WideShapes Go.ChangeAt Go.RowKit
section
open Go.Joins Go.Deep
variable {H : Type} {enc : TypeId × Value → H} {P : Program} {w : World} {base : Nat} {spare : Nat → Bool} {held : Bool}
theorem open_agg7 {r : Reach} {b0 : Nat} {t : TypeId} {f0 f1 f2 f3 f4 f5 f6 : Field} {v : Value} {d : DataW H} {p : List MemPlace} (hs : P.underlying t = some (.struct #[f0, f1, f2, f3, f4, f5, f6])) (hone : Deep.oneCellFields P #[f0, f1, f2, f3, f4, f5, f6] = true) (hC : P.cellsOf t = 7)
    (hv : Value.okWide P w r b0 t v) (h : DataW.Trod enc P w base spare held t v d p) :
    ∃ (v0 v1 v2 v3 v4 v5 v6 : Value) (y0 y1 y2 y3 y4 y5 y6 : DataW H × List MemPlace) (n : Nat), v = .agg #[v0, v1, v2, v3, v4, v5, v6] ∧ DataW.trod enc P w base spare held n f0.type [v0] = some y0 ∧ DataW.trod enc P w base spare held n f1.type [v1] = some y1 ∧ DataW.trod enc P w base spare held n f2.type [v2] = some y2 ∧ DataW.trod enc P w base spare held n f3.type [v3] = some y3 ∧ DataW.trod enc P w base spare held n f4.type [v4] = some y4 ∧ DataW.trod enc P w base spare held n f5.type [v5] = some y5 ∧ DataW.trod enc P w base spare held n f6.type [v6] = some y6 := by
  obtain ⟨cs, rfl, hsz⟩ := okWide_struct hs hv
  obtain ⟨l⟩ := cs
  match l, hsz.trans hC with
  | [c0, c1, c2, c3, c4, c5, c6], _ =>
    obtain ⟨fuel, hf⟩ := h
    obtain ⟨xs, n, _, hx, _, hlen, hg⟩ := DataW.trod_struct hs hf
    obtain ⟨o0, k0⟩ := Deep.hone_of hone 0 f0 rfl
    obtain ⟨o1, k1⟩ := Deep.hone_of hone 1 f1 rfl
    obtain ⟨o2, k2⟩ := Deep.hone_of hone 2 f2 rfl
    obtain ⟨o3, k3⟩ := Deep.hone_of hone 3 f3 rfl
    obtain ⟨o4, k4⟩ := Deep.hone_of hone 4 f4 rfl
    obtain ⟨o5, k5⟩ := Deep.hone_of hone 5 f5 rfl
    obtain ⟨o6, k6⟩ := Deep.hone_of hone 6 f6 rfl
    match xs, hlen with
    | [y0, y1, y2, y3, y4, y5, y6], _ =>
      exact ⟨c0, c1, c2, c3, c4, c5, c6, y0, y1, y2, y3, y4, y5, y6, n, rfl, by simpa [Value.cells, o0, k0] using hg 0 f0 rfl, by simpa [Value.cells, o1, k1] using hg 1 f1 rfl, by simpa [Value.cells, o2, k2] using hg 2 f2 rfl, by simpa [Value.cells, o3, k3] using hg 3 f3 rfl, by simpa [Value.cells, o4, k4] using hg 4 f4 rfl, by simpa [Value.cells, o5, k5] using hg 5 f5 rfl, by simpa [Value.cells, o6, k6] using hg 6 f6 rfl⟩
end
set_option maxRecDepth 100000 in
set_option maxHeartbeats 3200000 in
theorem lifted (os : Os) (started : os.Started) (H : Type) (enc : TypeId × Value → H) :
    ReturnsInHanded {} Tryd.checked os 10 .any (fun w args => (Rows.digestSignsSpec.pre enc Tryd.prog Tryd.f10 [] false w args ∧ laidMetH Tryd.prog laid2 w) ∧ sizedMet enc Tryd.prog Tryd.f10 (OpenSpec.ofChange Rows.digestSignsSpec) false w args)
      (Rows.digestSignsSpec.post enc Tryd.prog Tryd.f10 false true false false) := by
  refine returnsInHanded_of_change_and (C := Tryd.checked) (X := fun w _ => laidMetH Tryd.prog laid2 w) (fun _ _ _ hh h => h.of_heap hh) Tryd.own started (by kernel_rfl) Tryd.func10
    (ChangeSpec.witness_shaped (enc := enc) (C := Tryd.checked) (os := os) (X := fun w _ => laidMetH Tryd.prog laid2 w) false (World.doorLaid Tryd.prog 400 os) #[.agg #[.int .i64 0, .int .i64 0, .string ⟨#[]⟩, .int .i64 0, .int .i64 0, .int .i64 0, .string ⟨#[]⟩]] 8 rfl (World.shaped_of_RefB (by kernel_rfl) (by kernel_rfl)) (by kernel_rfl) (by kernel_rfl) (by kernel_rfl) (door_met os _)) ?_
  intro W base args ds gs before hval0 hW _ _ hL _
  have hval : ∀ (j : Nat) t v, Tryd.f10.params[j]? = some t → args[j]? = some v → Value.okWide Tryd.prog W .any base t v := hval0
  have hW' := hW
  obtain ⟨p, q, hA0, hV, rfl, _, _⟩ := hW
  have hA : DataW.TrodAll enc Tryd.prog W 0 (fun _ => true) true Tryd.f10.params.toList args.toList ds p := hA0
  rw [Tryd.params10] at hA hval
  obtain ⟨v0, vs0, d0, ds0, p0, q0, hargs, rfl, rfl, h0, r0⟩ := trodAll_cons hA
  obtain ⟨rfl, rfl, rfl⟩ := trodAll_nil r0
  obtain rfl : args = #[v0] := by cases args; simp_all
  obtain ⟨b0, b1, b2, b3, b4, b5, b6, y0, y1, y2, y3, y4, y5, y6, n, rfl, g0, g1, g2, g3, g4, g5, g6⟩ := open_agg7 Tryd.underlying56 (by kernel_rfl) (by kernel_rfl) (hval 0 56 v0 rfl rfl) h0
  obtain ⟨a0, e0, _, _⟩ := DataW.trod_int Tryd.underlying3 g0
  obtain rfl : b0 = .int .i64 a0 := by simpa using e0
  obtain ⟨a1, e1, _, _⟩ := DataW.trod_int Tryd.underlying3 g1
  obtain rfl : b1 = .int .i64 a1 := by simpa using e1
  obtain ⟨s, e2, _, _⟩ := DataW.trod_string Tryd.underlying9 g2
  obtain rfl : b2 = .string s := by simpa using e2
  obtain ⟨a3, e3, _, _⟩ := DataW.trod_int Tryd.underlying3 g3
  obtain rfl : b3 = .int .i64 a3 := by simpa using e3
  obtain ⟨a4, e4, _, _⟩ := DataW.trod_int Tryd.underlying3 g4
  obtain rfl : b4 = .int .i64 a4 := by simpa using e4
  obtain ⟨a5, e5, _, _⟩ := DataW.trod_int Tryd.underlying3 g5
  obtain rfl : b5 = .int .i64 a5 := by simpa using e5
  obtain ⟨o, e6, _, _⟩ := DataW.trod_string Tryd.underlying9 g6
  obtain rfl : b6 = .string o := by simpa using e6
  clear hA0 hval0
  refine (signs_walk a0 a1 a3 a4 a5 s o W (tabs_of hL)).mono fun e W' ⟨he, hb⟩ => ?_
  subst he
  exact ⟨_, rfl, post_law Tryd.laidOut rfl rfl Tryd.underlying4 rfl (by intro t ht; rw [Tryd.params10] at ht; rcases List.mem_cons.1 ht with rfl | ht <;> simp at ht <;> (try (rcases ht with rfl)) <;> exact ⟨by kernel_rfl, of_decide_eq_true (by kernel_rfl)⟩) hW' hb⟩
theorem over : Rows.digestSignsRow.holds Tryd.pinned (OpenSpec.ofChange Rows.digestSignsSpec) :=
  OpenClaim.holds_of_wide 10 Tryd.f10 rfl rfl rfl rfl rfl rfl rfl ⟨rfl, rfl, rfl, rfl, rfl⟩ rfl rfl rfl rfl rfl (by kernel_rfl) Tryd.func10 (by kernel_rfl)
    (of_decide_eq_true (by kernel_rfl)) (by unfold Func.isWrapper; first | (rw [if_pos (by decide +kernel)]; kernel_rfl) | (rw [if_neg (by decide +kernel)]; exact ⟨rfl, rfl⟩))
    (fun os started H enc _ => lifted os started H enc)
/-- THE STATEMENT: the tied card. -/
theorem proved : Rows.DigestSignsCardSaid :=
  Claim7.holds_tied_plain_at .later [] [.data, .data] true (true, "41d57a7049d0c7bc141ad1bb89016d821d415bc04ddcba425425d0ff7aa01ea2") false
    over (fun _ h => by cases h) (by kernel_rfl) (fun _ h => by cases h) digestSigns_row_tie rfl ⟨rfl, rfl⟩ (by kernel_rfl) rfl
    (fun f fn hf hfn => by
      obtain rfl : f = 10 := Option.some.inj ((show Tryd.prog.funcNamed "acheron/acheronlaw03.DigestSigns" = some 10 by kernel_rfl).symm.trans hf) |>.symm
      obtain rfl : fn = Tryd.f10 := (Option.some.inj (Tryd.func10.symm.trans hfn)).symm
      exact ⟨by kernel_rfl, fun j t ht => by
        rw [Tryd.params10] at ht
        have hm : t ∈ [56] := by simpa using Array.mem_of_getElem? ht
        have hall : ([56].all fun u => !Tryd.prog.wantsStandIn u) = true := by kernel_rfl
        exact (show Tryd.prog.wantsStandIn t = false by simpa using List.all_eq_true.1 hall t hm)⟩)
    (by kernel_rfl)
#print axioms proved
end Go.Proofs.YtklikkmnemooeaaDoor.digestSigns
