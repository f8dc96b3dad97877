/- StreamNil: a nil pipe returns ErrState and zero values. No condition of its own. -/
import Derived.Test.YtmnlojbfdpjjdaaD3
import Derived.Test.YtmnlojbfdpjjdaaL1
namespace Go.Proofs.Ytmnlojbfdpjjdaa.streamNil
open Go.ChangeShapes Go.WideShapes Go.ChangeAt Go.RowKit
set_option maxRecDepth 100000 in
theorem open_act {H : Type} {enc : TypeId × Value → H} {W : World} {n : Nat} {cs : List Value} {y : DataW H × List MemPlace} (hlen : cs.length = 6) (h : DataW.trod enc Try.prog W 0 (fun _ => true) true n 44 cs = some y) :
    ∃ (k t ok of_ oc : Int) (od : ByteArray), cs = [.int .i64 k, .int .i64 t, .int .i64 ok, .int .i64 of_, .int .i64 oc, .string od] := by
  obtain ⟨ys, n', _, hy, _, hyl, hf⟩ := DataW.trod_struct Try.underlying44 h
  match cs, hlen with
  | [c0, c1, c2, c3, c4, c5], _ =>
  match ys, hyl with
  | [y0, y1, y2], _ =>
    have g0 : DataW.trod enc Try.prog W 0 (fun _ => true) true n' 3 [c0] = some y0 := by
      have := hf 0 _ rfl
      rwa [show Try.prog.cellsOf _ = 1 by kernel_rfl] at this
    have g1 : DataW.trod enc Try.prog W 0 (fun _ => true) true n' 3 [c1] = some y1 := by
      have := hf 1 _ rfl
      rwa [show Try.prog.cellsOf _ = 1 by kernel_rfl] at this
    have g2 : DataW.trod enc Try.prog W 0 (fun _ => true) true n' 42 [c2, c3, c4, c5] = some y2 := by
      have := hf 2 _ rfl
      rwa [show Try.prog.cellsOf _ = 4 by kernel_rfl] at this
    obtain ⟨zs, n2, _, hz, _, hzl, hg⟩ := DataW.trod_struct Try.underlying42 g2
    match zs, hzl with
    | [z0, z1, z2, z3], _ =>
      have k0 : DataW.trod enc Try.prog W 0 (fun _ => true) true n2 3 [c2] = some z0 := by
        have := hg 0 _ rfl
        rwa [show Try.prog.cellsOf _ = 1 by kernel_rfl] at this
      have k1 : DataW.trod enc Try.prog W 0 (fun _ => true) true n2 3 [c3] = some z1 := by
        have := hg 1 _ rfl
        rwa [show Try.prog.cellsOf _ = 1 by kernel_rfl] at this
      have k2 : DataW.trod enc Try.prog W 0 (fun _ => true) true n2 3 [c4] = some z2 := by
        have := hg 2 _ rfl
        rwa [show Try.prog.cellsOf _ = 1 by kernel_rfl] at this
      have k3 : DataW.trod enc Try.prog W 0 (fun _ => true) true n2 9 [c5] = some z3 := by
        have := hg 3 _ rfl
        rwa [show Try.prog.cellsOf _ = 1 by kernel_rfl] at this
      obtain ⟨a0, h0, _, _⟩ := DataW.trod_int Try.underlying3 g0
      obtain ⟨a1, h1, _, _⟩ := DataW.trod_int Try.underlying3 g1
      obtain ⟨a2, h2, _, _⟩ := DataW.trod_int Try.underlying3 k0
      obtain ⟨a3, h3, _, _⟩ := DataW.trod_int Try.underlying3 k1
      obtain ⟨a4, h4, _, _⟩ := DataW.trod_int Try.underlying3 k2
      obtain ⟨a5, h5, _, _⟩ := DataW.trod_string Try.underlying9 k3
      obtain rfl : c0 = .int .i64 a0 := by simpa using h0
      obtain rfl : c1 = .int .i64 a1 := by simpa using h1
      obtain rfl : c2 = .int .i64 a2 := by simpa using h2
      obtain rfl : c3 = .int .i64 a3 := by simpa using h3
      obtain rfl : c4 = .int .i64 a4 := by simpa using h4
      obtain rfl : c5 = .string a5 := by simpa using h5
      exact ⟨a0, a1, a2, a3, a4, a5, rfl⟩
set_option maxRecDepth 100000 in
set_option maxHeartbeats 3200000 in
theorem lifted (os : Os) (started : os.Started) (H : Type) (enc : TypeId × Value → H) :
    ReturnsInHanded {} Try.checked os 7 .any (Rows.streamNilSpec.pre6 enc Try.prog Try.f7 Rows.streamNilRow.domain false) (Rows.streamNilSpec.post enc Try.prog Try.f7 false true false false) := by
  refine returnsInHanded_of_change (C := Try.checked) Try.own started (by kernel_rfl) Try.func7
    (ChangeSpec.witness6 (enc := enc) (C := Try.checked) false ⟨#[], #[.agg #[.int .i64 0, .int .i64 0, .int .i64 0, .int .i64 0, .int .i64 0, .string ⟨#[]⟩]], []⟩ 8 (by kernel_rfl) (by kernel_rfl) (by kernel_rfl) (by kernel_rfl)) ?_
  intro W base args ds gs before hval0 hW _ _
  have hval : ∀ (j : Nat) t v, Try.f7.params[j]? = some t → args[j]? = some v → Value.okWide Try.prog W .any base t v := hval0
  have hW' := hW
  obtain ⟨p, q, hA0, hV, rfl, _, _⟩ := hW
  have hA : DataW.TrodAll enc Try.prog W 0 (fun _ => true) true Try.f7.params.toList args.toList ds p := hA0
  rw [Try.params7] at hA hval
  obtain ⟨v0, vs0, d0, ds0, p0, q0, hargs, rfl, rfl, h0, r0⟩ := trodAll_cons hA
  obtain ⟨rfl, rfl, rfl⟩ := trodAll_nil r0
  obtain rfl : args = #[v0] := by cases args; simp_all
  obtain ⟨cs, rfl, hsz⟩ := okWide_struct Try.underlying44 (hval 0 44 v0 rfl rfl)
  obtain ⟨fuel, hf⟩ := h0
  obtain ⟨l⟩ := cs
  rw [show Try.prog.cellsOf 44 = 6 by kernel_rfl] at hsz
  obtain ⟨k, t, ok, of_, oc, od, rfl⟩ := open_act (cs := l) hsz hf
  clear hA0 hval0
  refine (nil_walk k t ok of_ oc od W).mono fun e W' ⟨he, hb⟩ => ?_
  subst he
  exact ⟨_, rfl, post_law Try.laidOut rfl rfl Try.underlying4 rfl (by intro t ht; rw [Try.params7] at ht; rcases List.mem_cons.1 ht with rfl | ht <;> simp at ht <;> (try (rcases ht with rfl)) <;> exact ⟨by kernel_rfl, of_decide_eq_true (by kernel_rfl)⟩) hW' hb⟩
theorem over : Rows.streamNilRow.holds Try.pinned (OpenSpec.ofChange Rows.streamNilSpec) :=
  OpenClaim.holds_of_wide 7 Try.f7 rfl rfl rfl rfl rfl rfl rfl ⟨rfl, rfl, rfl, rfl, rfl⟩ rfl rfl rfl rfl rfl (by kernel_rfl) Try.func7 (by kernel_rfl)
    (of_decide_eq_true (by kernel_rfl)) (by unfold Func.isWrapper; first | (rw [if_pos (by decide +kernel)]; kernel_rfl) | (rw [if_neg (by decide +kernel)]; exact ⟨rfl, rfl⟩))
    (fun os started H enc _ => lifted os started H enc)
/-- THE STATEMENT. -/
theorem proved : Rows.StreamNilSaid := over
#print axioms proved
end Go.Proofs.Ytmnlojbfdpjjdaa.streamNil
