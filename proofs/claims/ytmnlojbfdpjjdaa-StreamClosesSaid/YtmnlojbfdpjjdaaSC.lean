/- StreamCloses: what was written ahead of a close can be read at the other end, block by block, and nothing more; then and at the closed end it is ErrCut. No condition of its own. -/
import Derived.Test.YtmnlojbfdpjjdaaC4
import Derived.Test.YtmnlojbfdpjjdaaL1
namespace Go.Proofs.Ytmnlojbfdpjjdaa.streamCloses
open Go.ChangeShapes Go.WideShapes Go.ChangeAt Go.RowKit
theorem cells9 : Try.prog.cellsOf 9 = 1 := by kernel_rfl
theorem u8_rng {n : Int} (h : (Lit.int .u8 n).wf = true) : 0 ≤ n ∧ n < 256 := by
  simp only [Lit.wf, Bool.and_eq_true, decide_eq_true_eq] at h
  have hmin : IntKind.u8.min = 0 := rfl
  have hmax : IntKind.u8.max = 255 := rfl
  omega
set_option maxRecDepth 100000 in
set_option maxHeartbeats 3200000 in
theorem lifted (os : Os) (started : os.Started) (H : Type) (enc : TypeId × Value → H) :
    ReturnsInHanded {} Try.checked os 3 .any (Rows.streamClosesSpec.pre6 enc Try.prog Try.f3 Rows.streamClosesRow.domain false) (Rows.streamClosesSpec.post enc Try.prog Try.f3 false true false false) := by
  refine returnsInHanded_of_change (C := Try.checked) Try.own started (by kernel_rfl) Try.func3
    (ChangeSpec.witness6 (enc := enc) (C := Try.checked) false ⟨#[], #[.slice none 0 0, .int .u8 0, .int .i64 0], []⟩ 8 (by kernel_rfl) (by kernel_rfl) (by kernel_rfl) (by kernel_rfl)) ?_
  intro W base args ds gs before hval0 hW _ _
  have hval : ∀ (j : Nat) t v, Try.f3.params[j]? = some t → args[j]? = some v → Value.okWide Try.prog W .any base t v := hval0
  have hW' := hW
  obtain ⟨p, q, hA0, hV, rfl, _, _⟩ := hW
  have hA : DataW.TrodAll enc Try.prog W 0 (fun _ => true) true Try.f3.params.toList args.toList ds p := hA0
  rw [Try.params3] at hA hval
  obtain ⟨v0, vs0, d0, ds0, p0, q0, hargs, rfl, rfl, h0, r0⟩ := trodAll_cons hA
  obtain ⟨v1, vs1, d1, ds1, p1, q1, rfl, rfl, rfl, h1, r1⟩ := trodAll_cons r0
  obtain ⟨v2, vs2, d2, ds2, p2, q2, rfl, rfl, rfl, h2, r2⟩ := trodAll_cons r1
  obtain ⟨rfl, rfl, rfl⟩ := trodAll_nil r2
  obtain rfl : args = #[v0, v1, v2] := by cases args; simp_all
  obtain ⟨a1, rfl, rfl, rfl, w1⟩ := open_int Try.underlying5 (hval 1 5 v1 rfl rfl) h1
  obtain ⟨a2, rfl, rfl, rfl, w2⟩ := open_int Try.underlying3 (hval 2 3 v2 rfl rfl) h2
  obtain ⟨ad, len, cp, rfl⟩ := okWide_slice Try.underlying22 (hval 0 22 v0 rfl rfl)
  obtain ⟨fuel, hf⟩ := h0
  have hu := u8_rng w1
  obtain ⟨x, rfl⟩ := Int.eq_ofNat_of_zero_le hu.1
  obtain ⟨bs, hS⟩ : ∃ bs, Strs W (.slice ad len cp) bs := by
    rcases open_strings Try.underlying22 Try.underlying9 cells9 hf with ⟨hcs, _⟩ | ⟨a, len', cap', ss, hcs, _, hl, hl2, hz, _, hcell, _⟩
    · change [Value.slice ad len cp] = _ at hcs
      simp only [List.cons.injEq, Value.slice.injEq, and_true] at hcs
      obtain ⟨rfl, rfl, rfl⟩ := hcs
      exact ⟨[], .inl ⟨rfl, rfl⟩⟩
    · change [Value.slice ad len cp] = _ at hcs
      simp only [List.cons.injEq, Value.slice.injEq, and_true] at hcs
      obtain ⟨rfl, rfl, rfl⟩ := hcs
      simp only [if_true] at hz
      have hln : (ss.take len).length = len := by simp; omega
      refine ⟨ss.take len, .inr ⟨a, cp, by rw [hln], by rw [hln]; exact hl, hl2, fun h0 => ?_, fun i hi => ?_⟩⟩
      · rw [hln] at h0
        have h1 := hcell 0 (by omega)
        rcases Nat.lt_or_ge a.block W.heap.size with hl3 | hl3
        · exact hl3
        · rw [← addBlk a 0] at hl3
          simp [World.cell?, Array.getElem?_eq_none hl3] at h1
      · rw [hln] at hi
        rw [hcell i (by omega)]
        simp [List.getD_eq_getElem?_getD, hi]
  clear hA0 hval0
  refine (closes_walk _ bs x (by omega) a2 W hS).mono fun e W' ⟨he, hb⟩ => ?_
  subst he
  exact ⟨_, rfl, post_law Try.laidOut rfl rfl Try.underlying4 rfl (by intro t ht; rw [Try.params3] at ht; rcases List.mem_cons.1 ht with rfl | ht <;> simp at ht <;> (try (rcases ht with rfl | rfl | rfl)) <;> exact ⟨by kernel_rfl, of_decide_eq_true (by kernel_rfl)⟩) hW' hb⟩
theorem over : Rows.streamClosesRow.holds Try.pinned (OpenSpec.ofChange Rows.streamClosesSpec) :=
  OpenClaim.holds_of_wide 3 Try.f3 rfl rfl rfl rfl rfl rfl rfl ⟨rfl, rfl, rfl, rfl, rfl⟩ rfl rfl rfl rfl rfl (by kernel_rfl) Try.func3 (by kernel_rfl)
    (of_decide_eq_true (by kernel_rfl)) (by unfold Func.isWrapper; first | (rw [if_pos (by decide +kernel)]; kernel_rfl) | (rw [if_neg (by decide +kernel)]; exact ⟨rfl, rfl⟩))
    (fun os started H enc _ => lifted os started H enc)
/-- THE STATEMENT. -/
theorem proved : Rows.StreamClosesSaid := over
#print axioms proved
end Go.Proofs.Ytmnlojbfdpjjdaa.streamCloses
