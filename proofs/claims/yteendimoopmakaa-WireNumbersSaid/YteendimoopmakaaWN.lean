/- WireNumbers: different numbers have different encodings, none of which begins another one; of two numbers of one sign the one with fewer bytes is nearer to 0. No condition of its own. -/
import Derived.Test.YteendimoopmakaaT10
import Derived.Test.YteendimoopmakaaM1
import Derived.Test.YteendimoopmakaaL1
namespace Go.Proofs.Yteendimoopmakaa.wireNumbers
open Go.ChangeShapes Go.WideShapes Go.ChangeAt Go.RowKit

theorem pre_false (A B : List UInt8) (k : Nat) (h : ∀ l, B = A ++ l → False) : (((⟨B.toArray⟩ : ByteArray).extract 0 k).toList == A) = false := by
  rw [beq_eq_false_iff_ne]
  intro e
  rw [ByteArray.toList_eq, ByteArray.data_extract] at e
  simp only [Array.toList_extract, List.extract, Nat.sub_zero, List.drop_zero] at e
  exact h (B.drop k) (by rw [← e]; exact (List.take_append_drop k B).symm)
theorem i64_rng {n : Int} (h : (Lit.int .i64 n).wf = true) : -9223372036854775808 ≤ n ∧ n ≤ 9223372036854775807 := by
  simp only [Lit.wf, Bool.and_eq_true, decide_eq_true_eq] at h
  have hmin : IntKind.i64.min = -9223372036854775808 := rfl
  have hmax : IntKind.i64.max = 9223372036854775807 := rfl
  omega

set_option maxRecDepth 100000 in
set_option maxHeartbeats 3200000 in
theorem walk (n m : Int) (hn : -9223372036854775808 ≤ n ∧ n ≤ 9223372036854775807) (hm : -9223372036854775808 ≤ m ∧ m ≤ 9223372036854775807) (w : World) :
    Calls Try.prog 3 #[.int .i64 n, .int .i64 m] w fun e w' => e = .returned (.bool true) ∧ Below w.heap.size w w' := by
  go_enter Try.func3, Try.ntmps3
  go_wp2_with fail
  refine (awake_any _).mono ?_
  rintro e w0 ⟨rfl, hb0⟩
  have hs0 := hb0.size
  go_wp2_with fail
  refine (newWriter_any _).mono ?_
  rintro e w1 ⟨rfl, hw1⟩
  have hA1 := wr_new0 w0
  rw [hw1] at hA1
  have hs1 : w0.heap.size < w1.heap.size := by rw [← hw1]; simp
  have hb1 : Below w0.heap.size w0 w1 := by rw [← hw1]; exact (Below.refl _ _).alloc (Nat.le_refl _) _
  clear hw1
  go_wp2_with fail
  refine (newWriter_any _).mono ?_
  rintro e w2 ⟨rfl, hw2⟩
  have hB2 := wr_new0 w1
  rw [hw2] at hB2
  have hs2 : w1.heap.size < w2.heap.size := by rw [← hw2]; simp
  have hb2 : Below w1.heap.size w1 w2 := by rw [← hw2]; exact (Below.refl _ _).alloc (Nat.le_refl _) _
  have hA2 := hA1.below hb2
  clear hw2 hA1
  go_wp2_with fail
  refine (Number_any n w0.heap.size w0.heap.size _ _ _ hn.1 hn.2 (by simp) hA2 (by omega)).mono ?_
  rintro e w3 ⟨rfl, va, hA3, hF3, ha3⟩
  have hs3 := hF3.size
  have hb3 : Below w0.heap.size w2 w3 := hF3.toBelow (by omega) (Nat.le_refl _) hA2.ownB
  have hB3 : WrAt w3 w1.heap.size w1.heap.size (.slice none 0 0) [] := by
    refine ⟨Fr.blk hF3 hB2.1 (by omega) (by simp [Value.ownBlock]), World.ownsRow_nil _ _ _ _⟩
  have hva : ∀ k, va.ownBlock = some k → w2.heap.size ≤ k := by
    intro k hk
    rcases ha3 with h | h
    · rw [h] at hk; cases hk
    · exact h k hk
  clear hA2 hB2 hF3 ha3
  go_wp2_with fail
  refine (Number_any m w1.heap.size w1.heap.size _ _ _ hm.1 hm.2 (by simp) hB3 (by omega)).mono ?_
  rintro e w4 ⟨rfl, vb, hB4, hF4, hb4'⟩
  have hs4 := hF4.size
  have hb4 : Below w0.heap.size w3 w4 := hF4.toBelow (by omega) (by omega) (fun k hk => by cases hk)
  have hA4 : WrAt w4 w0.heap.size w0.heap.size va ([] ++ numB n) := by
    refine ⟨Fr.blk hF4 hA3.1 (by omega) (by simp [Value.ownBlock]), hA3.2.kept (row := some w1.heap.size) ⟨hF4.os, hF4.tape, hF4.output, hF4.size, fun k hk hr => hF4.block k hk (fun e => hr (by rw [e])) (by simp [Value.ownBlock])⟩ (.inr fun e => ?_)⟩
    have := hva _ e; omega
  clear hB3 hF4 hb4' hA3 hva
  have hbw : Below w.heap.size w w4 := hb0.trans ((((hb1.trans (hb2.mono (by omega))).trans hb3).trans hb4).mono hs0)
  have hsw := hbw.size
  clear hb0 hb1 hb2 hb3 hb4 hs1 hs2 hs3 hs4 hs0
  rw [List.nil_append] at hA4 hB4
  have hsn := sizeN_cases n
  have hsm := sizeN_cases m
  have HN := Lib.hid (fun l => numB_free (n := n) (m := m) (l := []) (l' := l) hn hm)
  have HM := Lib.hid (fun l => numB_free (n := m) (m := n) (l := []) (l' := l) hm hn)
  have hla := numB_length n
  have hlb := numB_length m
  have HI := Lib.hid (fun h : numB n = numB m => numB_inj hn hm h)
  have HE := Lib.hid (fun h : n = m => congrArg numB h)
  have HL := Lib.hid (fun (h : sizeN n < sizeN m) => sizeN_lt h)
  generalize numB n = A at *
  generalize numB m = B at *
  go_wp2_with fail
  refine (text_any w0.heap.size w0.heap.size va _ w4 hA4).mono ?_
  rintro e w5 ⟨rfl, rfl⟩
  go_wp2_with fail
  refine (text_any w1.heap.size w1.heap.size vb _ _ hB4).mono ?_
  rintro e w6 ⟨rfl, rfl⟩
  clear hA4 hB4
  by_cases hnm : n = m
  · subst hnm
    obtain rfl := HE.out rfl
    clear hlb hsm HN HM HI HE HL
    go_wp2_with fail
    refine (size_any _ _ hn.1 hn.2).mono ?_
    rintro e w5 ⟨rfl, hb5⟩
    go_wp2_with fail
    refine (size_any _ _ hn.1 hn.2).mono ?_
    rintro e w6 ⟨rfl, hb6⟩
    go_wp2_with fail
    refine (size_any _ _ hn.1 hn.2).mono ?_
    rintro e w7 ⟨rfl, hb7⟩
    go_wp2_with fail
    refine (refSize_any _ _).mono ?_
    rintro e w8 ⟨rfl, rfl⟩
    have hbe := hbw.trans (((hb5.trans (hb6.mono hb5.size)).trans (hb7.mono (Nat.le_trans hb5.size hb6.size))).mono hsw)
    clear hb5 hb6 hb7 hbw
    go_wp2
    go_ret
    exact ⟨rfl, hbe⟩
  · have hAB : ¬ A = B := fun h => hnm (HI.out h)
    have e1 : (n == m) = false := by rw [beq_eq_false_iff_ne]; exact hnm
    have e2 : (n != m) = true := by rw [bne_iff_ne]; exact hnm
    have e3 : (A == B) = false := by rw [beq_eq_false_iff_ne]; exact hAB
    have HP := Lib.hid (fun _hle : sizeN n ≤ sizeN m => pre_false A B (sizeN n) fun l hl => hnm (HM.out l (by rw [List.append_nil]; exact hl)).1.symm)
    clear HI HE HM
    go_wp2_with fail
    refine (size_any _ _ hn.1 hn.2).mono ?_
    rintro e w5 ⟨rfl, hb5⟩
    go_wp2_with fail
    refine (size_any _ _ hm.1 hm.2).mono ?_
    rintro e w6 ⟨rfl, hb6⟩
    go_wp2_with fail
    refine (size_any _ _ hn.1 hn.2).mono ?_
    rintro e w7 ⟨rfl, hb7⟩
    go_wp2_with fail
    refine (refSize_any _ _).mono ?_
    rintro e w8 ⟨rfl, rfl⟩
    have hbe := hbw.trans (((hb5.trans (hb6.mono hb5.size)).trans (hb7.mono (Nat.le_trans hb5.size hb6.size))).mono hsw)
    clear hb5 hb6 hb7 hbw
    by_cases hle : sizeN n ≤ sizeN m
    · have hp := HP.out hle
      rcases (show (n < 0 ∧ m < 0) ∨ (0 ≤ n ∧ 0 ≤ m) ∨ (n < 0 ∧ 0 ≤ m) ∨ (0 ≤ n ∧ m < 0) by omega) with ⟨a1, a2⟩ | ⟨a1, a2⟩ | ⟨a1, a2⟩ | ⟨a1, a2⟩
      · by_cases hge : sizeN m ≤ sizeN n
        · clear HP HL HN
          go_wp2
          go_ret
          exact ⟨rfl, hbe⟩
        · have hf : m < n := by rcases HL.out (by omega) (by omega) with ⟨a, b⟩ | ⟨a, b⟩ <;> omega
          clear HP HL HN
          go_wp2
          go_ret
          exact ⟨by simp, hbe⟩
      · by_cases hge : sizeN m ≤ sizeN n
        · clear HP HL HN
          go_wp2
          go_ret
          exact ⟨rfl, hbe⟩
        · have hf : n < m := by rcases HL.out (by omega) (by omega) with ⟨a, b⟩ | ⟨a, b⟩ <;> omega
          clear HP HL HN
          go_wp2
          go_ret
          exact ⟨by simp, hbe⟩
      all_goals
        clear HP HL HN
        go_wp2
        go_ret
        exact ⟨rfl, hbe⟩
    · rcases (show (n < 0 ∧ m < 0) ∨ (0 ≤ n ∧ 0 ≤ m) ∨ (n < 0 ∧ 0 ≤ m) ∨ (0 ≤ n ∧ m < 0) by omega) with ⟨a1, a2⟩ | ⟨a1, a2⟩ | ⟨a1, a2⟩ | ⟨a1, a2⟩
      all_goals
        clear HP HL HN
        go_wp2
        go_ret
        exact ⟨rfl, hbe⟩

set_option maxRecDepth 100000 in
theorem lifted (os : Os) (started : os.Started) (H : Type) (enc : TypeId × Value → H) :
    ReturnsInHanded {} Try.checked os 3 .any (Rows.wireNumbersSpec.pre6 enc Try.prog Try.f3 Rows.wireNumbersRow.domain false) (Rows.wireNumbersSpec.post enc Try.prog Try.f3 false true false false) := by
  refine returnsInHanded_of_change (C := Try.checked) Try.own started (by kernel_rfl) Try.func3
    (ChangeSpec.witness6 (enc := enc) (C := Try.checked) false ⟨#[], #[.int .i64 0, .int .i64 0], []⟩ 8 (by kernel_rfl) (by kernel_rfl) (by kernel_rfl) (by kernel_rfl)) ?_
  intro W base args ds gs before hval0 hW _ _
  have hval : ∀ (j : Nat) t v, Try.f3.params[j]? = some t → args[j]? = some v → Value.okWide Try.prog W .any base t v := hval0
  have hW' := hW
  obtain ⟨p, q, hA0, hV, rfl, _, _⟩ := hW
  have hA : DataW.TrodAll enc Try.prog W 0 (fun _ => true) true Try.f3.params.toList args.toList ds p := hA0
  rw [Try.params3] at hA hval
  obtain ⟨v0, vs0, d0, ds0, p0, q0, hargs, rfl, rfl, h0, r0⟩ := trodAll_cons hA
  obtain ⟨v1, vs1, d1, ds1, p1, q1, rfl, rfl, rfl, h1, r1⟩ := trodAll_cons r0
  obtain ⟨rfl, rfl, rfl⟩ := trodAll_nil r1
  obtain rfl : args = #[v0, v1] := by cases args; simp_all
  obtain ⟨a0, rfl, rfl, rfl, w0⟩ := open_int Try.underlying2 (hval 0 2 v0 rfl rfl) h0
  obtain ⟨a1, rfl, rfl, rfl, w1⟩ := open_int Try.underlying2 (hval 1 2 v1 rfl rfl) h1
  clear hA0 hval0
  refine (walk a0 a1 (i64_rng w0) (i64_rng w1) W).mono fun e W' ⟨he, hb⟩ => ?_
  subst he
  exact ⟨_, rfl, post_law Try.laidOut rfl rfl Try.underlying4 rfl (by intro t ht; rw [Try.params3] at ht; simp at ht; rcases ht with rfl | rfl <;> exact ⟨by kernel_rfl, of_decide_eq_true (by kernel_rfl)⟩) hW' hb⟩

theorem over : Rows.wireNumbersRow.holds Try.pinned (OpenSpec.ofChange Rows.wireNumbersSpec) :=
  OpenClaim.holds_of_wide 3 Try.f3 rfl rfl rfl rfl rfl rfl rfl ⟨rfl, rfl, rfl, rfl, rfl⟩ rfl rfl rfl rfl rfl (by kernel_rfl) Try.func3 (by kernel_rfl)
    (of_decide_eq_true (by kernel_rfl)) (by unfold Func.isWrapper; first | (rw [if_pos (by decide +kernel)]; kernel_rfl) | (rw [if_neg (by decide +kernel)]; exact ⟨rfl, rfl⟩))
    (fun os started H enc _ => lifted os started H enc)

/-- THE STATEMENT. -/
theorem proved : Rows.WireNumbersSaid := over
#print axioms proved
end Go.Proofs.Yteendimoopmakaa.wireNumbers
