/- Equal of two rows of strings. -/
import Derived.Test.YtmnlojbfdpjjdaaB8
namespace Go.Proofs.Ytmnlojbfdpjjdaa
open Go.RowKit
theorem str_ne {a b : ByteArray} (h : a ≠ b) : (a.toList == b.toList) = false := by
  rw [beq_eq_false_iff_ne, ByteArray.toList_eq, ByteArray.toList_eq]
  intro e
  exact h (ByteArray.ext (Array.toList_inj.1 e))
theorem str_eq (a : ByteArray) : (a.toList == a.toList) = true := beq_self_eq_true _
set_option maxRecDepth 100000 in
set_option maxHeartbeats 800000 in
theorem equal_any (va vb : Value) (a b : List ByteArray) (w : World) (ha : Row w 9 1 va a.length (strC a)) (hb : Row w 9 1 vb b.length (strC b)) (hl : a.length ≤ 100000) :
    Calls Try.prog 28 #[va, vb] w fun e w' => e = .returned (.bool (decide (a = b))) ∧ Below w.heap.size w w' := by
  obtain ⟨aa, ca, hva, h1, h2⟩ := ha.form
  obtain ⟨ab, cb, hvb, h3, h4⟩ := hb.form
  unfold maxLen at h2 h4
  by_cases hlen : a.length = b.length
  · by_cases hn : 0 < a.length
    · obtain ⟨g1, o1, c1, e1, _, _, hg1, hc1, _⟩ := ha.open hn
      obtain ⟨g2, o2, c2, e2, _, _, hg2, hc2, _⟩ := hb.open (by omega)
      clear hva hvb
      subst e1 e2
      have HA := Lib.hid hc1
      have HB := Lib.hid hc2
      have HL := Lib.hid hlen
      have hlb : b.length ≤ 100000 := by omega
      have hnel : ((a.length : Int) != (b.length : Int)) = false := by rw [hlen]; simp
      clear ha hb hc1 hc2 hlen
      go_enter Try.func28, Try.ntmps28
      go_wp2_with fail
      go_loopw [13] (fun i wr => ∃ m : Nat, m ≤ a.length ∧ i = .int .i64 m ∧ (∀ j, j < m → a.getD j ByteArray.empty = b.getD j ByteArray.empty) ∧ Below w.heap.size w wr) (fun i _ => a.length - (intOf i).toNat)
      case atStart => exact ⟨0, by omega, rfl, fun j hj => by omega, Below.refl _ _⟩
      case round =>
        obtain ⟨m, hm, rfl, hno, hbl⟩ := hrel
        have HN := Lib.hid hno
        have HBL := Lib.hid hbl
        by_cases hlt : m < a.length
        · have x1 : wr.cell? ⟨g1, o1 + m, none⟩ = some (.string (a.getD m ByteArray.empty)) := by rw [hbl.cell (p := ⟨g1, o1 + m, none⟩) hg1, HA.out m (by omega), strC_get a m hlt]
          have x2 : wr.cell? ⟨g2, o2 + m, none⟩ = some (.string (b.getD m ByteArray.empty)) := by rw [hbl.cell (p := ⟨g2, o2 + m, none⟩) hg2, HB.out m (by have := HL.out; omega), strC_get b m (by have := HL.out; omega)]
          have hmb : m < b.length := by have := HL.out; omega
          clear hno hbl
          obtain ⟨sa, hsa⟩ : ∃ s, s = a.getD m ByteArray.empty := ⟨_, rfl⟩
          obtain ⟨sb, hsb⟩ : ∃ s, s = b.getD m ByteArray.empty := ⟨_, rfl⟩
          rw [← hsa] at x1
          rw [← hsb] at x2
          have HSA := Lib.hid hsa
          have HSB := Lib.hid hsb
          clear hsa hsb
          by_cases he : sa = sb
          · subst he
            go_upto_region 6 with fail
            go_quiet (fail)
            go_wp2_with fail
            exact ⟨⟨m + 1, by omega, rfl, fun j hj => by
              by_cases e : j = m
              · rw [e, ← HSA.out, ← HSB.out]
              · exact HN.out j (by omega), belowN HBL.out _⟩, by simp [intOf]; omega⟩
          · have hne : (sa.toList == sb.toList) = false := str_ne he
            have HR := Lib.hid (show decide (a = b) = false from decide_eq_false fun e => he (by rw [HSA.out, HSB.out, e]))
            go_upto_region 6 with fail
            go_quiet (fail)
            go_wp2_with fail
            go_ret
            exact ⟨by rw [HR.out]; rfl, belowN HBL.out _⟩
        · obtain rfl : m = a.length := by omega
          have HR := Lib.hid (show decide (a = b) = true from decide_eq_true (List.ext_getElem HL.out fun j h1 h2 => by
            have := HN.out j h1
            rw [List.getD_eq_getElem?_getD, List.getElem?_eq_getElem h1, List.getD_eq_getElem?_getD, List.getElem?_eq_getElem h2] at this
            exact this))
          clear hno hbl
          go_wp2_with fail
          go_ret
          exact ⟨by rw [HR.out]; rfl, HBL.out⟩
    · obtain rfl : a = [] := List.eq_nil_of_length_eq_zero (by omega)
      obtain rfl : b = [] := List.eq_nil_of_length_eq_zero (by simpa using hlen.symm)
      subst hva hvb
      clear ha hb hlen hn
      go_enter Try.func28, Try.ntmps28
      go_wp2_with fail
      go_loopw [13] (fun i wr => i = .int .i64 0 ∧ wr = w) (fun i _ => 0)
      case atStart => exact ⟨rfl, rfl⟩
      case round =>
        obtain ⟨rfl, rfl⟩ := hrel
        go_wp2_with fail
        go_ret
        exact ⟨rfl, Below.refl _ _⟩
  · have hnel : ((a.length : Int) != (b.length : Int)) = true := by rw [bne_iff_ne]; omega
    have HR := Lib.hid (show decide (a = b) = false from decide_eq_false fun e => hlen (by rw [e]))
    rw [HR.out]
    subst hva hvb
    clear ha hb hlen
    go_enter Try.func28, Try.ntmps28
    go_wp2_with fail
    go_ret
    exact ⟨rfl, Below.refl _ _⟩
end Go.Proofs.Ytmnlojbfdpjjdaa
