/- Clone of a row of strings; Blocks. -/
import Derived.Test.YtmnlojbfdpjjdaaB6
namespace Go.Proofs.Ytmnlojbfdpjjdaa
open Go.RowKit
attribute [local go_sem] Oper.semAt_some
attribute [local go_sem ↓] run_appSem
set_option maxRecDepth 100000 in
theorem clone_any (sv : Value) (q : List ByteArray) (w : World) (hr : Row w 9 1 sv q.length (strC q)) (hq : q.length ≤ 100000) :
    Calls Try.prog 43 #[sv] w fun e w' => ∃ v, e = .returned v ∧ Row w' 9 1 v q.length (strC q) ∧ Below w.heap.size w w' ∧ ∀ k, v.ownBlock = some k → w.heap.size ≤ k := by
  have hnil : ∀ (a : Option Addr) (n c : Nat) (W : World), (binOp .eql 22 (.slice a n c) (.slice none 0 0)).run Try.prog W = .ok (.bool a.isNone) W := fun a n c W => Lib.run_eql_slice_nil W 22 9 a n c 0 0 Try.underlying22
  rcases hr.2 with ⟨rfl, hn⟩ | ⟨g, off, cap, cs, rfl, hh, h1, h2, h3, h4⟩
  · go_enter Try.func43, Try.ntmps43
    go_wp2_with fail
    go_ret
    exact ⟨_, rfl, hr, Below.refl _ _, fun k hk => by cases hk⟩
  · obtain ⟨i0, hi, hz0, hz1, hz2⟩ := info_parts Try.info9
    have hgl : g < w.heap.size := (Array.getElem?_eq_some_iff.1 hh).1
    have hr0 : Row (w.alloc (.cells #[] 9)) 9 1 (.slice (some ⟨w.heap.size, 0, none⟩) 0 0) 0 [] := ⟨rfl, .inr ⟨w.heap.size, 0, 0, #[], rfl, heap_alloc_new w _, Nat.le_refl _, Nat.zero_le _, Nat.zero_le _, fun j hj => by omega⟩⟩
    have hlen : (strC q).length = q.length := by simp [strC]
    obtain ⟨v, w1, hrun, hrow, hgr, hat⟩ := run_append_row (P := Try.prog) (w := w.alloc (.cells #[] 9)) 22 22 9 i0 _ 1 16 Try.underlying22 hi hz0 hz1 hz2 rfl (by decide) _ 0 [] hr0 ⟨g, off, none⟩ q.length cap (strC q) (by rw [hlen]; omega)
      (fun j u hu => by
        have hj : j < q.length := by rw [← hlen]; exact (List.getElem?_eq_some_iff.1 hu).1
        rw [Addr.add_lit, World.cell?_alloc_lt _ _ _ hgl, cell_of_row w g _ cs 9 (0, 0) hh, h4 j (by omega), hu])
      (fun u hu => by obtain ⟨b, _, rfl⟩ := List.mem_map.1 hu; rfl) (by unfold maxLen; omega) (by omega)
    rw [run_appSem] at hrun
    have FIN : Hid (Row w1 9 1 v q.length (strC q) ∧ Below w.heap.size w w1 ∧ ∀ k, v.ownBlock = some k → w.heap.size ≤ k) := by
      refine Lib.hid ⟨by simpa using hrow, ⟨hgr.os, hgr.tape, hgr.output, Nat.le_trans (by simp) hgr.size, fun k hk => ?_⟩, fun k hk => ?_⟩
      · rw [hgr.block k (by simp; omega) (by intro e; have : k = w.heap.size := by simpa [Value.ownBlock] using e
                                             omega)]
        exact Below.heap_alloc w _ k hk
      · rcases hat with h | h
        · rw [h] at hk
          have : w.heap.size = k := by simpa [Value.ownBlock] using hk
          omega
        · have := h k hk; simp at this; omega
    clear hrow hgr hat hr0 hlen hi hz0 hz1 hz2 hr
    have H4 := Lib.hid h4
    have HH := Lib.hid hh
    unfold maxLen at h2
    clear h4 hh h3
    go_enter Try.func43, Try.ntmps43
    go_wp2_with fail
    go_ret
    exact ⟨v, rfl, FIN.out.1, FIN.out.2.1, FIN.out.2.2⟩
def qAt (st : St) (a : Int) : List ByteArray := if a = 0 then st.q0 else if a = 1 then st.q1 else []
theorem Blocks_nil (a : Int) (w : World) : Calls Try.prog 21 #[.pointer none, .int .i64 a] w fun e w' => e = .returned (.slice none 0 0) ∧ w = w' := by
  go_enter Try.func21, Try.ntmps21
  go_wp2_with fail
  go_ret
  exact ⟨rfl, rfl⟩
set_option maxHeartbeats 800000 in
theorem Blocks_any (a : Int) (g : Nat) (S : Sl) (st : St) (w : World) (hP : PipeAt w g S st) (hs : Sm st) :
    Calls Try.prog 21 #[.pointer (some ⟨g, 0, none⟩), .int .i64 a] w fun e w' => ∃ v, e = .returned v ∧ Row w' 9 1 v (qAt st a).length (strC (qAt st a)) ∧ Below w.heap.size w w' ∧ ∀ k, v.ownBlock = some k → w.heap.size ≤ k := by
  have C42 := Lib.hid (fun W => isEnd_any a W)
  have hl := hs.q
  have C0 := Lib.hid (clone_any S.s0 st.q0 w hP.r0 (by omega))
  have C1 := Lib.hid (clone_any S.s1 st.q1 w hP.r1 (by omega))
  have z0 := hP.cells.1
  have z2 := hP.cells.2.2.1
  unfold qAt
  by_cases h0 : a = 0
  · subst h0
    clear hP hs hl z2 C1
    go_enter Try.func21, Try.ntmps21
    go_wp2_with (first
      | (go_at_call 42; refine (C42.out _).mono ?_; rintro e v1 ⟨rfl, rfl⟩)
      | (go_at_call 43; refine (C0.out).mono ?_; rintro e v2 ⟨v, rfl, R⟩; have HR := Lib.hid R; clear R))
    go_ret
    exact ⟨v, rfl, HR.out⟩
  · by_cases h1 : a = 1
    · subst h1
      clear hP hs hl z0 C0
      go_enter Try.func21, Try.ntmps21
      go_wp2_with (first
        | (go_at_call 42; refine (C42.out _).mono ?_; rintro e v1 ⟨rfl, rfl⟩)
        | (go_at_call 43; refine (C1.out).mono ?_; rintro e v2 ⟨v, rfl, R⟩; have HR := Lib.hid R; clear R))
      go_ret
      exact ⟨v, rfl, HR.out⟩
    · rw [if_neg h0, if_neg h1]
      rw [decide_eq_false (fun h => h.elim h0 h1)] at C42
      clear h0 h1 z0 z2 hP hs hl
      go_enter Try.func21, Try.ntmps21
      go_wp2_with (go_at_call 42; refine (C42.out _).mono ?_; rintro e v1 ⟨rfl, rfl⟩)
      go_ret
      exact ⟨_, rfl, Row.nil _ _ _, Below.refl _ _, fun k hk => by cases hk⟩
end Go.Proofs.Ytmnlojbfdpjjdaa
