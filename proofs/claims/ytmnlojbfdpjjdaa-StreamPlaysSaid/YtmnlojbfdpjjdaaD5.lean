/- Cancel, Flush, Waiting, Answers. -/
import Derived.Test.YtmnlojbfdpjjdaaD4
import Derived.Test.YtmnlojbfdpjjdaaB8
namespace Go.Proofs.Ytmnlojbfdpjjdaa
open Go.RowKit
attribute [local go_sem] Oper.semAt_some
attribute [local go_sem ↓] run_appSem
def dropT (st : St) (t : Int) : St := ⟨st.q0, st.q1, st.c0, st.c1, st.limit, st.tks, keepT t st.ws, st.ans⟩
def cancelR (st : St) (t : Int) : St × Int := if (keepT t st.ws).length = st.ws.length then (st, 4) else (settle (dropT st t), 0)
theorem sizes_sub {a b : List ByteArray} (h : a.Sublist b) : sizes a ≤ sizes b := by
  induction h with
  | slnil => exact Nat.le_refl _
  | cons x _ ih => simp only [sizes]; omega
  | cons_cons x _ ih => simp only [sizes]; omega
theorem Sm.dropT {st : St} (h : Sm st) (t : Int) : Sm (dropT st t) := by
  have hl : (keepT t st.ws).length ≤ st.ws.length := List.length_filter_le _ _
  have hz := sizes_sub (List.Sublist.map (·.op.data) (List.filter_sublist (p := fun y => !tkB t y) (l := st.ws)))
  have := h.q; have := h.a; have := h.z
  exact ⟨by show st.q0.length + st.q1.length + (keepT t st.ws).length ≤ _; omega, by show st.ans.length + (keepT t st.ws).length ≤ _; omega, by show sizes st.q0 + sizes st.q1 + sizes ((keepT t st.ws).map (·.op.data)) ≤ _; unfold keepT; omega⟩
theorem WOk.dropT {st : St} (h : WOk st) (t : Int) : WOk (dropT st t) := fun y hy => h y (List.mem_filter.1 hy).1
theorem keepT_all {t : Int} {l : List Wt} (h : (keepT t l).length = l.length) : keepT t l = l := List.filter_sublist.eq_of_length h
set_option maxRecDepth 100000 in
set_option maxHeartbeats 1600000 in
theorem Cancel_any (t : Int) (g : Nat) (S : Sl) (st : St) (w : World) (hP : PipeAt w g S st) (hs : Sm st) (hw : WOk st) :
    Calls Try.prog 37 #[.pointer (some ⟨g, 0, none⟩), .int .i64 t] w fun e w' => e = .returned (.int .i64 (cancelR st t).2) ∧ ∃ S', PipeAt w' g S' (cancelR st t).1 ∧ Turn g S w S' w' := by
  have hW0 : Below w.heap.size w (w.alloc (.cells #[.int .i64 t] 3)) := (Below.refl _ _).alloc (Nat.le_refl _) _
  have HPW := Lib.hid (hP.below hW0)
  have hql : st.ws.length ≤ 100000 := by have := hs.q; omega
  have hg := hP.blk.lt
  have hsb : S.sw.ownBlock ≠ some w.heap.size := fun e => by have := hP.rw_.lt e; omega
  obtain ⟨aw, cw, hsw, h1, h2⟩ := hP.rw_.form
  unfold maxLen at h2
  have HSW := Lib.hid hsw
  have CD := Lib.hid (deleteF_any st.ws S.sw t w.heap.size _ HPW.out.rw_ hql ((Blk.new w 3 [.int .i64 t]).cell 0) (Blk.new w 3 [.int .i64 t]).lt hsb)
  have z6 : w.cell? ⟨g, 6, none⟩ = some (.slice aw st.ws.length cw) := by rw [← HSW.out]; exact hP.cells.2.2.2.2.2.2.1
  have hgw : (Value.slice aw st.ws.length cw).ownBlock ≠ some g := by rw [← HSW.out]; exact hP.rw_.ne hP.blk (by decide)
  have UW := Lib.hid (fun W1 v (hg : (w.alloc (.cells #[.int .i64 t] 3)).grownBy W1 S.sw.ownBlock) (hr : Row W1 92 5 v (keepT t st.ws).length (wtsC (keepT t st.ws))) (ho : v.ownBlock = S.sw.ownBlock) => HPW.out.updw (w1 := W1) (v := v) (keepT t st.ws) hg hr (Or.inl ho))
  rw [HSW.out] at CD UW
  have CS := Lib.hid (fun S' W (hp : PipeAt W g S' (dropT st t)) => settle_any g S' (dropT st t) W hp (hs.dropT t) (hw.dropT t))
  have HT0 := Lib.hid ((Turn.of_below hW0 : Turn g S w S _))
  have hlk : (keepT t st.ws).length ≤ st.ws.length := List.length_filter_le _ _
  have hr : cancelR st t = if (keepT t st.ws).length = st.ws.length then (st, 4) else (settle (dropT st t), 0) := rfl
  have HDR := Lib.hid (show ∀ h : (keepT t st.ws).length = st.ws.length, dropT st t = st from fun h => by unfold dropT; rw [keepT_all h])
  have hd : dropT st t = ⟨st.q0, st.q1, st.c0, st.c1, st.limit, st.tks, keepT t st.ws, st.ans⟩ := rfl
  have f6 := hP.frozen 6
  rw [hr]
  clear hr hP hs hw hsw hW0 hsb
  by_cases hk : (keepT t st.ws).length = st.ws.length
  · rw [if_pos hk]
    have HDS := Lib.hid (HDR.out hk)
    have hkk : (((keepT t st.ws).length : Int) == (st.ws.length : Int)) = true := by rw [beq_iff_eq]; omega
    have HKK := Lib.hid hk
    clear hk hd
    go_enter Try.func37, Try.ntmps37
    go_wp2_with (go_at_call 59; refine (CD.out).mono ?_; rintro e w3 ⟨v', rfl, hr3, ho3, hg3⟩; obtain ⟨a3, cap3, rfl, hc1, hc2⟩ := hr3.form; unfold maxLen at hc2; obtain ⟨P3, T3⟩ := UW.out w3 _ hg3 hr3 ho3; have HP3 := Lib.hid P3; have HT3 := Lib.hid T3; have e6 : w3.cell? ⟨g, 6, none⟩ = some (.slice aw st.ws.length cw) := (grown_cell hg3 (by simp; omega) hgw 6).trans ((World.cell?_alloc_lt _ _ _ hg).trans z6); have e6f : w3.frozen? ⟨g, 6, none⟩ = false := (grown_frozen hg3 (by simp; omega) hgw 6).trans (HPW.out.frozen 6); clear P3 T3 hg3 hr3 ho3)
    go_ret
    have hp := HP3.out
    have e2 : (⟨st.q0, st.q1, st.c0, st.c1, st.limit, st.tks, keepT t st.ws, st.ans⟩ : St) = st := HDS.out
    rw [e2] at hp
    exact ⟨rfl, _, hp, HT0.out.trans HT3.out⟩
  · rw [if_neg hk]
    have hkk : (((keepT t st.ws).length : Int) == (st.ws.length : Int)) = false := by rw [beq_eq_false_iff_ne]; omega
    have HKK := Lib.hid hk
    clear hk hd
    go_enter Try.func37, Try.ntmps37
    go_wp2_with (first
      | (go_at_call 59; refine (CD.out).mono ?_; rintro e w3 ⟨v', rfl, hr3, ho3, hg3⟩; obtain ⟨a3, cap3, rfl, hc1, hc2⟩ := hr3.form; unfold maxLen at hc2; obtain ⟨P3, T3⟩ := UW.out w3 _ hg3 hr3 ho3; have HP3 := Lib.hid P3; have HT3 := Lib.hid T3; have e6 : w3.cell? ⟨g, 6, none⟩ = some (.slice aw st.ws.length cw) := (grown_cell hg3 (by simp; omega) hgw 6).trans ((World.cell?_alloc_lt _ _ _ hg).trans z6); have e6f : w3.frozen? ⟨g, 6, none⟩ = false := (grown_frozen hg3 (by simp; omega) hgw 6).trans (HPW.out.frozen 6); clear P3 T3 hg3 hr3 ho3)
      | (go_at_call 57; refine (CS.out _ _ HP3.out).mono ?_; rintro e w5 ⟨rfl, S5, P5, T5⟩; have HP5 := Lib.hid P5; have HT5 := Lib.hid T5; clear P5 T5))
    go_ret
    exact ⟨rfl, S5, HP5.out, (HT0.out.trans HT3.out).trans HT5.out⟩
def flushS (st : St) (a : Int) : St := ⟨if a = 0 then [] else st.q0, if a = 0 then st.q1 else [], st.c0, st.c1, st.limit, st.tks, st.ws, st.ans⟩
def flushR (st : St) (a : Int) : St × Int := if openE st a = 0 then (settle (flushS st a), 0) else (st, openE st a)
theorem Sm.flushS {st : St} (h : Sm st) (a : Int) : Sm (flushS st a) := by
  have := h.q; have := h.a; have := h.z
  unfold Ytmnlojbfdpjjdaa.flushS
  by_cases h0 : a = 0
  · simp only [if_pos h0]; exact ⟨by simp only [List.length_nil]; omega, by simp only; omega, by simp only [sizes]; omega⟩
  · simp only [if_neg h0]; exact ⟨by simp only [List.length_nil]; omega, by simp only; omega, by simp only [sizes]; omega⟩
theorem Flush_err (a : Int) (g : Nat) (S : Sl) (st : St) (w : World) (hP : PipeAt w g S st) (he : openE st a ≠ 0) :
    Calls Try.prog 38 #[.pointer (some ⟨g, 0, none⟩), .int .i64 a] w fun e w' => e = .returned (.int .i64 (openE st a)) ∧ w = w' := by
  have C := Lib.hid (opened_any a g S st w hP)
  generalize openE st a = o at *
  have hne : (o != 0) = true := by rw [bne_iff_ne]; exact he
  clear hP he
  go_enter Try.func38, Try.ntmps38
  go_wp2_with (go_at_call 34; refine (C.out).mono ?_; rintro e v1 ⟨rfl, rfl⟩)
  go_ret
  exact ⟨rfl, rfl⟩
set_option maxRecDepth 100000 in
theorem Flush_0 (g : Nat) (S : Sl) (st : St) (w : World) (hP : PipeAt w g S st) (hs : Sm st) (hw : WOk st) (he : openE st 0 = 0) :
    Calls Try.prog 38 #[.pointer (some ⟨g, 0, none⟩), .int .i64 0] w fun e w' => e = .returned (.int .i64 0) ∧ ∃ S', PipeAt w' g S' (settle (flushS st 0)) ∧ Turn g S w S' w' := by
  have C := Lib.hid (opened_any 0 g S st w hP)
  rw [he] at C
  have e0 : w.cell? ⟨g, 0, none⟩ = some S.s0 := hP.blk.cell 0
  have f0 := hP.frozen 0
  obtain ⟨P1, T1⟩ := hP.upd0 (w1 := w) (v := .slice none 0 0) [] (World.grownBy.refl w _) (Row.nil _ _ _) (.inr fun k hk => by cases hk)
  have CS := Lib.hid (fun S' W (hp : PipeAt W g S' (flushS st 0)) => settle_any g S' (flushS st 0) W hp (hs.flushS 0) (show WOk (flushS st 0) from hw))
  have HP1 := Lib.hid P1
  have HT1 := Lib.hid T1
  clear P1 T1 hP hs hw he
  go_enter Try.func38, Try.ntmps38
  go_wp2_with (first
    | (go_at_call 34; refine (C.out).mono ?_; rintro e v1 ⟨rfl, rfl⟩)
    | (go_at_call 57; refine (CS.out _ _ HP1.out).mono ?_; rintro e w5 ⟨rfl, S5, P5, T5⟩; have HP5 := Lib.hid P5; have HT5 := Lib.hid T5; clear P5 T5))
  go_ret
  exact ⟨rfl, S5, HP5.out, HT1.out.trans HT5.out⟩
set_option maxRecDepth 100000 in
theorem Flush_1 (g : Nat) (S : Sl) (st : St) (w : World) (hP : PipeAt w g S st) (hs : Sm st) (hw : WOk st) (he : openE st 1 = 0) :
    Calls Try.prog 38 #[.pointer (some ⟨g, 0, none⟩), .int .i64 1] w fun e w' => e = .returned (.int .i64 0) ∧ ∃ S', PipeAt w' g S' (settle (flushS st 1)) ∧ Turn g S w S' w' := by
  have C := Lib.hid (opened_any 1 g S st w hP)
  rw [he] at C
  have e0 : w.cell? ⟨g, 2, none⟩ = some S.s1 := hP.blk.cell 2
  have f0 := hP.frozen 2
  obtain ⟨P1, T1⟩ := hP.upd1 (w1 := w) (v := .slice none 0 0) [] (World.grownBy.refl w _) (Row.nil _ _ _) (.inr fun k hk => by cases hk)
  have CS := Lib.hid (fun S' W (hp : PipeAt W g S' (flushS st 1)) => settle_any g S' (flushS st 1) W hp (hs.flushS 1) (show WOk (flushS st 1) from hw))
  have HP1 := Lib.hid P1
  have HT1 := Lib.hid T1
  clear P1 T1 hP hs hw he
  go_enter Try.func38, Try.ntmps38
  go_wp2_with (first
    | (go_at_call 34; refine (C.out).mono ?_; rintro e v1 ⟨rfl, rfl⟩)
    | (go_at_call 57; refine (CS.out _ _ HP1.out).mono ?_; rintro e w5 ⟨rfl, S5, P5, T5⟩; have HP5 := Lib.hid P5; have HT5 := Lib.hid T5; clear P5 T5))
  go_ret
  exact ⟨rfl, S5, HP5.out, HT1.out.trans HT5.out⟩
theorem Flush_any (a : Int) (g : Nat) (S : Sl) (st : St) (w : World) (hP : PipeAt w g S st) (hs : Sm st) (hw : WOk st) :
    Calls Try.prog 38 #[.pointer (some ⟨g, 0, none⟩), .int .i64 a] w fun e w' => e = .returned (.int .i64 (flushR st a).2) ∧ ∃ S', PipeAt w' g S' (flushR st a).1 ∧ Turn g S w S' w' := by
  unfold flushR
  by_cases he : openE st a = 0
  · rw [if_pos he]
    rcases openE_in he with rfl | rfl
    · exact Flush_0 g S st w hP hs hw he
    · exact Flush_1 g S st w hP hs hw he
  · rw [if_neg he]
    exact (Flush_err a g S st w hP he).mono fun e w' h => ⟨h.1, S, h.2 ▸ hP, h.2 ▸ Turn.refl g S w⟩
def taken (st : St) : St := ⟨st.q0, st.q1, st.c0, st.c1, st.limit, st.tks, st.ws, []⟩
theorem Answers_any (g : Nat) (S : Sl) (st : St) (w : World) (hP : PipeAt w g S st) :
    Calls Try.prog 19 #[.pointer (some ⟨g, 0, none⟩)] w fun e w' => e = .returned S.sa ∧ Row w' 51 4 S.sa st.ans.length (ansC st.ans) ∧ PipeAt w' g ⟨S.s0, S.s1, S.sw, .slice none 0 0⟩ (taken st) ∧ Turn g S w ⟨S.s0, S.s1, S.sw, .slice none 0 0⟩ w' ∧ ∀ k, S.sa.ownBlock = some k → ¬ Sl.has ⟨S.s0, S.s1, S.sw, .slice none 0 0⟩ g k := by
  have z7 := hP.cells.2.2.2.2.2.2.2
  have f7 := hP.frozen 7
  obtain ⟨P1, T1⟩ := hP.upda (w1 := w) (v := .slice none 0 0) [] (World.grownBy.refl w _) (Row.nil _ _ _) (.inr fun k hk => by cases hk)
  have hR := hP.ra.set_ (p := ⟨g, 7, none⟩) (hP.ra.ne hP.blk (by decide)) (.slice none 0 0)
  have FIN := Lib.hid (And.intro hR (And.intro P1 T1))
  have HA : Hid (∀ k, S.sa.ownBlock = some k → ¬ Sl.has ⟨S.s0, S.s1, S.sw, .slice none 0 0⟩ g k) := Lib.hid (fun k hk hh => by
    rcases hh with rfl | h | h | h | h
    · exact hP.ra.ne hP.blk (by decide) hk
    · exact hP.r0.ne2 hP.ra (by decide) h hk
    · exact hP.r1.ne2 hP.ra (by decide) h hk
    · exact hP.rw_.ne2 hP.ra (by decide) h hk
    · cases h)
  clear P1 T1 hP hR
  go_enter Try.func19, Try.ntmps19
  go_wp2_with fail
  go_ret
  exact ⟨rfl, FIN.out.1, FIN.out.2.1, FIN.out.2.2, HA.out⟩
end Go.Proofs.Ytmnlojbfdpjjdaa
