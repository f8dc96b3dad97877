/- The reference: tickets; equality of rows of numbers and of answers that are alike. -/
import Derived.Test.YtmnlojbfdpjjdaaR18
import Derived.Laws.StructEq
namespace Go.Proofs.Ytmnlojbfdpjjdaa
open Go.RowKit
variable {F : Nat → Prop}
attribute [local go_sem] Oper.semAt_some
attribute [local go_sem ↓] run_appSem
set_option maxRecDepth 100000 in
set_option maxHeartbeats 1600000 in
theorem tickets_any (S : Sl) (st : St) (hs : Sm st) (w : World) (hR : Ref F w S st) :
    Calls Try.prog 27 #[rpV S st] w fun e w' => ∃ v, e = .returned v ∧ Row w' 3 1 v st.ws.length (tkC st.ws) ∧ Below w.heap.size w w' := by
  obtain ⟨i0, hi, hz0, hz1, hz2⟩ := info_parts Try.info3
  have HI := Lib.hid hi
  have HZ := Lib.hid (And.intro hz0 (And.intro hz1 hz2))
  clear hi hz0 hz1 hz2
  have hl := hs.q
  obtain ⟨za0, zk0, za1, zk1, zaw, zkw, zaa, zka, rfl⟩ := hR.open
  have hrow : Row w 120 5 (.slice zaw st.ws.length zkw) st.ws.length (rwsC st.ws) := hR.rw_
  unfold rpV
  by_cases hn : 0 < st.ws.length
  · obtain ⟨gw, off, cap, hsv, h1, h2, hgw, hcl, _⟩ := hrow.open hn
    injection hsv with hv1 _ hv3
    subst hv1 hv3
    unfold maxLen at h2
    have HC := Lib.hid hcl
    have hl2 : st.ws.length ≤ 100000 := by omega
    clear hrow hcl hR hs hl
    generalize st.ws = l at *
    have BB0 := Lib.hid (show Below w.heap.size w (w.alloc (.cells #[.int .i64 st.limit, .slice za0 st.q0.length zk0, .slice za1 st.q1.length zk1, .bool st.c0, .bool st.c1, .int .i64 st.tks, .slice (some ⟨gw, off, none⟩) l.length zkw, .slice zaa st.ans.length zka] 60)) from (Below.refl _ _).alloc (Nat.le_refl _) _)
    go_enter Try.func27, Try.ntmps27
    go_wp2_with fail
    go_loopg [3, 9] l.length (fun k v i wr => ∃ (m : Nat) (a : Option Addr) (c : Nat), m + k = l.length ∧ i = .int .i64 m ∧ v = .slice a m c ∧ Row wr 3 1 (.slice a m c) m (tkC (l.take m)) ∧ Below w.heap.size w wr ∧ ∀ k, (Value.slice a m c).ownBlock = some k → w.heap.size ≤ k)
    case atStart => exact ⟨0, none, 0, by omega, rfl, rfl, Row.nil _ _ _, BB0.out, fun k hk => by cases hk⟩
    case round =>
      obtain ⟨m, a, c, hm, rfl, rfl, hR, hb, ho⟩ := hrel
      have HM := Lib.hid hm
      have HR := Lib.hid hR
      have HB := Lib.hid hb
      have HO := Lib.hid ho
      by_cases hlt : m < l.length
      · obtain ⟨y, hy⟩ : ∃ y, y = l.getD m wt0 := ⟨_, rfl⟩
        obtain ⟨c0, c1, c2, c3, c4⟩ := rw_cells (w := wr) (fun j hj => (hb.cell (p := ⟨gw, off + j, none⟩) hgw).trans (HC.out j hj)) hlt y hy
        have HT := Lib.hid (tkC_succ l m hlt)
        rw [← hy] at HT
        clear hy hm hR hb ho
        obtain ⟨⟨yk, yf, yc, yd⟩, yt⟩ := y
        simp only at c0 c1 c2 c3 c4 HT
        go_upto_region 5 with fail
        obtain ⟨W1, hW1⟩ : ∃ W1, W1 = wr.alloc (.cells #[.int .i64 yt, .int .i64 yk, .int .i64 yf, .int .i64 yc, .string yd] 120) := ⟨_, rfl⟩
        obtain ⟨yb, hyb⟩ : ∃ yb, yb = wr.heap.size := ⟨_, rfl⟩
        have KY : Hid (Blk W1 yb 120 [.int .i64 yt, .int .i64 yk, .int .i64 yf, .int .i64 yc, .string yd]) := by rw [hW1, hyb]; exact Lib.hid (Blk.new wr 120 [_, _, _, _, _])
        have BW : Hid (Below wr.heap.size wr W1) := by rw [hW1]; exact Lib.hid ((Below.refl _ _).alloc (Nat.le_refl _) _)
        rw [← hW1, ← hyb]
        clear hW1 hyb c0 c1 c2 c3 c4
        have y4 : W1.cell? ⟨yb, 0, none⟩ = some (.int .i64 yt) := KY.out.cell 0
        obtain ⟨hz0, hz1, hz2⟩ := HZ.out
        have hdr : Below W1.heap.size W1 (W1.alloc (.cells #[.int .i64 yt] 3)) := (Below.refl _ _).alloc (Nat.le_refl _) _
        obtain ⟨v7, w7, hrun, hrow7, hgr7, hat⟩ := run_append_row (P := Try.prog) (w := W1.alloc (.cells #[.int .i64 yt] 3)) 67 67 3 i0 _ 1 8 Try.underlying67 HI.out hz0 hz1 hz2 rfl (by decide) (.slice a m c) m (tkC (l.take m)) ((HR.out.below BW.out).below hdr)
          ⟨W1.heap.size, 0, none⟩ 1 1 [.int .i64 yt] rfl (World.news_of_block (cs := #[.int .i64 yt]) (t := 3) (fr := (0, 0)) (heap_alloc_new W1 _)) (by simp [Value.oneCell']) (by unfold maxLen; omega) (by omega)
        obtain ⟨a7, c7, rfl, _⟩ := hrow7.form
        rw [run_appSem] at hrun
        rw [← HT.out] at hrow7
        have hsz1 := BW.out.size
        have FIN : Hid (Row w7 3 1 (.slice a7 (m + 1) c7) (m + 1) (tkC (l.take (m + 1))) ∧ Below w.heap.size w w7 ∧ ∀ k, (Value.slice a7 (m + 1) c7).ownBlock = some k → w.heap.size ≤ k) := by
          refine Lib.hid ⟨hrow7, ?_, fun k hk => ?_⟩
          · have hbw : Below w.heap.size w (W1.alloc (.cells #[.int .i64 yt] 3)) := keepBelow HB.out (keepBelow BW.out hdr)
            refine ⟨hgr7.os.trans hbw.os, hgr7.tape.trans hbw.tape, hgr7.output.trans hbw.output, Nat.le_trans hbw.size hgr7.size, fun k hk => (hgr7.block k (Nat.lt_of_lt_of_le hk hbw.size) (fun e => ?_)).trans (hbw.block k hk)⟩
            have := HO.out k e.symm
            omega
          · rcases hat with h | h
            · exact HO.out k (h ▸ hk)
            · have h3 := h k hk; have h4 := HB.out.size; simp at h3; omega
        clear hrow7 hgr7 hat hdr hz0 hz1 hz2
        go_wp2_with fail
        go_roundg (gk - 1)
        case measure => have := HM.out; omega
        case rel => exact ⟨m + 1, a7, c7, by have := HM.out; omega, by go_num, rfl, FIN.out.1, FIN.out.2.1, FIN.out.2.2⟩
      · obtain rfl : m = l.length := by omega
        clear hm hR hb ho
        go_wp2_with fail
        go_ret
        exact ⟨_, rfl, by have h := HR.out; rw [List.take_length] at h; exact h, HB.out⟩
  · have hq0 : st.ws = [] := List.eq_nil_of_length_eq_zero (by omega)
    have hq1 : st.ws.length = 0 := by omega
    obtain ⟨aw, cap, hsv, h1, h2⟩ := hrow.form
    unfold maxLen at h2
    rw [hq1, hq0]
    clear hsv hrow hR hs hl hq0 hn h1 hq1
    have BB0 := Lib.hid (show Below w.heap.size w (w.alloc (.cells #[.int .i64 st.limit, .slice za0 st.q0.length zk0, .slice za1 st.q1.length zk1, .bool st.c0, .bool st.c1, .int .i64 st.tks, .slice zaw 0 zkw, .slice zaa st.ans.length zka] 60)) from (Below.refl _ _).alloc (Nat.le_refl _) _)
    obtain ⟨W0, hW0⟩ : ∃ W0, W0 = w.alloc (.cells #[.int .i64 st.limit, .slice za0 st.q0.length zk0, .slice za1 st.q1.length zk1, .bool st.c0, .bool st.c1, .int .i64 st.tks, .slice zaw 0 zkw, .slice zaa st.ans.length zka] 60) := ⟨_, rfl⟩
    rw [← hW0] at BB0
    have HW0 := Lib.hid hW0
    clear hW0
    go_enter Try.func27, Try.ntmps27
    go_wp2_with fail
    (try rw [← HW0.out])
    go_loopg [3, 9] 0 (fun k v i wr => i = .int .i64 0 ∧ v = .slice none 0 0 ∧ wr = W0)
    case atStart => exact ⟨rfl, rfl, rfl⟩
    case round =>
      obtain ⟨rfl, rfl, rfl⟩ := hrel
      go_wp2_with fail
      go_ret
      exact ⟨_, rfl, Row.nil _ _ _, BB0.out⟩
theorem eqInts (va vb : Value) (l : List Wt) (w : World) (ha : Row w 3 1 va l.length (tkC l)) (hb : Row w 3 1 vb l.length (tkC l)) (hl : l.length ≤ 100000) :
    Calls Try.prog 25 #[va, vb] w fun e w' => e = .returned (.bool true) ∧ Below w.heap.size w w' := by
  obtain ⟨aa, ca, hva, h1, h2⟩ := ha.form
  obtain ⟨ab, cb, hvb, h3, h4⟩ := hb.form
  have hg : ∀ j, j < l.length → (tkC l)[j]? = some (.int .i64 ((l.map Wt.tk).getD j 0)) := fun j hj => by
    unfold tkC
    rw [List.getElem?_map, List.getD_eq_getElem?_getD, List.getElem?_map, List.getElem?_eq_getElem hj]; rfl
  by_cases hn : 0 < l.length
  · obtain ⟨g1, o1, c1, e1, _, _, hg1, hc1, _⟩ := ha.open hn
    obtain ⟨g2, o2, c2, e2, _, _, hg2, hc2, _⟩ := hb.open hn
    subst e1 e2
    have h := Try.slices_Equal_int g1 o1 l.length c1 g2 o2 l.length c2 (l.map Wt.tk) (l.map Wt.tk) w (by simp) (by simp) (by omega) (by omega) (fun j hj => by rw [hc1 j (by simpa using hj), hg j (by simpa using hj)]) (fun j hj => by rw [hc2 j (by simpa using hj), hg j (by simpa using hj)])
    refine h.mono ?_
    rintro e w' ⟨rfl, q, rfl⟩
    exact ⟨by rw [beq_self_eq_true], belowN (Below.refl _ _) q⟩
  · have hl0 : l.length = 0 := by omega
    rw [hl0] at hva hvb
    subst hva hvb
    have h := Try.slices_Equal_int_empty aa ab ca 0 cb w (by omega)
    refine h.mono ?_
    rintro e w' ⟨rfl, rfl⟩
    exact ⟨rfl, Below.refl _ _⟩
theorem held51 : Try.prog.stoodInHeld 51 = false := by kernel_rfl
theorem guard51 : Try.prog.eqGuardType Try.prog.depth 51 = false := by kernel_rfl
def an00 : An := ⟨0, 0, ByteArray.empty, 0⟩
theorem ansC_get (l : List An) (m : Nat) (hm : m < l.length) (i : Nat) (hi : i < 4) : (ansC l)[m * 4 + i]? = (anC (l.getD m an00))[i]? := by
  induction l generalizing m with
  | nil => simp at hm
  | cons a l ih =>
    show (anC a ++ ansC l)[m * 4 + i]? = _
    have hla : (anC a).length = 4 := rfl
    cases m with
    | zero => rw [Nat.zero_mul, Nat.zero_add, List.getElem?_append_left (by omega)]; rfl
    | succ m =>
      rw [List.getElem?_append_right (by omega), hla, show (m + 1) * 4 + i - 4 = m * 4 + i by omega, ih m (by simpa using hm)]
      rfl
theorem an_cells {w : World} {gb off m : Nat} {l : List An} (h : ∀ j, j < l.length * 4 → w.cell? ⟨gb, off + j, none⟩ = (ansC l)[j]?) (hm : m < l.length) (y : An) (hy : y = l.getD m an00) :
    w.cell? ⟨gb, off + m * 4, none⟩ = some (.int .i64 y.tk) ∧ w.cell? ⟨gb, off + m * 4 + 1, none⟩ = some (.int .i64 y.cnt) ∧ w.cell? ⟨gb, off + m * 4 + 2, none⟩ = some (.string y.data) ∧ w.cell? ⟨gb, off + m * 4 + 3, none⟩ = some (.int .i64 y.err) := by
  subst hy
  have hg := fun i (hi : i < 4) => (h (m * 4 + i) (by omega)).trans (ansC_get l m hm i hi)
  simp only [← Nat.add_assoc] at hg
  exact ⟨hg 0 (by omega), hg 1 (by omega), hg 2 (by omega), hg 3 (by omega)⟩
set_option maxRecDepth 100000 in
set_option maxHeartbeats 1600000 in
theorem eqAns (va vb : Value) (l : List An) (w : World) (ha : Row w 51 4 va l.length (ansC l)) (hb : Row w 51 4 vb l.length (ansC l)) (hl : l.length ≤ 100000) :
    Calls Try.prog 51 #[va, vb] w fun e w' => e = .returned (.bool true) ∧ Below w.heap.size w w' := by
  obtain ⟨aa, ca, hva, h1, h2⟩ := ha.form
  obtain ⟨ab, cb, hvb, h3, h4⟩ := hb.form
  unfold maxLen at h2 h4
  have hs51 := held51
  have hg51 := guard51
  by_cases hn : 0 < l.length
  · obtain ⟨g1, o1, c1, e1, _, _, hg1, hc1, _⟩ := ha.open hn
    obtain ⟨g2, o2, c2, e2, _, _, hg2, hc2, _⟩ := hb.open hn
    clear hva hvb
    subst e1 e2
    have HA := Lib.hid hc1
    have HB := Lib.hid hc2
    clear ha hb hc1 hc2
    go_enter Try.func51, Try.ntmps51
    go_wp2_with fail
    go_loopw [13] (fun i wr => ∃ m : Nat, m ≤ l.length ∧ i = .int .i64 m ∧ Below w.heap.size w wr) (fun i _ => l.length - (intOf i).toNat)
    case atStart => exact ⟨0, by omega, rfl, Below.refl _ _⟩
    case round =>
      obtain ⟨m, hm, rfl, hbl⟩ := hrel
      have HBL := Lib.hid hbl
      by_cases hlt : m < l.length
      · obtain ⟨y, hy⟩ : ∃ y, y = l.getD m an00 := ⟨_, rfl⟩
        obtain ⟨x0, x1, x2, x3⟩ := an_cells (w := wr) (fun j hj => (hbl.cell (p := ⟨g1, o1 + j, none⟩) hg1).trans (HA.out j hj)) hlt y hy
        obtain ⟨y0, y1, y2, y3⟩ := an_cells (w := wr) (fun j hj => (hbl.cell (p := ⟨g2, o2 + j, none⟩) hg2).trans (HB.out j hj)) hlt y hy
        clear hbl hy
        obtain ⟨yt, yn, yd, ye⟩ := y
        simp only at x0 x1 x2 x3 y0 y1 y2 y3
        go_upto_region 6 with fail
        go_quiet (fail)
        go_wp2_with fail
        exact ⟨⟨m + 1, by omega, rfl, belowN HBL.out _⟩, by simp [intOf]; omega⟩
      · obtain rfl : m = l.length := by omega
        clear hbl
        go_wp2_with fail
        go_ret
        exact ⟨rfl, HBL.out⟩
  · have hl0 : l.length = 0 := by omega
    rw [hl0] at hva hvb
    subst hva hvb
    clear ha hb
    go_enter Try.func51, Try.ntmps51
    go_wp2_with fail
    go_loopw [13] (fun i wr => i = .int .i64 0 ∧ wr = w) (fun i _ => 0)
    case atStart => exact ⟨rfl, rfl⟩
    case round =>
      obtain ⟨rfl, rfl⟩ := hrel
      go_wp2_with fail
      go_ret
      exact ⟨rfl, Below.refl _ _⟩
end Go.Proofs.Ytmnlojbfdpjjdaa
