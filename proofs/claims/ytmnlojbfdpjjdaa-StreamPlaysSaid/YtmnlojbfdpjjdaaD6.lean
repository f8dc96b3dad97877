/- Waiting: the tickets of those that wait. -/
import Derived.Test.YtmnlojbfdpjjdaaD5
namespace Go.Proofs.Ytmnlojbfdpjjdaa
open Go.RowKit
attribute [local go_sem] Oper.semAt_some
attribute [local go_sem ↓] run_appSem
theorem Try.info3 : (Try.prog.info? 3).map (fun i => (i.zero, i.size, i.bytes)) = some (some (.int .i64 0), 1, 8) := by kernel_rfl
def tkC (l : List Wt) : List Value := l.map fun y => .int .i64 y.tk
theorem tkC_succ (l : List Wt) (m : Nat) (hm : m < l.length) : tkC (l.take (m + 1)) = tkC (l.take m) ++ [.int .i64 (l.getD m wt0).tk] := by
  unfold tkC
  rw [List.take_succ_eq_append_getElem hm, List.map_append, List.getD_eq_getElem?_getD, List.getElem?_eq_getElem hm]; rfl
set_option maxRecDepth 100000 in
set_option maxHeartbeats 1600000 in
theorem Waiting_any (g : Nat) (S : Sl) (st : St) (w : World) (hP : PipeAt w g S st) (hs : Sm st) :
    Calls Try.prog 26 #[.pointer (some ⟨g, 0, none⟩)] w fun e w' => ∃ v, e = .returned v ∧ Row w' 3 1 v st.ws.length (tkC st.ws) ∧ Below w.heap.size w w' ∧ ∀ k, v.ownBlock = some k → w.heap.size ≤ k := by
  obtain ⟨i0, hi, hz0, hz1, hz2⟩ := info_parts Try.info3
  have HI := Lib.hid hi
  have HZ := Lib.hid (And.intro hz0 (And.intro hz1 hz2))
  clear hi hz0 hz1 hz2
  have hl := hs.q
  have hrow := hP.rw_
  have z6 := hP.cells.2.2.2.2.2.2.1
  by_cases hn : 0 < st.ws.length
  · obtain ⟨gw, off, cap, hsv, h1, h2, hgw, hcl, _⟩ := hrow.open hn
    unfold maxLen at h2
    rw [hsv] at z6
    have HC := Lib.hid hcl
    have hl2 : st.ws.length ≤ 100000 := by omega
    clear hsv hrow hcl hP hs hl
    generalize st.ws = l at *
    go_enter Try.func26, Try.ntmps26
    go_wp2_with fail
    go_loopg [3, 13] l.length (fun k v i wr => ∃ (m : Nat) (a : Option Addr) (c : Nat), m + k = l.length ∧ i = .int .i64 m ∧ v = .slice a m c ∧ Row wr 3 1 (.slice a m c) m (tkC (l.take m)) ∧ Below w.heap.size w wr ∧ ∀ k, (Value.slice a m c).ownBlock = some k → w.heap.size ≤ k)
    case atStart => exact ⟨0, none, 0, by omega, rfl, rfl, Row.nil _ _ _, Below.refl _ _, fun k hk => by cases hk⟩
    case round =>
      obtain ⟨m, a, c, hm, rfl, rfl, hR, hb, ho⟩ := hrel
      have HM := Lib.hid hm
      have HR := Lib.hid hR
      have HB := Lib.hid hb
      have HO := Lib.hid ho
      by_cases hlt : m < l.length
      · obtain ⟨y, hy⟩ : ∃ y, y = l.getD m wt0 := ⟨_, rfl⟩
        obtain ⟨c0, c1, c2, c3, c4⟩ := wt_cells (w := wr) (fun j hj => (hb.cell (p := ⟨gw, off + j, none⟩) hgw).trans (HC.out j hj)) hlt y hy
        have HT := Lib.hid (tkC_succ l m hlt)
        rw [← hy] at HT
        clear hy hm hR hb ho
        obtain ⟨⟨yk, yf, yc, yd⟩, yt⟩ := y
        simp only at c0 c1 c2 c3 c4 HT
        go_upto_region 7 with fail
        obtain ⟨W1, hW1⟩ : ∃ W1, W1 = wr.alloc (.cells #[.int .i64 yk, .int .i64 yf, .int .i64 yc, .string yd, .int .i64 yt] 92) := ⟨_, rfl⟩
        obtain ⟨yb, hyb⟩ : ∃ yb, yb = wr.heap.size := ⟨_, rfl⟩
        have KY : Hid (Blk W1 yb 92 [.int .i64 yk, .int .i64 yf, .int .i64 yc, .string yd, .int .i64 yt]) := by rw [hW1, hyb]; exact Lib.hid (Blk.new wr 92 [_, _, _, _, _])
        have BW : Hid (Below wr.heap.size wr W1) := by rw [hW1]; exact Lib.hid ((Below.refl _ _).alloc (Nat.le_refl _) _)
        rw [← hW1, ← hyb]
        clear hW1 hyb c0 c1 c2 c3 c4
        have y4 : W1.cell? ⟨yb, 4, none⟩ = some (.int .i64 yt) := KY.out.cell 4
        obtain ⟨hz0, hz1, hz2⟩ := HZ.out
        have hdr : Below W1.heap.size W1 (W1.alloc (.cells #[.int .i64 yt] 3)) := (Below.refl _ _).alloc (Nat.le_refl _) _
        obtain ⟨v7, w7, hrun, hrow7, hgr7, hat⟩ := run_append_row (P := Try.prog) (w := W1.alloc (.cells #[.int .i64 yt] 3)) 67 67 3 i0 _ 1 8 Try.underlying67 HI.out hz0 hz1 hz2 rfl (by decide) (.slice a m c) m (tkC (l.take m)) ((HR.out.below BW.out).below hdr)
          ⟨W1.heap.size, 0, none⟩ 1 1 [.int .i64 yt] rfl (World.news_of_block (cs := #[.int .i64 yt]) (t := 3) (fr := (0, 0)) (heap_alloc_new W1 _)) (by simp [Value.oneCell']) (by unfold maxLen; omega) (by omega)
        obtain ⟨a7, c7, rfl, _⟩ := hrow7.form
        rw [run_appSem] at hrun
        rw [← HT.out] at hrow7
        have hsz1 := BW.out.size
        have FIN : Hid (Row w7 3 1 (.slice a7 (m + 1) c7) (m + 1) (tkC (l.take (m + 1))) ∧ Below w.heap.size w w7 ∧ ∀ k, (Value.slice a7 (m + 1) c7).ownBlock = some k → w.heap.size ≤ k) := by
          refine Lib.hid ⟨hrow7, ?_, fun k hk => ?_⟩
          · have hbw : Below w.heap.size w (W1.alloc (.cells #[.int .i64 yt] 3)) := keepBelow HB.out (keepBelow BW.out hdr)
            refine ⟨hgr7.os.trans hbw.os, hgr7.tape.trans hbw.tape, hgr7.output.trans hbw.output, Nat.le_trans hbw.size hgr7.size, fun k hk => (hgr7.block k (Nat.lt_of_lt_of_le hk hbw.size) (fun e => ?_)).trans (hbw.block k hk)⟩
            have := HO.out k e.symm
            omega
          · rcases hat with h | h
            · exact HO.out k (h ▸ hk)
            · have h3 := h k hk; have h4 := HB.out.size; simp at h3; omega
        clear hrow7 hgr7 hat hdr hz0 hz1 hz2
        go_wp2_with fail
        go_roundg (gk - 1)
        case measure => have := HM.out; omega
        case rel => exact ⟨m + 1, a7, c7, by have := HM.out; omega, by go_num, rfl, FIN.out.1, FIN.out.2.1, FIN.out.2.2⟩
      · obtain rfl : m = l.length := by omega
        clear hm hR hb ho
        go_wp2_with fail
        go_ret
        exact ⟨_, rfl, by have h := HR.out; rw [List.take_length] at h; exact h, HB.out, HO.out⟩
  · have hq0 : st.ws = [] := List.eq_nil_of_length_eq_zero (by omega)
    obtain ⟨aw, cap, hsv, h1, h2⟩ := hrow.form
    unfold maxLen at h2
    rw [hsv] at z6
    rw [hq0] at z6 ⊢
    clear hsv hrow hP hs hl hq0 hn h1
    have z6' : w.cell? ⟨g, 6, none⟩ = some (.slice aw 0 cap) := z6
    clear z6
    go_enter Try.func26, Try.ntmps26
    go_wp2_with fail
    go_loopg [3, 13] 0 (fun k v i wr => i = .int .i64 0 ∧ v = .slice none 0 0 ∧ wr = w)
    case atStart => exact ⟨rfl, rfl, rfl⟩
    case round =>
      obtain ⟨rfl, rfl, rfl⟩ := hrel
      go_wp2_with fail
      go_ret
      exact ⟨_, rfl, Row.nil _ _ _, Below.refl _ _, fun k hk => by cases hk⟩
end Go.Proofs.Ytmnlojbfdpjjdaa
