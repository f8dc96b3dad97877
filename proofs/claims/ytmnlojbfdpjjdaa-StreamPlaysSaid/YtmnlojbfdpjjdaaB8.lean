/- Close: an end is closed, and who waits is answered. -/
import Derived.Test.YtmnlojbfdpjjdaaB7
import Derived.Deep.AppendLies
import Derived.Deep.LoopGhost
namespace Go.Proofs.Ytmnlojbfdpjjdaa
open Go.RowKit
attribute [local go_sem] Oper.semAt_some
attribute [local go_sem ↓] run_appSem
def cutA (y : Wt) : An := ⟨y.tk, 0, ⟨#[]⟩, 28⟩
/-- behind a close, with m of those that waited answered -/
def closeM (st : St) (a : Int) (m : Nat) : St := ⟨if a = 0 then [] else st.q0, if a = 0 then st.q1 else [], if a = 0 then true else st.c0, if a = 0 then st.c1 else true, st.limit, st.tks, st.ws, st.ans ++ (st.ws.take m).map cutA⟩
def closeS (st : St) (a : Int) : St := ⟨if a = 0 then [] else st.q0, if a = 0 then st.q1 else [], if a = 0 then true else st.c0, if a = 0 then st.c1 else true, st.limit, st.tks, [], st.ans ++ st.ws.map cutA⟩
def closeR (st : St) (a : Int) : St × Int := if openE st a = 0 then (closeS st a, 0) else (st, openE st a)
theorem closeM_len (st : St) (a : Int) (m : Nat) : (closeM st a m).ans.length ≤ st.ans.length + st.ws.length := by
  unfold closeM
  simp only [List.length_append, List.length_map, List.length_take]
  omega
theorem closeM_succ (st : St) (a : Int) (m : Nat) (hm : m < st.ws.length) : (closeM st a (m + 1)).ans = (closeM st a m).ans ++ [cutA (st.ws.getD m wt0)] := by
  unfold closeM
  simp only
  rw [List.take_succ_eq_append_getElem hm, List.map_append, ← List.append_assoc, List.getD_eq_getElem?_getD, List.getElem?_eq_getElem hm]
  rfl
theorem openE_in {st : St} {a : Int} (h : openE st a = 0) : a = 0 ∨ a = 1 := by
  unfold openE at h
  by_cases h0 : a = 0
  · exact .inl h0
  · by_cases h1 : a = 1
    · exact .inr h1
    · rw [if_neg h0, if_neg h1] at h; cases h
theorem Close_nil (a : Int) (w : World) : Calls Try.prog 14 #[.pointer none, .int .i64 a] w fun e w' => e = .returned (.int .i64 6) ∧ w = w' := by
  have C := Lib.hid (fun W => opened_nil a W)
  go_enter Try.func14, Try.ntmps14
  go_wp2_with (go_at_call 34; refine (C.out _).mono ?_; rintro e v1 ⟨rfl, rfl⟩)
  go_ret
  exact ⟨rfl, rfl⟩
theorem Close_err (a : Int) (g : Nat) (S : Sl) (st : St) (w : World) (hP : PipeAt w g S st) (he : openE st a ≠ 0) :
    Calls Try.prog 14 #[.pointer (some ⟨g, 0, none⟩), .int .i64 a] w fun e w' => e = .returned (.int .i64 (openE st a)) ∧ w = w' := by
  have C := Lib.hid (opened_any a g S st w hP)
  generalize openE st a = o at *
  have hne : (o != 0) = true := by rw [bne_iff_ne]; exact he
  clear hP he
  go_enter Try.func14, Try.ntmps14
  go_wp2_with (go_at_call 34; refine (C.out).mono ?_; rintro e v1 ⟨rfl, rfl⟩)
  go_ret
  exact ⟨rfl, rfl⟩
set_option maxRecDepth 100000 in
set_option maxHeartbeats 1600000 in
theorem Close_0 (g : Nat) (S : Sl) (st : St) (w : World) (hP : PipeAt w g S st) (hs : Sm st) (he : openE st 0 = 0) :
    Calls Try.prog 14 #[.pointer (some ⟨g, 0, none⟩), .int .i64 0] w fun e w' => e = .returned (.int .i64 0) ∧ ∃ S', PipeAt w' g S' (closeS st 0) ∧ Turn g S w S' w' := by
  obtain ⟨i0, hi, hz0, hz1, hz2⟩ := info_parts Try.info51
  have HI := Lib.hid hi
  have HZ := Lib.hid (And.intro hz0 (And.intro hz1 hz2))
  clear hi hz0 hz1 hz2
  have C := Lib.hid (opened_any 0 g S st w hP)
  rw [he] at C
  have hl := hs.a
  have hl2 := hs.q
  have d0 := hP.blk.cell 0
  have d1 := hP.blk.cell 1
  have e0 : w.cell? ⟨g, 0, none⟩ = some S.s0 := d0
  have e1 : w.cell? ⟨g, 1, none⟩ = some (.bool st.c0) := d1
  have f0 := hP.frozen 0
  have f1 := hP.frozen 1
  obtain ⟨P1, T1⟩ := hP.upd0 (w1 := w) (v := .slice none 0 0) [] (World.grownBy.refl w _) (Row.nil _ _ _) (.inr fun k hk => by cases hk)
  obtain ⟨P2, T2⟩ := P1.cellset (st' := closeM st 0 0) 1 (.bool true) (by simp [pipeC, closeM]) (by simp [closeM]) (by simp [closeM]) rfl (by simp [closeM])
  have HP2 := Lib.hid P2
  have HT2 := Lib.hid (T1.trans T2)
  have hg := hP.blk.lt
  have hsw := hP.rw_
  clear P1 T1 P2 T2 hP hs he d0 d1
  go_enter Try.func14, Try.ntmps14
  go_upto_region 5 with (go_at_call 34; refine (C.out).mono ?_; rintro e v1 ⟨rfl, rfl⟩)
  obtain ⟨V, hV⟩ : ∃ V, V = (w.setCell ⟨g, 0, none⟩ (.slice none 0 0)).setCell ⟨g, 1, none⟩ (.bool true) := ⟨_, rfl⟩
  rw [← hV] at HP2 HT2
  first | rw [← hV] | skip
  obtain ⟨S2, hS2⟩ : ∃ S2 : Sl, S2 = ⟨.slice none 0 0, S.s1, S.sw, S.sa⟩ := ⟨_, rfl⟩
  rw [← hS2] at HP2 HT2
  have hs2w : S2.sw = S.sw := by rw [hS2]
  have HSW := Lib.hid hs2w
  have hgV := HP2.out.blk.lt
  clear hV hS2 hs2w e0 e1 f0 f1
  by_cases hn : 0 < st.ws.length
  · obtain ⟨gw, off, cap, hsv, h1, h2, _, _, _⟩ := hsw.open hn
    unfold maxLen at h2
    have HSV := Lib.hid hsv
    have z6 : V.cell? ⟨g, 6, none⟩ = some (.slice (some ⟨gw, off, none⟩) st.ws.length cap) := by rw [← HSV.out, ← HSW.out]; exact HP2.out.cells.2.2.2.2.2.2.1
    clear hsv hsw
    go_wp2_with fail
    clear z6
    go_loopg [25] st.ws.length (fun k i wr => ∃ (m : Nat) (S' : Sl), m + k = st.ws.length ∧ i = .int .i64 m ∧ PipeAt wr g S' (closeM st 0 m) ∧ Turn g S w S' wr ∧ S'.sw = S.sw)
    case atStart => exact ⟨0, S2, by omega, rfl, HP2.out, HT2.out, HSW.out⟩
    case round =>
      obtain ⟨m, S3, hm, rfl, hP3, hT3, hs3⟩ := hrel
      have HM := Lib.hid hm
      have HP3 := Lib.hid hP3
      have HT3 := Lib.hid hT3
      have HS3 := Lib.hid hs3
      have hgr := hP3.blk.lt
      clear hm hP3 hT3 hs3
      by_cases hlt : m < st.ws.length
      · obtain ⟨y, hy⟩ : ∃ y, y = st.ws.getD m wt0 := ⟨_, rfl⟩
        have hrow := HP3.out.rw_
        rw [HS3.out, HSV.out] at hrow
        obtain ⟨gw', off', cap', hsv', _, _, hgw, hcl, _⟩ := hrow.open hn
        obtain ⟨rfl, rfl, rfl⟩ : gw = gw' ∧ off = off' ∧ cap = cap' := by
          injection hsv' with ha _ hc
          injection ha with ha
          injection ha with ha hb
          exact ⟨ha, hb, hc⟩
        obtain ⟨c0, c1, c2, c3, c4⟩ := wt_cells (w := wr) hcl hlt y hy
        have HY := Lib.hid hy
        clear hy hrow hcl hsv'
        have ey : cutA y = ⟨y.tk, 0, ⟨#[]⟩, 28⟩ := rfl
        have HSU := Lib.hid (closeM_succ st 0 m hlt)
        rw [← HY.out, ey] at HSU
        clear ey
        obtain ⟨⟨yk, yf, yc, yd⟩, yt⟩ := y
        simp only at c0 c1 c2 c3 c4 HSU
        go_upto_region 8 with fail
        obtain ⟨W1, hW1⟩ : ∃ W1, W1 = wr.alloc (.cells #[.int .i64 yk, .int .i64 yf, .int .i64 yc, .string yd, .int .i64 yt] 92) := ⟨_, rfl⟩
        obtain ⟨yb, hyb⟩ : ∃ yb, yb = wr.heap.size := ⟨_, rfl⟩
        have KY : Hid (Blk W1 yb 92 [.int .i64 yk, .int .i64 yf, .int .i64 yc, .string yd, .int .i64 yt]) := by rw [hW1, hyb]; exact Lib.hid (Blk.new wr 92 [_, _, _, _, _])
        have BW : Hid (Below wr.heap.size wr W1) := by rw [hW1]; exact Lib.hid ((Below.refl _ _).alloc (Nat.le_refl _) _)
        have HPW := Lib.hid (HP3.out.below BW.out)
        rw [← hW1, ← hyb]
        clear hW1 hyb c0 c1 c2 c3 c4
        have s7 := HPW.out.cells.2.2.2.2.2.2.2
        have s7f := HPW.out.frozen 7
        have hgW := HPW.out.blk.lt
        have hyW := KY.out.lt
        have y4 : W1.cell? ⟨yb, 4, none⟩ = some (.int .i64 yt) := KY.out.cell 4
        have hal := closeM_len st 0 m
        obtain ⟨hz0, hz1, hz2⟩ := HZ.out
        have hdr : Below W1.heap.size W1 ((W1.alloc (.cells #[.int .i64 yt, .int .i64 0, .string ⟨#[]⟩, .int .i64 28] 51)).drew) := ((Below.refl _ _).alloc (Nat.le_refl _) _).drew
        obtain ⟨v7, w7, hrun, hrow7, hgr7, hat⟩ := run_append_row (P := Try.prog) (w := (W1.alloc (.cells #[.int .i64 yt, .int .i64 0, .string ⟨#[]⟩, .int .i64 28] 51)).drew) 45 45 51 i0 _ 4 40 Try.underlying45 HI.out hz0 hz1 hz2 rfl (by decide) S3.sa (closeM st 0 m).ans.length (ansC (closeM st 0 m).ans) (HPW.out.ra.below hdr)
          ⟨W1.heap.size, 0, none⟩ 1 1 [.int .i64 yt, .int .i64 0, .string ⟨#[]⟩, .int .i64 28] rfl (World.news_of_block (cs := #[.int .i64 yt, .int .i64 0, .string ⟨#[]⟩, .int .i64 28]) (t := 51) (fr := (0, 0)) (heap_alloc_new W1 _)) (by simp [Value.oneCell']) (by unfold maxLen; omega) (by omega)
        obtain ⟨a7, cap7, rfl, _⟩ := hrow7.form
        rw [run_appSem] at hrun
        have hsg : S3.sa.ownBlock ≠ some g := HPW.out.ra.ne HPW.out.blk (by decide)
        have w7c : w7.cell? ⟨g, 7, none⟩ = some S3.sa := by rw [grown_cell hgr7 (by simp; omega) hsg, World.cell?_drew, World.cell?_alloc_lt _ _ _ hgW]; exact s7
        have w7f : w7.frozen? ⟨g, 7, none⟩ = false := by rw [grown_frozen hgr7 (by simp; omega) hsg, World.frozen?_drew, World.frozen?_of_block (w := W1) (hdr.block g hgW)]; exact s7f
        obtain ⟨P7, T7⟩ := HPW.out.upda (w1 := w7) (v := .slice a7 ((closeM st 0 m).ans.length + 1) cap7) ((closeM st 0 m).ans ++ [⟨yt, 0, ⟨#[]⟩, 28⟩]) (grown_trans (below_grown hdr _) hgr7) (by simpa [ansC, anC] using hrow7) (hat.imp id fun h k hk => by have := h k hk; simp at this; omega)
        have FIN := Lib.hid ((HT3.out.trans (Turn.of_below BW.out)).trans T7)
        have e3 : (⟨(closeM st 0 m).q0, (closeM st 0 m).q1, (closeM st 0 m).c0, (closeM st 0 m).c1, (closeM st 0 m).limit, (closeM st 0 m).tks, (closeM st 0 m).ws, (closeM st 0 m).ans ++ [⟨yt, 0, ⟨#[]⟩, 28⟩]⟩ : St) = closeM st 0 (m + 1) := by rw [← HSU.out]; rfl
        rw [e3] at P7
        have HP7 := Lib.hid P7
        clear e3 P7 T7 hrow7 hat hgr7 hdr hsg hz0 hz1 hz2 hal
        go_region
        all_goals go_wp2_with fail
        all_goals go_roundg (gk - 1)
        case measure => have := HM.out; omega
        case rel => exact ⟨m + 1, _, by have := HM.out; omega, by go_num, HP7.out, FIN.out, HS3.out⟩
      · obtain rfl : m = st.ws.length := by have := HM.out; omega
        have hP3 := HP3.out
        have z6 := hP3.cells.2.2.2.2.2.2.1
        have z6f := hP3.frozen 6
        obtain ⟨P9, T9⟩ := hP3.updw (w1 := wr) (v := .slice none 0 0) [] (World.grownBy.refl wr _) (Row.nil _ _ _) (.inr fun k hk => by cases hk)
        have FIN : Hid (PipeAt (wr.setCell ⟨g, 6, none⟩ (.slice none 0 0)) g _ (closeS st 0) ∧ _) := Lib.hid ⟨by
          have e : closeS st 0 = ⟨(closeM st 0 st.ws.length).q0, (closeM st 0 st.ws.length).q1, (closeM st 0 st.ws.length).c0, (closeM st 0 st.ws.length).c1, (closeM st 0 st.ws.length).limit, (closeM st 0 st.ws.length).tks, [], (closeM st 0 st.ws.length).ans⟩ := by simp [closeS, closeM]
          rw [e]
          exact P9, HT3.out.trans T9⟩
        clear hP3 P9 T9
        go_wp2_with fail
        go_ret
        exact ⟨rfl, _, FIN.out.1, FIN.out.2⟩
  · have hq0 : st.ws = [] := List.eq_nil_of_length_eq_zero (by omega)
    obtain ⟨aw, cap, hsv, h1, h2⟩ := hsw.form
    unfold maxLen at h2
    have HQ := Lib.hid hq0
    have z6 : V.cell? ⟨g, 6, none⟩ = some (.slice aw 0 cap) := by rw [show (.slice aw 0 cap : Value) = S.sw by rw [hsv, hq0]; rfl, ← HSW.out]; exact HP2.out.cells.2.2.2.2.2.2.1
    have z6f := HP2.out.frozen 6
    obtain ⟨P9, T9⟩ := HP2.out.updw (w1 := V) (v := .slice none 0 0) [] (World.grownBy.refl V _) (Row.nil _ _ _) (.inr fun k hk => by cases hk)
    have FIN : Hid (PipeAt (V.setCell ⟨g, 6, none⟩ (.slice none 0 0)) g _ (closeS st 0) ∧ _) := Lib.hid ⟨by
      have e : closeS st 0 = ⟨(closeM st 0 0).q0, (closeM st 0 0).q1, (closeM st 0 0).c0, (closeM st 0 0).c1, (closeM st 0 0).limit, (closeM st 0 0).tks, [], (closeM st 0 0).ans⟩ := by simp [closeS, closeM, HQ.out]
      rw [e]
      exact P9, HT2.out.trans T9⟩
    clear P9 T9 hsv hsw hq0
    go_wp2_with fail
    go_loopg [25] 0 (fun k i wr => i = .int .i64 0 ∧ wr = V)
    case atStart => exact ⟨rfl, rfl⟩
    case round =>
      obtain ⟨rfl, rfl⟩ := hrel
      go_wp2_with fail
      go_ret
      exact ⟨rfl, _, FIN.out.1, FIN.out.2⟩
set_option maxRecDepth 100000 in
set_option maxHeartbeats 1600000 in
theorem Close_1 (g : Nat) (S : Sl) (st : St) (w : World) (hP : PipeAt w g S st) (hs : Sm st) (he : openE st 1 = 0) :
    Calls Try.prog 14 #[.pointer (some ⟨g, 0, none⟩), .int .i64 1] w fun e w' => e = .returned (.int .i64 0) ∧ ∃ S', PipeAt w' g S' (closeS st 1) ∧ Turn g S w S' w' := by
  obtain ⟨i0, hi, hz0, hz1, hz2⟩ := info_parts Try.info51
  have HI := Lib.hid hi
  have HZ := Lib.hid (And.intro hz0 (And.intro hz1 hz2))
  clear hi hz0 hz1 hz2
  have C := Lib.hid (opened_any 1 g S st w hP)
  rw [he] at C
  have hl := hs.a
  have hl2 := hs.q
  have d0 := hP.blk.cell 2
  have d1 := hP.blk.cell 3
  have e0 : w.cell? ⟨g, 2, none⟩ = some S.s1 := d0
  have e1 : w.cell? ⟨g, 3, none⟩ = some (.bool st.c1) := d1
  have f0 := hP.frozen 2
  have f1 := hP.frozen 3
  obtain ⟨P1, T1⟩ := hP.upd1 (w1 := w) (v := .slice none 0 0) [] (World.grownBy.refl w _) (Row.nil _ _ _) (.inr fun k hk => by cases hk)
  obtain ⟨P2, T2⟩ := P1.cellset (st' := closeM st 1 0) 3 (.bool true) (by simp [pipeC, closeM]) (by simp [closeM]) (by simp [closeM]) rfl (by simp [closeM])
  have HP2 := Lib.hid P2
  have HT2 := Lib.hid (T1.trans T2)
  have hg := hP.blk.lt
  have hsw := hP.rw_
  clear P1 T1 P2 T2 hP hs he d0 d1
  go_enter Try.func14, Try.ntmps14
  go_upto_region 5 with (go_at_call 34; refine (C.out).mono ?_; rintro e v1 ⟨rfl, rfl⟩)
  obtain ⟨V, hV⟩ : ∃ V, V = (w.setCell ⟨g, 2, none⟩ (.slice none 0 0)).setCell ⟨g, 3, none⟩ (.bool true) := ⟨_, rfl⟩
  rw [← hV] at HP2 HT2
  first | rw [← hV] | skip
  obtain ⟨S2, hS2⟩ : ∃ S2 : Sl, S2 = ⟨S.s0, .slice none 0 0, S.sw, S.sa⟩ := ⟨_, rfl⟩
  rw [← hS2] at HP2 HT2
  have hs2w : S2.sw = S.sw := by rw [hS2]
  have HSW := Lib.hid hs2w
  have hgV := HP2.out.blk.lt
  clear hV hS2 hs2w e0 e1 f0 f1
  by_cases hn : 0 < st.ws.length
  · obtain ⟨gw, off, cap, hsv, h1, h2, _, _, _⟩ := hsw.open hn
    unfold maxLen at h2
    have HSV := Lib.hid hsv
    have z6 : V.cell? ⟨g, 6, none⟩ = some (.slice (some ⟨gw, off, none⟩) st.ws.length cap) := by rw [← HSV.out, ← HSW.out]; exact HP2.out.cells.2.2.2.2.2.2.1
    clear hsv hsw
    go_wp2_with fail
    clear z6
    go_loopg [25] st.ws.length (fun k i wr => ∃ (m : Nat) (S' : Sl), m + k = st.ws.length ∧ i = .int .i64 m ∧ PipeAt wr g S' (closeM st 1 m) ∧ Turn g S w S' wr ∧ S'.sw = S.sw)
    case atStart => exact ⟨0, S2, by omega, rfl, HP2.out, HT2.out, HSW.out⟩
    case round =>
      obtain ⟨m, S3, hm, rfl, hP3, hT3, hs3⟩ := hrel
      have HM := Lib.hid hm
      have HP3 := Lib.hid hP3
      have HT3 := Lib.hid hT3
      have HS3 := Lib.hid hs3
      have hgr := hP3.blk.lt
      clear hm hP3 hT3 hs3
      by_cases hlt : m < st.ws.length
      · obtain ⟨y, hy⟩ : ∃ y, y = st.ws.getD m wt0 := ⟨_, rfl⟩
        have hrow := HP3.out.rw_
        rw [HS3.out, HSV.out] at hrow
        obtain ⟨gw', off', cap', hsv', _, _, hgw, hcl, _⟩ := hrow.open hn
        obtain ⟨rfl, rfl, rfl⟩ : gw = gw' ∧ off = off' ∧ cap = cap' := by
          injection hsv' with ha _ hc
          injection ha with ha
          injection ha with ha hb
          exact ⟨ha, hb, hc⟩
        obtain ⟨c0, c1, c2, c3, c4⟩ := wt_cells (w := wr) hcl hlt y hy
        have HY := Lib.hid hy
        clear hy hrow hcl hsv'
        have ey : cutA y = ⟨y.tk, 0, ⟨#[]⟩, 28⟩ := rfl
        have HSU := Lib.hid (closeM_succ st 1 m hlt)
        rw [← HY.out, ey] at HSU
        clear ey
        obtain ⟨⟨yk, yf, yc, yd⟩, yt⟩ := y
        simp only at c0 c1 c2 c3 c4 HSU
        go_upto_region 8 with fail
        obtain ⟨W1, hW1⟩ : ∃ W1, W1 = wr.alloc (.cells #[.int .i64 yk, .int .i64 yf, .int .i64 yc, .string yd, .int .i64 yt] 92) := ⟨_, rfl⟩
        obtain ⟨yb, hyb⟩ : ∃ yb, yb = wr.heap.size := ⟨_, rfl⟩
        have KY : Hid (Blk W1 yb 92 [.int .i64 yk, .int .i64 yf, .int .i64 yc, .string yd, .int .i64 yt]) := by rw [hW1, hyb]; exact Lib.hid (Blk.new wr 92 [_, _, _, _, _])
        have BW : Hid (Below wr.heap.size wr W1) := by rw [hW1]; exact Lib.hid ((Below.refl _ _).alloc (Nat.le_refl _) _)
        have HPW := Lib.hid (HP3.out.below BW.out)
        rw [← hW1, ← hyb]
        clear hW1 hyb c0 c1 c2 c3 c4
        have s7 := HPW.out.cells.2.2.2.2.2.2.2
        have s7f := HPW.out.frozen 7
        have hgW := HPW.out.blk.lt
        have hyW := KY.out.lt
        have y4 : W1.cell? ⟨yb, 4, none⟩ = some (.int .i64 yt) := KY.out.cell 4
        have hal := closeM_len st 1 m
        obtain ⟨hz0, hz1, hz2⟩ := HZ.out
        have hdr : Below W1.heap.size W1 ((W1.alloc (.cells #[.int .i64 yt, .int .i64 0, .string ⟨#[]⟩, .int .i64 28] 51)).drew) := ((Below.refl _ _).alloc (Nat.le_refl _) _).drew
        obtain ⟨v7, w7, hrun, hrow7, hgr7, hat⟩ := run_append_row (P := Try.prog) (w := (W1.alloc (.cells #[.int .i64 yt, .int .i64 0, .string ⟨#[]⟩, .int .i64 28] 51)).drew) 45 45 51 i0 _ 4 40 Try.underlying45 HI.out hz0 hz1 hz2 rfl (by decide) S3.sa (closeM st 1 m).ans.length (ansC (closeM st 1 m).ans) (HPW.out.ra.below hdr)
          ⟨W1.heap.size, 0, none⟩ 1 1 [.int .i64 yt, .int .i64 0, .string ⟨#[]⟩, .int .i64 28] rfl (World.news_of_block (cs := #[.int .i64 yt, .int .i64 0, .string ⟨#[]⟩, .int .i64 28]) (t := 51) (fr := (0, 0)) (heap_alloc_new W1 _)) (by simp [Value.oneCell']) (by unfold maxLen; omega) (by omega)
        obtain ⟨a7, cap7, rfl, _⟩ := hrow7.form
        rw [run_appSem] at hrun
        have hsg : S3.sa.ownBlock ≠ some g := HPW.out.ra.ne HPW.out.blk (by decide)
        have w7c : w7.cell? ⟨g, 7, none⟩ = some S3.sa := by rw [grown_cell hgr7 (by simp; omega) hsg, World.cell?_drew, World.cell?_alloc_lt _ _ _ hgW]; exact s7
        have w7f : w7.frozen? ⟨g, 7, none⟩ = false := by rw [grown_frozen hgr7 (by simp; omega) hsg, World.frozen?_drew, World.frozen?_of_block (w := W1) (hdr.block g hgW)]; exact s7f
        obtain ⟨P7, T7⟩ := HPW.out.upda (w1 := w7) (v := .slice a7 ((closeM st 1 m).ans.length + 1) cap7) ((closeM st 1 m).ans ++ [⟨yt, 0, ⟨#[]⟩, 28⟩]) (grown_trans (below_grown hdr _) hgr7) (by simpa [ansC, anC] using hrow7) (hat.imp id fun h k hk => by have := h k hk; simp at this; omega)
        have FIN := Lib.hid ((HT3.out.trans (Turn.of_below BW.out)).trans T7)
        have e3 : (⟨(closeM st 1 m).q0, (closeM st 1 m).q1, (closeM st 1 m).c0, (closeM st 1 m).c1, (closeM st 1 m).limit, (closeM st 1 m).tks, (closeM st 1 m).ws, (closeM st 1 m).ans ++ [⟨yt, 0, ⟨#[]⟩, 28⟩]⟩ : St) = closeM st 1 (m + 1) := by rw [← HSU.out]; rfl
        rw [e3] at P7
        have HP7 := Lib.hid P7
        clear e3 P7 T7 hrow7 hat hgr7 hdr hsg hz0 hz1 hz2 hal
        go_region
        all_goals go_wp2_with fail
        all_goals go_roundg (gk - 1)
        case measure => have := HM.out; omega
        case rel => exact ⟨m + 1, _, by have := HM.out; omega, by go_num, HP7.out, FIN.out, HS3.out⟩
      · obtain rfl : m = st.ws.length := by have := HM.out; omega
        have hP3 := HP3.out
        have z6 := hP3.cells.2.2.2.2.2.2.1
        have z6f := hP3.frozen 6
        obtain ⟨P9, T9⟩ := hP3.updw (w1 := wr) (v := .slice none 0 0) [] (World.grownBy.refl wr _) (Row.nil _ _ _) (.inr fun k hk => by cases hk)
        have FIN : Hid (PipeAt (wr.setCell ⟨g, 6, none⟩ (.slice none 0 0)) g _ (closeS st 1) ∧ _) := Lib.hid ⟨by
          have e : closeS st 1 = ⟨(closeM st 1 st.ws.length).q0, (closeM st 1 st.ws.length).q1, (closeM st 1 st.ws.length).c0, (closeM st 1 st.ws.length).c1, (closeM st 1 st.ws.length).limit, (closeM st 1 st.ws.length).tks, [], (closeM st 1 st.ws.length).ans⟩ := by simp [closeS, closeM]
          rw [e]
          exact P9, HT3.out.trans T9⟩
        clear hP3 P9 T9
        go_wp2_with fail
        go_ret
        exact ⟨rfl, _, FIN.out.1, FIN.out.2⟩
  · have hq0 : st.ws = [] := List.eq_nil_of_length_eq_zero (by omega)
    obtain ⟨aw, cap, hsv, h1, h2⟩ := hsw.form
    unfold maxLen at h2
    have HQ := Lib.hid hq0
    have z6 : V.cell? ⟨g, 6, none⟩ = some (.slice aw 0 cap) := by rw [show (.slice aw 0 cap : Value) = S.sw by rw [hsv, hq0]; rfl, ← HSW.out]; exact HP2.out.cells.2.2.2.2.2.2.1
    have z6f := HP2.out.frozen 6
    obtain ⟨P9, T9⟩ := HP2.out.updw (w1 := V) (v := .slice none 0 0) [] (World.grownBy.refl V _) (Row.nil _ _ _) (.inr fun k hk => by cases hk)
    have FIN : Hid (PipeAt (V.setCell ⟨g, 6, none⟩ (.slice none 0 0)) g _ (closeS st 1) ∧ _) := Lib.hid ⟨by
      have e : closeS st 1 = ⟨(closeM st 1 0).q0, (closeM st 1 0).q1, (closeM st 1 0).c0, (closeM st 1 0).c1, (closeM st 1 0).limit, (closeM st 1 0).tks, [], (closeM st 1 0).ans⟩ := by simp [closeS, closeM, HQ.out]
      rw [e]
      exact P9, HT2.out.trans T9⟩
    clear P9 T9 hsv hsw hq0
    go_wp2_with fail
    go_loopg [25] 0 (fun k i wr => i = .int .i64 0 ∧ wr = V)
    case atStart => exact ⟨rfl, rfl⟩
    case round =>
      obtain ⟨rfl, rfl⟩ := hrel
      go_wp2_with fail
      go_ret
      exact ⟨rfl, _, FIN.out.1, FIN.out.2⟩
theorem Close_any (a : Int) (g : Nat) (S : Sl) (st : St) (w : World) (hP : PipeAt w g S st) (hs : Sm st) :
    Calls Try.prog 14 #[.pointer (some ⟨g, 0, none⟩), .int .i64 a] w fun e w' => e = .returned (.int .i64 (closeR st a).2) ∧ ∃ S', PipeAt w' g S' (closeR st a).1 ∧ Turn g S w S' w' := by
  unfold closeR
  by_cases he : openE st a = 0
  · rw [if_pos he]
    rcases openE_in he with rfl | rfl
    · exact Close_0 g S st w hP hs he
    · exact Close_1 g S st w hP hs he
  · rw [if_neg he]
    exact (Close_err a g S st w hP he).mono fun e w' h => ⟨h.1, S, h.2 ▸ hP, h.2 ▸ Turn.refl g S w⟩
end Go.Proofs.Ytmnlojbfdpjjdaa
