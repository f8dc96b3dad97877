/- The law's call of the reference: the answers; every kind. -/
import Derived.Test.YtmnlojbfdpjjdaaR20
namespace Go.Proofs.Ytmnlojbfdpjjdaa
open Go.RowKit
variable {F : Nat → Prop}
attribute [local go_sem] Oper.semAt_some
attribute [local go_sem ↓] run_appSem
/-- while the answers are copied -/
structure Ai (F : Nat → Prop) (w : World) (S' : Sl) (st' : St) (sv : Value) (n : Nat) (ys : List Value) (va : Value) (m : Nat) (xs : List Value) (wr : World) : Prop where
  kx : Blk wr (w.heap.size) 60 (rpC S' st')
  k6 : Blk wr (w.heap.size + 1 + 1 + 1 + 1) 47 [.int .i64 0, .string ⟨#[]⟩, .int .i64 0, va]
  kz : Blk wr (w.heap.size + 1 + 1) 60 [.int .i64 0, .slice none 0 0, .slice none 0 0, .bool false, .bool false, .int .i64 0, .slice none 0 0, .slice none 0 0]
  k5 : Blk wr (w.heap.size + 1 + 1 + 1) 47 [.int .i64 0, .string ⟨#[]⟩, .int .i64 0, .slice none 0 0]
  rf : Ref F wr S' st'
  src : Row wr 115 4 sv n ys
  row : Row wr 51 4 va m xs
  low : Below w.heap.size w wr
  own : ∀ k, va.ownBlock = some k → w.heap.size ≤ k
theorem Ai.below {w wr W : World} {S' : Sl} {st' : St} {sv va : Value} {n m : Nat} {ys xs : List Value} (h : Ai F w S' st' sv n ys va m xs wr) (hb : Below wr.heap.size wr W) : Ai F w S' st' sv n ys va m xs W :=
  ⟨keepBlk hb h.kx, keepBlk hb h.k6, keepBlk hb h.kz, keepBlk hb h.k5, h.rf.below hb, h.src.below hb, h.row.below hb, keepBelow h.low hb, h.own⟩
theorem Ai.grown {w W w7 : World} {S' : Sl} {st' : St} {sv va v7 : Value} {n m m7 : Nat} {ys xs xs7 : List Value} (h : Ai F w S' st' sv n ys va m xs W) (hg : W.grownBy w7 va.ownBlock) (hr : Row w7 51 4 v7 m7 xs7) (ha : v7.ownBlock = va.ownBlock ∨ ∀ k, v7.ownBlock = some k → W.heap.size ≤ k) :
    Blk w7 (w.heap.size + 1 + 1 + 1 + 1) 47 [.int .i64 0, .string ⟨#[]⟩, .int .i64 0, va] ∧ Ai F w S' st' sv n ys v7 m7 xs7 (w7.setCell ⟨w.heap.size + 1 + 1 + 1 + 1, 3, none⟩ v7) := by
  have k6 := h.k6.grown hg (h.row.ne h.k6 (by decide)).symm
  have n6 : ∀ {i j : Nat}, i ≠ j → w.heap.size + i ≠ w.heap.size + j := fun e => by omega
  refine ⟨k6, (h.kx.grown hg (h.row.ne h.kx (by decide)).symm).far (show w.heap.size ≠ w.heap.size + 1 + 1 + 1 + 1 by omega) _, k6.set_ 3 _, (h.kz.grown hg (h.row.ne h.kz (by decide)).symm).far (show w.heap.size + 1 + 1 ≠ w.heap.size + 1 + 1 + 1 + 1 by omega) _, (h.k5.grown hg (h.row.ne h.k5 (by decide)).symm).far (show w.heap.size + 1 + 1 + 1 ≠ w.heap.size + 1 + 1 + 1 + 1 by omega) _, Ref.set47 ⟨h.rf.r0.grown hg fun k hk => h.rf.r0.ne2 h.row (by decide) hk, h.rf.r1.grown hg fun k hk => h.rf.r1.ne2 h.row (by decide) hk, h.rf.rw_.grown hg fun k hk => h.rf.rw_.ne2 h.row (by decide) hk, h.rf.ra.grown hg fun k hk => h.rf.ra.ne2 h.row (by decide) hk, h.rf.o.to hg.size⟩ k6 _, ?_, ?_, ?_, ?_⟩
  · have hs := h.src.grown hg fun k hk => h.src.ne2 h.row (by decide) hk
    exact hs.set_ (hs.ne k6 (by decide)) _
  · exact hr.set_ (hr.ne k6 (by decide)) _
  · have hb : Below w.heap.size w w7 := ⟨hg.os.trans h.low.os, hg.tape.trans h.low.tape, hg.output.trans h.low.output, Nat.le_trans h.low.size hg.size, fun k hk => (hg.block k (Nat.lt_of_lt_of_le hk h.low.size) (fun e => by have := h.own k e.symm; omega)).trans (h.low.block k hk)⟩
    exact hb.setCell (show w.heap.size ≤ w.heap.size + 1 + 1 + 1 + 1 by omega) _
  · intro k hk
    rcases ha with e | e
    · exact h.own k (e ▸ hk)
    · exact Nat.le_trans h.low.size (e k hk)
theorem ansC_take (l : List An) (m : Nat) (hm : m < l.length) : ansC (l.take (m + 1)) = ansC (l.take m) ++ anC (l.getD m an00) := by
  rw [List.take_succ_eq_append_getElem hm, ansC_append, List.getD_eq_getElem?_getD, List.getElem?_eq_getElem hm]
  simp [ansC]
set_option maxRecDepth 100000 in
set_option maxHeartbeats 3200000 in
theorem ref_answers (t ok of_ oc : Int) (od : ByteArray) (S : Sl) (st : St) (hsm : st.ans.length ≤ 100000) (w : World) (hR : Ref F w S st) :
    Calls Try.prog 23 #[rpV S st, .agg #[.int .i64 5, .int .i64 t, .int .i64 ok, .int .i64 of_, .int .i64 oc, .string od]] w (RefSays F w (taken st) 0 ⟨#[]⟩ 0 st.ans) := by
  obtain ⟨i0, hi, hz0, hz1, hz2⟩ := info_parts Try.info51
  have HI := Lib.hid hi
  have HZ := Lib.hid (And.intro hz0 (And.intro hz1 hz2))
  clear hi hz0 hz1 hz2
  have C := Lib.hid (fun W (hb : Below w.heap.size w W) => rtaken_any S st W (hR.below hb))
  have XW := Lib.hid hR
  obtain ⟨za0, zk0, za1, zk1, zaw, zkw, zaa, zka, rfl⟩ := hR.open
  clear hR
  unfold rpV at *
  have BB0 := Lib.hid (show Below w.heap.size w ((((((w.alloc (.cells #[.int .i64 st.limit, .slice za0 st.q0.length zk0, .slice za1 st.q1.length zk1, .bool st.c0, .bool st.c1, .int .i64 st.tks, .slice zaw st.ws.length zkw, .slice zaa st.ans.length zka] 60)).alloc (.cells #[.int .i64 5, .int .i64 t, .int .i64 ok, .int .i64 of_, .int .i64 oc, .string od] 44)).alloc (.cells #[.int .i64 0, .slice none 0 0, .slice none 0 0, .bool false, .bool false, .int .i64 0, .slice none 0 0, .slice none 0 0] 60)).alloc (.cells #[.int .i64 0, .string ⟨#[]⟩, .int .i64 0, .slice none 0 0] 47)).alloc (.cells #[.int .i64 0, .string ⟨#[]⟩, .int .i64 0, .slice none 0 0] 47)).alloc (.cells #[.int .i64 ok, .int .i64 of_, .int .i64 oc, .string od] 107)) from ((((((Below.refl _ _).alloc (Nat.le_refl _) _).alloc (by simp) _).alloc (by simp; omega) _).alloc (by simp; omega) _).alloc (by simp; omega) _).alloc (by simp; omega) _)
  have KA0 := Lib.hid (show Blk ((((((w.alloc (.cells #[.int .i64 st.limit, .slice za0 st.q0.length zk0, .slice za1 st.q1.length zk1, .bool st.c0, .bool st.c1, .int .i64 st.tks, .slice zaw st.ws.length zkw, .slice zaa st.ans.length zka] 60)).alloc (.cells #[.int .i64 5, .int .i64 t, .int .i64 ok, .int .i64 of_, .int .i64 oc, .string od] 44)).alloc (.cells #[.int .i64 0, .slice none 0 0, .slice none 0 0, .bool false, .bool false, .int .i64 0, .slice none 0 0, .slice none 0 0] 60)).alloc (.cells #[.int .i64 0, .string ⟨#[]⟩, .int .i64 0, .slice none 0 0] 47)).alloc (.cells #[.int .i64 0, .string ⟨#[]⟩, .int .i64 0, .slice none 0 0] 47)).alloc (.cells #[.int .i64 ok, .int .i64 of_, .int .i64 oc, .string od] 107)) (w.heap.size) 60 [.int .i64 st.limit, .slice za0 st.q0.length zk0, .slice za1 st.q1.length zk1, .bool st.c0, .bool st.c1, .int .i64 st.tks, .slice zaw st.ws.length zkw, .slice zaa st.ans.length zka] from (((((Blk.new w 60 _).alloc _).alloc _).alloc _).alloc _).alloc _)
  have KT0 := Lib.hid (show Blk ((((((w.alloc (.cells #[.int .i64 st.limit, .slice za0 st.q0.length zk0, .slice za1 st.q1.length zk1, .bool st.c0, .bool st.c1, .int .i64 st.tks, .slice zaw st.ws.length zkw, .slice zaa st.ans.length zka] 60)).alloc (.cells #[.int .i64 5, .int .i64 t, .int .i64 ok, .int .i64 of_, .int .i64 oc, .string od] 44)).alloc (.cells #[.int .i64 0, .slice none 0 0, .slice none 0 0, .bool false, .bool false, .int .i64 0, .slice none 0 0, .slice none 0 0] 60)).alloc (.cells #[.int .i64 0, .string ⟨#[]⟩, .int .i64 0, .slice none 0 0] 47)).alloc (.cells #[.int .i64 0, .string ⟨#[]⟩, .int .i64 0, .slice none 0 0] 47)).alloc (.cells #[.int .i64 ok, .int .i64 of_, .int .i64 oc, .string od] 107)) (w.heap.size + 1) 44 [.int .i64 5, .int .i64 t, .int .i64 ok, .int .i64 of_, .int .i64 oc, .string od] from ((((blk_at (by simp) 44 [_, _, _, _, _, _]).alloc _).alloc _).alloc _).alloc _)
  have KZ0 := Lib.hid (show Blk ((((((w.alloc (.cells #[.int .i64 st.limit, .slice za0 st.q0.length zk0, .slice za1 st.q1.length zk1, .bool st.c0, .bool st.c1, .int .i64 st.tks, .slice zaw st.ws.length zkw, .slice zaa st.ans.length zka] 60)).alloc (.cells #[.int .i64 5, .int .i64 t, .int .i64 ok, .int .i64 of_, .int .i64 oc, .string od] 44)).alloc (.cells #[.int .i64 0, .slice none 0 0, .slice none 0 0, .bool false, .bool false, .int .i64 0, .slice none 0 0, .slice none 0 0] 60)).alloc (.cells #[.int .i64 0, .string ⟨#[]⟩, .int .i64 0, .slice none 0 0] 47)).alloc (.cells #[.int .i64 0, .string ⟨#[]⟩, .int .i64 0, .slice none 0 0] 47)).alloc (.cells #[.int .i64 ok, .int .i64 of_, .int .i64 oc, .string od] 107)) (w.heap.size + 1 + 1) 60 [.int .i64 0, .slice none 0 0, .slice none 0 0, .bool false, .bool false, .int .i64 0, .slice none 0 0, .slice none 0 0] from (((blk_at (by simp) 60 [_, _, _, _, _, _, _, _]).alloc _).alloc _).alloc _)
  have K50 := Lib.hid (show Blk ((((((w.alloc (.cells #[.int .i64 st.limit, .slice za0 st.q0.length zk0, .slice za1 st.q1.length zk1, .bool st.c0, .bool st.c1, .int .i64 st.tks, .slice zaw st.ws.length zkw, .slice zaa st.ans.length zka] 60)).alloc (.cells #[.int .i64 5, .int .i64 t, .int .i64 ok, .int .i64 of_, .int .i64 oc, .string od] 44)).alloc (.cells #[.int .i64 0, .slice none 0 0, .slice none 0 0, .bool false, .bool false, .int .i64 0, .slice none 0 0, .slice none 0 0] 60)).alloc (.cells #[.int .i64 0, .string ⟨#[]⟩, .int .i64 0, .slice none 0 0] 47)).alloc (.cells #[.int .i64 0, .string ⟨#[]⟩, .int .i64 0, .slice none 0 0] 47)).alloc (.cells #[.int .i64 ok, .int .i64 of_, .int .i64 oc, .string od] 107)) (w.heap.size + 1 + 1 + 1) 47 [.int .i64 0, .string ⟨#[]⟩, .int .i64 0, .slice none 0 0] from ((blk_at (by simp) 47 [_, _, _, _]).alloc _).alloc _)
  have K60 := Lib.hid (show Blk ((((((w.alloc (.cells #[.int .i64 st.limit, .slice za0 st.q0.length zk0, .slice za1 st.q1.length zk1, .bool st.c0, .bool st.c1, .int .i64 st.tks, .slice zaw st.ws.length zkw, .slice zaa st.ans.length zka] 60)).alloc (.cells #[.int .i64 5, .int .i64 t, .int .i64 ok, .int .i64 of_, .int .i64 oc, .string od] 44)).alloc (.cells #[.int .i64 0, .slice none 0 0, .slice none 0 0, .bool false, .bool false, .int .i64 0, .slice none 0 0, .slice none 0 0] 60)).alloc (.cells #[.int .i64 0, .string ⟨#[]⟩, .int .i64 0, .slice none 0 0] 47)).alloc (.cells #[.int .i64 0, .string ⟨#[]⟩, .int .i64 0, .slice none 0 0] 47)).alloc (.cells #[.int .i64 ok, .int .i64 of_, .int .i64 oc, .string od] 107)) (w.heap.size + 1 + 1 + 1 + 1) 47 [.int .i64 0, .string ⟨#[]⟩, .int .i64 0, .slice none 0 0] from (blk_at (by simp) 47 [_, _, _, _]).alloc _)
  have K70 := Lib.hid (show Blk ((((((w.alloc (.cells #[.int .i64 st.limit, .slice za0 st.q0.length zk0, .slice za1 st.q1.length zk1, .bool st.c0, .bool st.c1, .int .i64 st.tks, .slice zaw st.ws.length zkw, .slice zaa st.ans.length zka] 60)).alloc (.cells #[.int .i64 5, .int .i64 t, .int .i64 ok, .int .i64 of_, .int .i64 oc, .string od] 44)).alloc (.cells #[.int .i64 0, .slice none 0 0, .slice none 0 0, .bool false, .bool false, .int .i64 0, .slice none 0 0, .slice none 0 0] 60)).alloc (.cells #[.int .i64 0, .string ⟨#[]⟩, .int .i64 0, .slice none 0 0] 47)).alloc (.cells #[.int .i64 0, .string ⟨#[]⟩, .int .i64 0, .slice none 0 0] 47)).alloc (.cells #[.int .i64 ok, .int .i64 of_, .int .i64 oc, .string od] 107)) (w.heap.size + 1 + 1 + 1 + 1 + 1) 107 [.int .i64 ok, .int .i64 of_, .int .i64 oc, .string od] from blk_at (by simp) 107 [_, _, _, _])
  go_enter Try.func23, Try.ntmps23
  go_wp2_with (go_at_call 49; refine (C.out _ (BB0.out.alloc BB0.out.size _)).mono ?_; rintro e v1 ⟨rfl, hb0⟩; have hb := ((Below.refl _ _).alloc (Nat.le_refl _) _).trans (hb0.mono (by simp)); have BB1 := Lib.hid (keepBelow BB0.out hb); have KA1 := Lib.hid (keepBlk hb KA0.out); have a0 : v1.cell? ⟨w.heap.size, 0, none⟩ = some (.int .i64 st.limit) := KA1.out.cell 0; have a1 : v1.cell? ⟨w.heap.size, 1, none⟩ = some (.slice za0 st.q0.length zk0) := KA1.out.cell 1; have a2 : v1.cell? ⟨w.heap.size, 2, none⟩ = some (.slice za1 st.q1.length zk1) := KA1.out.cell 2; have a3 : v1.cell? ⟨w.heap.size, 3, none⟩ = some (.bool st.c0) := KA1.out.cell 3; have a4 : v1.cell? ⟨w.heap.size, 4, none⟩ = some (.bool st.c1) := KA1.out.cell 4; have a5 : v1.cell? ⟨w.heap.size, 5, none⟩ = some (.int .i64 st.tks) := KA1.out.cell 5; have a6 : v1.cell? ⟨w.heap.size, 6, none⟩ = some (.slice zaw st.ws.length zkw) := KA1.out.cell 6; have a7 : v1.cell? ⟨w.heap.size, 7, none⟩ = some (.slice zaa st.ans.length zka) := KA1.out.cell 7; have K61 := Lib.hid (keepBlk hb K60.out); have d0 : v1.cell? ⟨w.heap.size + 1 + 1 + 1 + 1, 0, none⟩ = some (.int .i64 0) := K61.out.cell 0; have d1 : v1.cell? ⟨w.heap.size + 1 + 1 + 1 + 1, 1, none⟩ = some (.string ⟨#[]⟩) := K61.out.cell 1; have d2 : v1.cell? ⟨w.heap.size + 1 + 1 + 1 + 1, 2, none⟩ = some (.int .i64 0) := K61.out.cell 2; have d3 : v1.cell? ⟨w.heap.size + 1 + 1 + 1 + 1, 3, none⟩ = some (.slice none 0 0) := K61.out.cell 3; have KZ1 := Lib.hid (keepBlk hb KZ0.out); have K51 := Lib.hid (keepBlk hb K50.out); have fA1 := fun i => KA1.out.frozen i; have f61 := fun i => K61.out.frozen i; clear hb hb0)
  refine gen_world (fun wx => Ai F w ⟨.slice za0 st.q0.length zk0, .slice za1 st.q1.length zk1, .slice zaw st.ws.length zkw, .slice none 0 0⟩ (taken st) (.slice zaa st.ans.length zka) st.ans.length (ansC st.ans) (.slice none 0 0) 0 [] wx) ?_ (fun wc hcut => ?_)
  · obtain ⟨o1, o2, o3, o4⟩ := put8 KA1.out (.int .i64 (taken st).limit) (.slice za0 st.q0.length zk0) (.slice za1 st.q1.length zk1) (.bool (taken st).c0) (.bool (taken st).c1) (.int .i64 (taken st).tks) (.slice zaw st.ws.length zkw) (.slice none 0 0)
    have R1 := XW.out.below BB1.out
    exact ⟨o1, o4 K61.out (show w.heap.size + 1 + 1 + 1 + 1 ≠ w.heap.size by omega), o4 KZ1.out (show w.heap.size + 1 + 1 ≠ w.heap.size by omega), o4 K51.out (show w.heap.size + 1 + 1 + 1 ≠ w.heap.size by omega), ⟨o2 R1.r0 (by decide), o2 R1.r1 (by decide), o2 R1.rw_ (by decide), Row.nil _ _ _, R1.o.to (o3 (Below.refl 0 _) (Nat.zero_le _)).size⟩, o2 R1.ra (by decide), Row.nil _ _ _, o3 BB1.out (Nat.le_refl _), fun k hk => by cases hk⟩
  clear KA0 KT0 KZ0 K50 K60 K70 BB0 C KA1 K61 KZ1 K51 BB1 fA1 f61 XW a0 a1 a2 a3 a4 a5 a6 a7 d0 d1 d2 d3
  have HS0 := Lib.hid hcut
  clear hcut
  have HLEN := Lib.hid hsm
  obtain ⟨l, hl⟩ : ∃ l, l = st.ans := ⟨_, rfl⟩
  rw [← hl] at HLEN HS0 ⊢
  have HL := Lib.hid hl
  clear hl hsm
  have hk12 : l.length ≤ zka ∧ zka ≤ 9223372036854775807 := by
    obtain ⟨a, c, e, h1, h2⟩ := HS0.out.src.form
    injection e with _ _ e3
    subst e3
    exact ⟨h1, h2⟩
  obtain ⟨hk1, hk2⟩ := hk12
  go_loopg [97] l.length (fun k i wr => ∃ (m : Nat) (a : Option Addr) (c : Nat), m + k = l.length ∧ i = .int .i64 m ∧ Ai F w ⟨.slice za0 st.q0.length zk0, .slice za1 st.q1.length zk1, .slice zaw st.ws.length zkw, .slice none 0 0⟩ (taken st) (.slice zaa l.length zka) l.length (ansC l) (.slice a m c) m (ansC (l.take m)) wr)
  case atStart => exact ⟨0, none, 0, by omega, rfl, HS0.out⟩
  case round =>
    obtain ⟨m, a, c, hm, rfl, hA⟩ := hrel
    have HM := Lib.hid hm
    have HA := Lib.hid hA
    by_cases hlt : m < l.length
    · obtain ⟨y, hy⟩ : ∃ y, y = l.getD m an00 := ⟨_, rfl⟩
      obtain ⟨gb, off, cap, hv, _, _, hgb, hcl, _⟩ := hA.src.open (by omega)
      injection hv with hv1 _ hv3
      subst hv1
      obtain ⟨x0, x1, x2, x3⟩ := an_cells (w := wr) hcl hlt y hy
      have HT := Lib.hid (ansC_take l m hlt)
      rw [← hy] at HT
      clear hy hm hA hcl hgb hv3
      obtain ⟨yt, yn, yd, ye⟩ := y
      unfold anC at HT
      simp only at x0 x1 x2 x3 HT
      go_upto_region 22 with fail
      obtain ⟨W1, hW1⟩ : ∃ W1, W1 = wr.alloc (.cells #[.int .i64 yt, .int .i64 yn, .string yd, .int .i64 ye] 115) := ⟨_, rfl⟩
      obtain ⟨yb, hyb⟩ : ∃ yb, yb = wr.heap.size := ⟨_, rfl⟩
      have KY : Hid (Blk W1 yb 115 [.int .i64 yt, .int .i64 yn, .string yd, .int .i64 ye]) := by rw [hW1, hyb]; exact Lib.hid (Blk.new wr 115 [_, _, _, _])
      have BW : Hid (Below wr.heap.size wr W1) := by rw [hW1]; exact Lib.hid ((Below.refl _ _).alloc (Nat.le_refl _) _)
      rw [← hW1, ← hyb]
      clear hW1 hyb x0 x1 x2 x3
      have HA1 := Lib.hid (HA.out.below BW.out)
      have y0 : W1.cell? ⟨yb, 0, none⟩ = some (.int .i64 yt) := KY.out.cell 0
      have y1 : W1.cell? ⟨yb, 1, none⟩ = some (.int .i64 yn) := KY.out.cell 1
      have y2 : W1.cell? ⟨yb, 2, none⟩ = some (.string yd) := KY.out.cell 2
      have y3 : W1.cell? ⟨yb, 3, none⟩ = some (.int .i64 ye) := KY.out.cell 3
      have q3 : W1.cell? ⟨w.heap.size + 1 + 1 + 1 + 1, 3, none⟩ = some (.slice a m c) := HA1.out.k6.cell 3
      obtain ⟨hz0, hz1, hz2⟩ := HZ.out
      have hdr : Below W1.heap.size W1 (W1.alloc (.cells #[.int .i64 yt, .int .i64 yn, .string yd, .int .i64 ye] 51)) := (Below.refl _ _).alloc (Nat.le_refl _) _
      have HA2 := Lib.hid (HA1.out.below hdr)
      obtain ⟨v7, w7, hrun, hrow7, hgr7, hat⟩ := run_append_row (P := Try.prog) (w := W1.alloc (.cells #[.int .i64 yt, .int .i64 yn, .string yd, .int .i64 ye] 51)) 45 45 51 i0 _ 4 40 Try.underlying45 HI.out hz0 hz1 hz2 rfl (by decide) (.slice a m c) m (ansC (l.take m)) HA2.out.row
        ⟨W1.heap.size, 0, none⟩ 1 1 [.int .i64 yt, .int .i64 yn, .string yd, .int .i64 ye] rfl (World.news_of_block (cs := #[.int .i64 yt, .int .i64 yn, .string yd, .int .i64 ye]) (t := 51) (fr := (0, 0)) (heap_alloc_new W1 _)) (by simp [Value.oneCell']) (by have := HLEN.out; unfold maxLen; omega) (by have := HLEN.out; omega)
      obtain ⟨a7, c7, rfl, _⟩ := hrow7.form
      rw [run_appSem] at hrun
      rw [← HT.out] at hrow7
      obtain ⟨k7, A7⟩ := HA2.out.grown hgr7 hrow7 hat
      have FIN := Lib.hid A7
      have p3 : w7.cell? ⟨w.heap.size + 1 + 1 + 1 + 1, 3, none⟩ = some (.slice a m c) := k7.cell 3
      have fp := fun i => k7.frozen i
      clear hrow7 hgr7 hat hdr hz0 hz1 hz2 A7 k7
      go_wp2_with fail
      go_roundg (gk - 1)
      case measure => have := HM.out; omega
      case rel => exact ⟨m + 1, a7, c7, by have := HM.out; omega, by go_num, FIN.out⟩
    · obtain rfl : m = l.length := by have := HM.out; omega
      clear hm hA hlt
      have hnl : ¬ ((l.length : Int) < (l.length : Int)) := by omega
      go_upto_region 31 with fail
      refine gen_world (fun wx => ∃ va vc, Mid F w ⟨.slice za0 st.q0.length zk0, .slice za1 st.q1.length zk1, .slice zaw st.ws.length zkw, .slice none 0 0⟩ (taken st) 0 ⟨#[]⟩ 0 (.slice va l.length vc) l wx) ?_ (fun wc hcut => ?_)
      · have h := HA.out
        have hr := h.row
        rw [List.take_length] at hr
        exact ⟨_, _, h.kx, h.k6, h.kz, h.k5, h.rf, hr, h.low⟩
      obtain ⟨va, vc, hcut⟩ := hcut
      obtain ⟨hx, h6, hz, h5, hr, hw, hb⟩ := hcut
      have KX := Lib.hid hx
      have K6 := Lib.hid h6
      have KZ := Lib.hid hz
      have K5 := Lib.hid h5
      have MR := Lib.hid hr
      have MW := Lib.hid hw
      have MB := Lib.hid hb
      clear hx h6 hz h5 hr hw hb
      have g0 : wc.cell? ⟨w.heap.size, 0, none⟩ = some (.int .i64 (taken st).limit) := KX.out.cell 0
      have g1 : wc.cell? ⟨w.heap.size, 1, none⟩ = some (.slice za0 st.q0.length zk0) := KX.out.cell 1
      have g2 : wc.cell? ⟨w.heap.size, 2, none⟩ = some (.slice za1 st.q1.length zk1) := KX.out.cell 2
      have g3 : wc.cell? ⟨w.heap.size, 3, none⟩ = some (.bool (taken st).c0) := KX.out.cell 3
      have g4 : wc.cell? ⟨w.heap.size, 4, none⟩ = some (.bool (taken st).c1) := KX.out.cell 4
      have g5 : wc.cell? ⟨w.heap.size, 5, none⟩ = some (.int .i64 (taken st).tks) := KX.out.cell 5
      have g6 : wc.cell? ⟨w.heap.size, 6, none⟩ = some (.slice zaw st.ws.length zkw) := KX.out.cell 6
      have g7 : wc.cell? ⟨w.heap.size, 7, none⟩ = some (.slice none 0 0) := KX.out.cell 7
      have h0 : wc.cell? ⟨w.heap.size + 1 + 1 + 1 + 1, 0, none⟩ = some (.int .i64 0) := K6.out.cell 0
      have h1 : wc.cell? ⟨w.heap.size + 1 + 1 + 1 + 1, 1, none⟩ = some (.string ⟨#[]⟩) := K6.out.cell 1
      have h2 : wc.cell? ⟨w.heap.size + 1 + 1 + 1 + 1, 2, none⟩ = some (.int .i64 0) := K6.out.cell 2
      have h3 : wc.cell? ⟨w.heap.size + 1 + 1 + 1 + 1, 3, none⟩ = some (.slice va l.length vc) := K6.out.cell 3
      have z0 : wc.cell? ⟨w.heap.size + 1 + 1, 0, none⟩ = some (.int .i64 0) := KZ.out.cell 0
      have z1 : wc.cell? ⟨w.heap.size + 1 + 1, 1, none⟩ = some (.slice none 0 0) := KZ.out.cell 1
      have z2 : wc.cell? ⟨w.heap.size + 1 + 1, 2, none⟩ = some (.slice none 0 0) := KZ.out.cell 2
      have z3 : wc.cell? ⟨w.heap.size + 1 + 1, 3, none⟩ = some (.bool false) := KZ.out.cell 3
      have z4 : wc.cell? ⟨w.heap.size + 1 + 1, 4, none⟩ = some (.bool false) := KZ.out.cell 4
      have z5 : wc.cell? ⟨w.heap.size + 1 + 1, 5, none⟩ = some (.int .i64 0) := KZ.out.cell 5
      have z6 : wc.cell? ⟨w.heap.size + 1 + 1, 6, none⟩ = some (.slice none 0 0) := KZ.out.cell 6
      have z7 : wc.cell? ⟨w.heap.size + 1 + 1, 7, none⟩ = some (.slice none 0 0) := KZ.out.cell 7
      have y0 : wc.cell? ⟨w.heap.size + 1 + 1 + 1, 0, none⟩ = some (.int .i64 0) := K5.out.cell 0
      have y1 : wc.cell? ⟨w.heap.size + 1 + 1 + 1, 1, none⟩ = some (.string ⟨#[]⟩) := K5.out.cell 1
      have y2 : wc.cell? ⟨w.heap.size + 1 + 1 + 1, 2, none⟩ = some (.int .i64 0) := K5.out.cell 2
      have y3 : wc.cell? ⟨w.heap.size + 1 + 1 + 1, 3, none⟩ = some (.slice none 0 0) := K5.out.cell 3
      have fz := fun i => KZ.out.frozen i
      have fy := fun i => K5.out.frozen i
      have nz1 : w.heap.size ≠ w.heap.size + 1 + 1 := by omega
      have nz2 : w.heap.size + 1 + 1 + 1 + 1 ≠ w.heap.size + 1 + 1 := by omega
      have nz3 : w.heap.size ≠ w.heap.size + 1 + 1 + 1 := by omega
      have nz4 : w.heap.size + 1 + 1 + 1 + 1 ≠ w.heap.size + 1 + 1 + 1 := by omega
      have nz5 : w.heap.size + 1 + 1 ≠ w.heap.size + 1 + 1 + 1 := by omega
      have nz6 : w.heap.size + 1 + 1 + 1 ≠ w.heap.size + 1 + 1 := by omega
      go_region
      all_goals
        obtain ⟨o1, o2, o3, o4⟩ := put8 KZ.out (.int .i64 (taken st).limit) (.slice za0 st.q0.length zk0) (.slice za1 st.q1.length zk1) (.bool (taken st).c0) (.bool (taken st).c1) (.int .i64 (taken st).tks) (.slice zaw st.ws.length zkw) (.slice none 0 0)
        obtain ⟨p1, p2, p3, p4⟩ := put4 (o4 K5.out nz6) (.int .i64 0) (.string ⟨#[]⟩) (.int .i64 0) (.slice va l.length vc)
        have kz := (p4 o1 nz5).drew
        have k5 := p1.drew
        have r0 := (p2 (o2 MR.out.r0 (by decide)) (by decide)).drew
        have r1 := (p2 (o2 MR.out.r1 (by decide)) (by decide)).drew
        have r2 := (p2 (o2 MR.out.rw_ (by decide)) (by decide)).drew
        have r3 := (p2 (o2 MR.out.ra (by decide)) (by decide)).drew
        have ra := (p2 (o2 MW.out (by decide)) (by decide)).drew
        have rb := (p3 (o3 MB.out (show w.heap.size ≤ w.heap.size + 1 + 1 by omega)) (show w.heap.size ≤ w.heap.size + 1 + 1 + 1 by omega)).drew
        have ro := MR.out.o.to (p3 (o3 (Below.refl 0 _) (Nat.zero_le _)) (Nat.zero_le _)).drew.size
        clear o1 o2 o3 o4 p1 p2 p3 p4
        go_wp2_with fail
        have hl := HL.out
        clear HL
        subst hl
        exact bodyPost_ret (res60_47 rfl _ _ (w.heap.size + 1 + 1) (w.heap.size + 1 + 1 + 1) _ _ _ _ _ _ _ _ _ _ _ _ rfl rfl kz k5) rfl ⟨⟨.slice za0 st.q0.length zk0, .slice za1 st.q1.length zk1, .slice zaw st.ws.length zkw, .slice none 0 0⟩, _, rfl, ⟨r0, r1, r2, r3, ro⟩, ra, rb⟩
theorem acE {a : Int} (h : ¬ (a = 0 ∨ a = 1)) : (a != 0) = true ∧ (a != 1) = true := by
  rw [bne_iff_ne, bne_iff_ne]
  exact ⟨fun e => h (.inl e), fun e => h (.inr e)⟩
theorem emptyB_read (f c : Int) (d e : ByteArray) : emptyB ⟨0, f, c, d⟩ = emptyB ⟨0, f, c, e⟩ := rfl
theorem once_read (st : St) (f c : Int) (d : ByteArray) : onceR st ⟨0, f, c, d⟩ = onceR st ⟨0, f, c, ⟨#[]⟩⟩ := rfl
theorem once_write (st : St) (f c : Int) (d : ByteArray) : onceR st ⟨1, f, c, d⟩ = onceR st ⟨1, f, 0, d⟩ := rfl
theorem once_read_num (st : St) (f c : Int) (d : ByteArray) : (onceR st ⟨0, f, c, d⟩).2.1 = 0 := by
  have h : (doS st ⟨0, f, c, d⟩).2.1 = 0 := by
    unfold doS
    rw [if_neg (show ¬ ((⟨0, f, c, d⟩ : Op).kind = 1) by show ¬ (0 : Int) = 1; decide)]
    repeat' split
    all_goals rfl
  unfold onceR
  repeat' split
  all_goals first | rfl | exact h
theorem once_write_txt (st : St) (f c : Int) (d : ByteArray) : (onceR st ⟨1, f, c, d⟩).2.2.1 = ⟨#[]⟩ := by
  have h : (doS st ⟨1, f, c, d⟩).2.2 = ⟨#[]⟩ := by
    unfold doS
    rw [if_pos (show (⟨1, f, c, d⟩ : Op).kind = 1 from rfl)]
    split
    all_goals rfl
  unfold onceR
  repeat' split
  all_goals first | rfl | exact h
/-- the law's call of the reference -/
theorem Refer_any (x : Ac) (hd : x.op.data.size ≤ 9000) {N : Nat} {l : Int} (S : Sl) (st : St) (hg : Rg N l st) (hN : N ≤ 880) (w : World) (hR : Ref F w S st) :
    Calls Try.prog 23 #[rpV S st, acV x] w (RefSays F w (doR st x).1 (doR st x).2.num (doR st x).2.txt (doR st x).2.err (doR st x).2.ans) := by
  obtain ⟨k, t, ⟨ok, of_, oc, od⟩⟩ := x
  unfold acV
  by_cases k0 : k = 0
  · subst k0
    exact ref_ask t ok of_ oc od hd S st hg hN w hR
  by_cases k1 : k = 1
  · subst k1
    by_cases o0 : ok = 0
    · subst o0
      have h := ref_read t of_ oc od hd S st hg hN w hR
      rw [once_read_num, once_read] at h
      exact h
    · have hr : doR st ⟨1, t, ⟨ok, of_, oc, od⟩⟩ = ((onceR st ⟨1, of_, 0, od⟩).1, ⟨(onceR st ⟨1, of_, 0, od⟩).2.1, ⟨#[]⟩, (onceR st ⟨1, of_, 0, od⟩).2.2.2, []⟩) := by
        unfold doR; rw [if_neg (show ¬ (1 : Int) = 0 by decide), if_pos rfl, if_neg o0]
      rw [hr]
      have h := ref_write t ok of_ oc od hd (by rw [bne_iff_ne]; exact o0) S st hg hN w hR
      rw [once_write_txt, once_write] at h
      exact h
  by_cases k2 : k = 2
  · subst k2
    exact ref_cancel t ok of_ oc od S st hg hN w hR
  by_cases k3 : k = 3
  · subst k3
    exact ref_flush t ok of_ oc od S st hg hN w hR
  by_cases k4 : k = 4
  · subst k4
    exact ref_close t ok of_ oc od S st hg hN w hR
  by_cases k5 : k = 5
  · subst k5
    exact ref_answers t ok of_ oc od S st (by have := hg.G.a; omega) w hR
  by_cases k6 : k = 6
  · subst k6
    by_cases ha : of_ = 0 ∨ of_ = 1
    · have hr : doR st ⟨6, t, ⟨ok, of_, oc, od⟩⟩ = ((onceR st ⟨1, of_, 0, od⟩).1, ⟨0, ⟨#[]⟩, (onceR st ⟨1, of_, 0, od⟩).2.2.2, []⟩) := by
        unfold doR; simp only [if_pos ha]; rfl
      rw [hr]
      rcases ha with rfl | rfl
      · exact ref_send0 t ok oc od hd S st hg hN w hR
      · exact ref_send1 t ok oc od hd S st hg hN w hR
    · have hr : doR st ⟨6, t, ⟨ok, of_, oc, od⟩⟩ = (st, ⟨0, ⟨#[]⟩, 30, []⟩) := by
        unfold doR; simp only [if_neg ha]; rfl
      rw [hr]
      exact ref_sendbad t ok of_ oc od (acE ha).1 (acE ha).2 S st w hR
  by_cases k7 : k = 7
  · subst k7
    by_cases ha : of_ = 0 ∨ of_ = 1
    · have hr : doR st ⟨7, t, ⟨ok, of_, oc, od⟩⟩ = ((recvR st of_).1, ⟨0, (recvR st of_).2.1, (recvR st of_).2.2, []⟩) := by
        unfold doR; simp only [if_pos ha]; rfl
      rw [hr]
      rcases ha with rfl | rfl
      · exact ref_recv0 t ok oc od S st hg hN w hR
      · exact ref_recv1 t ok oc od S st hg hN w hR
    · have hr : doR st ⟨7, t, ⟨ok, of_, oc, od⟩⟩ = (st, ⟨0, ⟨#[]⟩, 30, []⟩) := by
        unfold doR; simp only [if_neg ha]; rfl
      rw [hr]
      exact ref_recvbad t ok of_ oc od (acE ha).1 (acE ha).2 S st w hR
  · have hr : doR st ⟨k, t, ⟨ok, of_, oc, od⟩⟩ = (st, ⟨0, ⟨#[]⟩, 0, []⟩) := by
      unfold doR; simp only [if_neg k0, if_neg k1, if_neg k2, if_neg k3, if_neg k4, if_neg k5, if_neg k6, if_neg k7]
    rw [hr]
    exact ref_else k t ok of_ oc od (by omega) S st w hR
end Go.Proofs.Ytmnlojbfdpjjdaa
