/- The reference: settle. -/
import Derived.Test.YtmnlojbfdpjjdaaR9
import Derived.Test.YtmnlojbfdpjjdaaN1
namespace Go.Proofs.Ytmnlojbfdpjjdaa
open Go.RowKit
variable {F : Nat → Prop}
theorem ready_without {st : St} {i : Nat} (h : nextS st = some i) : (st.ws.getD i wt0).op.kind = 0 → qOf (without st i) (st.ws.getD i wt0).op ≠ [] := by
  intro hk
  have hr := ready_of_next h
  unfold readyB at hr
  rw [if_pos hk, decide_eq_true_eq] at hr
  intro e
  have e2 : qOf st (st.ws.getD i wt0).op = [] := e
  rw [e2] at hr
  exact absurd hr (by simp)
theorem far8 {w : World} {b g : Nat} (h : g ≠ b) (x0 x1 x2 x3 x4 x5 x6 x7 : Value) (i : Nat) : ((((((((w.setCell ⟨b, 0, none⟩ x0).setCell ⟨b, 1, none⟩ x1).setCell ⟨b, 2, none⟩ x2).setCell ⟨b, 3, none⟩ x3).setCell ⟨b, 4, none⟩ x4).setCell ⟨b, 5, none⟩ x5).setCell ⟨b, 6, none⟩ x6).setCell ⟨b, 7, none⟩ x7).cell? ⟨g, i, none⟩ = w.cell? ⟨g, i, none⟩ := by
  have hs : ∀ (w : World) (j : Nat) (u : Value), (w.setCell ⟨b, j, none⟩ u).cell? ⟨g, i, none⟩ = w.cell? ⟨g, i, none⟩ := fun w j u => World.cell?_setCell_other w _ _ u (fun e => h (Addr.mk.inj e).1.symm)
  rw [hs, hs, hs, hs, hs, hs, hs, hs]
theorem nxI_some {st : St} {i : Nat} (h : nextS st = some i) : nxI st = i := by unfold nxI; rw [h]
theorem nxI_none {st : St} (h : nextS st = none) : nxI st = -1 := by unfold nxI; rw [h]
theorem Gd.without {n : Nat} {st : St} (h : Gd n st) {i : Nat} (hi : i < st.ws.length) : Sm (without st i) ∨ 1000 < n := by
  have hl : (st.ws.eraseIdx i).length = st.ws.length - 1 := by rw [List.length_eraseIdx, if_pos hi]
  have hz := sizes_erase st.ws i hi
  have := h.q; have := h.a; have := h.z
  by_cases hn : n ≤ 1000
  · refine .inl ⟨?_, ?_, ?_⟩
    · show st.q0.length + st.q1.length + (st.ws.eraseIdx i).length ≤ 100000; omega
    · show st.ans.length + (st.ws.eraseIdx i).length ≤ 100000; omega
    · show sizes st.q0 + sizes st.q1 + sizes ((st.ws.eraseIdx i).map (·.op.data)) ≤ 1000000000000; omega
  · exact .inr (by omega)
set_option maxRecDepth 100000 in
set_option maxHeartbeats 3200000 in
theorem rsettle_any {N : Nat} {l : Int} (S : Sl) (st : St) (hG : Gd N st) (hN : N ≤ 900) (hB : Bi l st) (w : World) (hR : Ref F w S st) :
    Calls Try.prog 66 #[rpV S st] w fun e w' => ∃ S', e = .returned (rpV S' (settle st)) ∧ Ref F w' S' (settle st) ∧ Below w.heap.size w w' := by
  obtain ⟨za0, zk0, za1, zk1, zaw, zkw, zaa, zka, rfl⟩ := hR.open
  obtain ⟨V0, hV⟩ : ∃ V0, V0 = (w.alloc (.cells #[.int .i64 st.limit, .slice za0 st.q0.length zk0, .slice za1 st.q1.length zk1, .bool st.c0, .bool st.c1, .int .i64 st.tks, .slice zaw st.ws.length zkw, .slice zaa st.ans.length zka] 60)).alloc (.cells #[.int .i64 0, .slice none 0 0, .slice none 0 0, .bool false, .bool false, .int .i64 0, .slice none 0 0, .slice none 0 0] 60) := ⟨_, rfl⟩
  have KA := Lib.hid (show Blk V0 (w.heap.size) 60 [.int .i64 st.limit, .slice za0 st.q0.length zk0, .slice za1 st.q1.length zk1, .bool st.c0, .bool st.c1, .int .i64 st.tks, .slice zaw st.ws.length zkw, .slice zaa st.ans.length zka] by rw [hV]; exact (Blk.new w 60 _).alloc _)
  have KC := Lib.hid (show Blk V0 (w.heap.size + 1) 60 [.int .i64 0, .slice none 0 0, .slice none 0 0, .bool false, .bool false, .int .i64 0, .slice none 0 0, .slice none 0 0] by rw [hV]; exact blk_at (by simp) 60 [_, _, _, _, _, _, _, _])
  have BW := Lib.hid (show Below w.heap.size w V0 by rw [hV]; exact ((Below.refl _ _).alloc (Nat.le_refl _) _).alloc (by simp) _)
  have HN := Lib.hid (fun (st1 : St) (S1 : Sl) (hG1 : Gd N st1) (hB1 : Bi l st1) W (h : Ref F W S1 st1) => rnext_any S1 st1 (hG1.sm (by omega)) (fun y hy => ⟨(hB1.w y hy).1, (hB1.w y hy).2.1⟩) W h)
  have XW := Lib.hid hR
  have XG := Lib.hid hG
  have XB := Lib.hid hB
  have HV := Lib.hid hV
  have C0 := HN.out st _ hG hB V0 (hR.below BW.out)
  have C0' := Lib.hid C0
  have v0 : V0.cell? ⟨w.heap.size, 0, none⟩ = some (.int .i64 st.limit) := KA.out.cell 0
  have v1 : V0.cell? ⟨w.heap.size, 1, none⟩ = some (.slice za0 st.q0.length zk0) := KA.out.cell 1
  have v2 : V0.cell? ⟨w.heap.size, 2, none⟩ = some (.slice za1 st.q1.length zk1) := KA.out.cell 2
  have v3 : V0.cell? ⟨w.heap.size, 3, none⟩ = some (.bool st.c0) := KA.out.cell 3
  have v4 : V0.cell? ⟨w.heap.size, 4, none⟩ = some (.bool st.c1) := KA.out.cell 4
  have v5 : V0.cell? ⟨w.heap.size, 5, none⟩ = some (.int .i64 st.tks) := KA.out.cell 5
  have v6 : V0.cell? ⟨w.heap.size, 6, none⟩ = some (.slice zaw st.ws.length zkw) := KA.out.cell 6
  have v7 : V0.cell? ⟨w.heap.size, 7, none⟩ = some (.slice zaa st.ans.length zka) := KA.out.cell 7
  clear hV hR hG hB C0
  unfold rpV at *
  go_enter Try.func66, Try.ntmps66
  go_upto_region 1 with fail
  rw [← HV.out]
  go_wp2_with (go_at_call 81; refine (C0'.out).mono ?_; rintro e u1 ⟨rfl, hb1⟩; have KA1 := Lib.hid (keepBlk hb1 KA.out); have KC1 := Lib.hid (keepBlk hb1 KC.out); have BW1 := Lib.hid (keepBelow BW.out hb1); clear hb1)
  go_loopg [3] st.ws.length (fun n i wr => ∃ (S1 : Sl) (st1 : St), st1.ws.length = n ∧ Blk wr (w.heap.size) 60 (rpC S1 st1) ∧ Blk wr (w.heap.size + 1) 60 [.int .i64 0, .slice none 0 0, .slice none 0 0, .bool false, .bool false, .int .i64 0, .slice none 0 0, .slice none 0 0] ∧ Ref F wr S1 st1 ∧ Gd N st1 ∧ Bi l st1 ∧ settleS n st1 = settle st ∧ i = .int .i64 (nxI st1) ∧ Below w.heap.size w wr)
  case atStart => exact ⟨⟨.slice za0 st.q0.length zk0, .slice za1 st.q1.length zk1, .slice zaw st.ws.length zkw, .slice zaa st.ans.length zka⟩, st, rfl, KA1.out, KC1.out, XW.out.below BW1.out, XG.out, XB.out, rfl, rfl, BW1.out⟩
  case round =>
    obtain ⟨wo, rfl⟩ : ∃ wo, wo = wr := ⟨_, rfl⟩
    obtain ⟨gk0, rfl⟩ : ∃ x, x = gk := ⟨_, rfl⟩
    obtain ⟨S1, st1, hn, hA, hC, hR1, hG1, hB1, he, rfl, hW1⟩ := hrel
    obtain ⟨pa0, pk0, pa1, pk1, paw, pkw, paa, pka, rfl⟩ := hR1.open
    have LA := Lib.hid (show Blk wo (w.heap.size) 60 [.int .i64 st1.limit, .slice pa0 st1.q0.length pk0, .slice pa1 st1.q1.length pk1, .bool st1.c0, .bool st1.c1, .int .i64 st1.tks, .slice paw st1.ws.length pkw, .slice paa st1.ans.length pka] from hA)
    have LC := Lib.hid hC
    have LR := Lib.hid hR1
    have LG := Lib.hid hG1
    have LB := Lib.hid hB1
    have LE := Lib.hid he
    have LN := Lib.hid hn
    have LW := Lib.hid hW1
    have hwo := hW1.size
    have hbz : w.heap.size + 1 < wo.heap.size := hC.lt
    clear hA hC hR1 hG1 hB1 he hn hW1 v0 v1 v2 v3 v4 v5 v6 v7
    have x0 : wo.cell? ⟨w.heap.size, 0, none⟩ = some (.int .i64 st1.limit) := LA.out.cell 0
    have x1 : wo.cell? ⟨w.heap.size, 1, none⟩ = some (.slice pa0 st1.q0.length pk0) := LA.out.cell 1
    have x2 : wo.cell? ⟨w.heap.size, 2, none⟩ = some (.slice pa1 st1.q1.length pk1) := LA.out.cell 2
    have x3 : wo.cell? ⟨w.heap.size, 3, none⟩ = some (.bool st1.c0) := LA.out.cell 3
    have x4 : wo.cell? ⟨w.heap.size, 4, none⟩ = some (.bool st1.c1) := LA.out.cell 4
    have x5 : wo.cell? ⟨w.heap.size, 5, none⟩ = some (.int .i64 st1.tks) := LA.out.cell 5
    have x6 : wo.cell? ⟨w.heap.size, 6, none⟩ = some (.slice paw st1.ws.length pkw) := LA.out.cell 6
    have x7 : wo.cell? ⟨w.heap.size, 7, none⟩ = some (.slice paa st1.ans.length pka) := LA.out.cell 7
    have y0 : wo.cell? ⟨w.heap.size + 1, 0, none⟩ = some (.int .i64 0) := LC.out.cell 0
    have y1 : wo.cell? ⟨w.heap.size + 1, 1, none⟩ = some (.slice none 0 0) := LC.out.cell 1
    have y2 : wo.cell? ⟨w.heap.size + 1, 2, none⟩ = some (.slice none 0 0) := LC.out.cell 2
    have y3 : wo.cell? ⟨w.heap.size + 1, 3, none⟩ = some (.bool false) := LC.out.cell 3
    have y4 : wo.cell? ⟨w.heap.size + 1, 4, none⟩ = some (.bool false) := LC.out.cell 4
    have y5 : wo.cell? ⟨w.heap.size + 1, 5, none⟩ = some (.int .i64 0) := LC.out.cell 5
    have y6 : wo.cell? ⟨w.heap.size + 1, 6, none⟩ = some (.slice none 0 0) := LC.out.cell 6
    have y7 : wo.cell? ⟨w.heap.size + 1, 7, none⟩ = some (.slice none 0 0) := LC.out.cell 7
    have xf := fun i => LA.out.frozen i
    have yf_ := fun i => LC.out.frozen i
    cases hnx : nextS st1 with
    | none =>
      rw [nxI_none hnx]
      have HS := Lib.hid (show settle st = st1 by rw [← LE.out, settleS_none hnx])
      clear hnx
      go_wp2_with fail
      obtain ⟨o1, o2, o3, o4⟩ := put8 LC.out (.int .i64 st1.limit) (.slice pa0 st1.q0.length pk0) (.slice pa1 st1.q1.length pk1) (.bool st1.c0) (.bool st1.c1) (.int .i64 st1.tks) (.slice paw st1.ws.length pkw) (.slice paa st1.ans.length pka)
      have hb := o3 LW.out (Nat.le_succ _)
      exact bodyPost_ret (res60 rfl _ _ (w.heap.size + 1) _ _ _ _ _ _ _ _ rfl o1) rfl (by rw [HS.out]; exact ⟨⟨_, _, _, _⟩, rfl, ⟨o2 LR.out.r0 (by decide), o2 LR.out.r1 (by decide), o2 LR.out.rw_ (by decide), o2 LR.out.ra (by decide), LR.out.o.to (o3 (Below.refl 0 _) (Nat.zero_le _)).size⟩, hb⟩)
    | some i =>
      have hil := next_lt hnx
      rw [nxI_some hnx]
      obtain ⟨m, hm⟩ : ∃ m, gk0 = m + 1 := ⟨gk0 - 1, by have := LN.out; omega⟩
      have HSS := Lib.hid (show settleS m (stepS st1 i) = settle st by rw [← LE.out, hm, settleS_some hnx])
      have HGS := Lib.hid (LG.out.step hil)
      have HBS := Lib.hid (LB.out.step hnx)
      have HMS := Lib.hid (show (stepS st1 i).ws.length = m by rw [stepS_ws, List.length_eraseIdx, if_pos hil]; have := LN.out; omega)
      have hkw : st1.ws.length ≤ pkw ∧ pkw ≤ 9223372036854775807 := by
        obtain ⟨a, c, e, h1, h2⟩ := LR.out.rw_.form
        injection e with _ _ e3
        subst e3
        exact ⟨h1, h2⟩
      obtain ⟨gb, off, cap, hv, h1, h2, hgb, hcl, _⟩ := LR.out.rw_.open (by omega)
      injection hv with hv1 _ hv3
      subst hv1 hv3
      obtain ⟨y, hy⟩ : ∃ y, y = st1.ws.getD i wt0 := ⟨_, rfl⟩
      obtain ⟨c0, c1, c2, c3, c4⟩ := rw_cells hcl hil y hy
      have HOK := Lib.hid (LB.out.w y (by rw [hy]; exact getD_mem hil))
      have HRW := Lib.hid (show y.op.kind = 0 → qOf (without st1 i) y.op ≠ [] by rw [hy]; exact ready_without hnx)
      have HSM := Lib.hid (show Sm (without st1 i) from (LG.out.without hil).resolve_right (by omega))
      have HST := Lib.hid (show stepS st1 i = answered (doS (without st1 i) y.op).1 ⟨y.tk, (doS (without st1 i) y.op).2.1, (doS (without st1 i) y.op).2.2, 0⟩ by rw [hy]; rfl)
      have CWo := Lib.hid (fun W (hb : Below wo.heap.size wo W) => rwithout_any i _ st1 hil (by have := (LG.out.sm (by omega)).q; omega) W (LR.out.below hb))
      have CDo := Lib.hid (fun (S2 : Sl) W (h : Ref F W S2 (without st1 i)) => rdo_any y.op HOK.out.1.1 HOK.out.1.2.1 S2 (without st1 i) (fun _ => HRW.out) HSM.out W h)
      have HAN := Lib.hid (show (doS (without st1 i) y.op).1.ans.length ≤ 200000 by rw [(doS_grows _ _).2.1]; have := HSM.out.a; show (without st1 i).ans.length ≤ _; omega)
      have hgm : gk0 = m + 1 := hm
      have HGM := Lib.hid hgm
      clear hcl hy hnx hm hgm
      generalize doS (without st1 i) y.op = rr at *
      obtain ⟨st3, cnt, dat⟩ := rr
      simp only at CDo HAN HST
      have CAo := Lib.hid (fun (S3 : Sl) W (h : Ref F W S3 st3) => ranswered_any y.tk cnt 0 dat S3 st3 HAN.out W h)
      obtain ⟨⟨yk, yf, yc, yd⟩, yt⟩ := y
      simp only at c0 c1 c2 c3 c4 HOK HRW HST CAo
      obtain ⟨W2, hW2⟩ : ∃ W2, W2 = wo.alloc (.cells #[.int .i64 yt, .int .i64 yk, .int .i64 yf, .int .i64 yc, .string yd] 120) := ⟨_, rfl⟩
      have KW := Lib.hid (show Blk W2 wo.heap.size 120 [.int .i64 yt, .int .i64 yk, .int .i64 yf, .int .i64 yc, .string yd] by rw [hW2]; exact Blk.new wo 120 [_, _, _, _, _])
      have B2 := Lib.hid (show Below wo.heap.size wo W2 by rw [hW2]; exact (Below.refl _ _).alloc (Nat.le_refl _) _)
      have hilI : (i : Int) < (st1.ws.length : Int) := by omega
      have hi0 : ¬ (i : Int) < 0 := by omega
      unfold rpV opV at *
      have HA2 := Lib.hid (keepBlk B2.out LA.out)
      have HC2 := Lib.hid (keepBlk B2.out LC.out)
      have HW2 := Lib.hid hW2
      have g0 : W2.cell? ⟨w.heap.size, 0, none⟩ = some (.int .i64 st1.limit) := HA2.out.cell 0
      have g1 : W2.cell? ⟨w.heap.size, 1, none⟩ = some (.slice pa0 st1.q0.length pk0) := HA2.out.cell 1
      have g2 : W2.cell? ⟨w.heap.size, 2, none⟩ = some (.slice pa1 st1.q1.length pk1) := HA2.out.cell 2
      have g3 : W2.cell? ⟨w.heap.size, 3, none⟩ = some (.bool st1.c0) := HA2.out.cell 3
      have g4 : W2.cell? ⟨w.heap.size, 4, none⟩ = some (.bool st1.c1) := HA2.out.cell 4
      have g5 : W2.cell? ⟨w.heap.size, 5, none⟩ = some (.int .i64 st1.tks) := HA2.out.cell 5
      have g6 : W2.cell? ⟨w.heap.size, 6, none⟩ = some (.slice (some ⟨gb, off, none⟩) st1.ws.length pkw) := HA2.out.cell 6
      have g7 : W2.cell? ⟨w.heap.size, 7, none⟩ = some (.slice paa st1.ans.length pka) := HA2.out.cell 7
      have k0 : W2.cell? ⟨wo.heap.size, 0, none⟩ = some (.int .i64 yt) := KW.out.cell 0
      have k1 : W2.cell? ⟨wo.heap.size, 1, none⟩ = some (.int .i64 yk) := KW.out.cell 1
      have k2 : W2.cell? ⟨wo.heap.size, 2, none⟩ = some (.int .i64 yf) := KW.out.cell 2
      have k3 : W2.cell? ⟨wo.heap.size, 3, none⟩ = some (.int .i64 yc) := KW.out.cell 3
      have k4 : W2.cell? ⟨wo.heap.size, 4, none⟩ = some (.string yd) := KW.out.cell 4
      clear hW2
      have hwW : w.heap.size < W2.heap.size := HA2.out.lt
      have nw1 : w.heap.size ≠ W2.heap.size := Nat.ne_of_lt hwW
      have nw2 : wo.heap.size ≠ W2.heap.size := Nat.ne_of_lt KW.out.lt
      go_upto_region 5 with fail
      rw [← HW2.out]
      go_cut [5, 6, 7] (fun p s n wx => ∃ (bq : Nat) (S3 : Sl), p = .pointer (some ⟨bq, 0, none⟩) ∧ s = .string dat ∧ n = .int .i64 cnt ∧ wo.heap.size < bq ∧ Blk wx bq 60 (rpC S3 st3) ∧ Ref F wx S3 st3 ∧ Below W2.heap.size W2 wx)
      case first =>
        go_region_held3 (fun W => W.cell? ⟨w.heap.size, 0, none⟩ = some (.int .i64 st1.limit) ∧ W.cell? ⟨w.heap.size, 1, none⟩ = some (.slice pa0 st1.q0.length pk0) ∧ W.cell? ⟨w.heap.size, 2, none⟩ = some (.slice pa1 st1.q1.length pk1) ∧ W.cell? ⟨w.heap.size, 3, none⟩ = some (.bool st1.c0) ∧ W.cell? ⟨w.heap.size, 4, none⟩ = some (.bool st1.c1) ∧ W.cell? ⟨w.heap.size, 5, none⟩ = some (.int .i64 st1.tks) ∧ W.cell? ⟨w.heap.size, 6, none⟩ = some (.slice (some ⟨gb, off, none⟩) st1.ws.length pkw) ∧ W.cell? ⟨w.heap.size, 7, none⟩ = some (.slice paa st1.ans.length pka) ∧ W.cell? ⟨wo.heap.size, 1, none⟩ = some (.int .i64 yk) ∧ W.cell? ⟨wo.heap.size, 2, none⟩ = some (.int .i64 yf) ∧ W.cell? ⟨wo.heap.size, 3, none⟩ = some (.int .i64 yc) ∧ W.cell? ⟨wo.heap.size, 4, none⟩ = some (.string yd)) (first | with_reducible exact ⟨n0, n1, n2, n3, n4, n5, n6, n7, m1, m2, m3, m4⟩ | with_reducible exact ⟨r0, r1, r2, r3, r4, r5, r6, r7, t1, t2, t3, t4⟩ | with_reducible exact ⟨(far8 nu1 _ _ _ _ _ _ _ _ _).trans r0, (far8 nu1 _ _ _ _ _ _ _ _ _).trans r1, (far8 nu1 _ _ _ _ _ _ _ _ _).trans r2, (far8 nu1 _ _ _ _ _ _ _ _ _).trans r3, (far8 nu1 _ _ _ _ _ _ _ _ _).trans r4, (far8 nu1 _ _ _ _ _ _ _ _ _).trans r5, (far8 nu1 _ _ _ _ _ _ _ _ _).trans r6, (far8 nu1 _ _ _ _ _ _ _ _ _).trans r7, (far8 nu2 _ _ _ _ _ _ _ _ _).trans t1, (far8 nu2 _ _ _ _ _ _ _ _ _).trans t2, (far8 nu2 _ _ _ _ _ _ _ _ _).trans t3, (far8 nu2 _ _ _ _ _ _ _ _ _).trans t4⟩ | with_reducible exact ⟨(far8 nw1 _ _ _ _ _ _ _ _ _).trans r0, (far8 nw1 _ _ _ _ _ _ _ _ _).trans r1, (far8 nw1 _ _ _ _ _ _ _ _ _).trans r2, (far8 nw1 _ _ _ _ _ _ _ _ _).trans r3, (far8 nw1 _ _ _ _ _ _ _ _ _).trans r4, (far8 nw1 _ _ _ _ _ _ _ _ _).trans r5, (far8 nw1 _ _ _ _ _ _ _ _ _).trans r6, (far8 nw1 _ _ _ _ _ _ _ _ _).trans r7, (far8 nw2 _ _ _ _ _ _ _ _ _).trans t1, (far8 nw2 _ _ _ _ _ _ _ _ _).trans t2, (far8 nw2 _ _ _ _ _ _ _ _ _).trans t3, (far8 nw2 _ _ _ _ _ _ _ _ _).trans t4⟩ | with_reducible exact ⟨(World.cell?_alloc_lt W2 _ ⟨w.heap.size, 0, none⟩ hwW).trans g0, (World.cell?_alloc_lt W2 _ ⟨w.heap.size, 1, none⟩ hwW).trans g1, (World.cell?_alloc_lt W2 _ ⟨w.heap.size, 2, none⟩ hwW).trans g2, (World.cell?_alloc_lt W2 _ ⟨w.heap.size, 3, none⟩ hwW).trans g3, (World.cell?_alloc_lt W2 _ ⟨w.heap.size, 4, none⟩ hwW).trans g4, (World.cell?_alloc_lt W2 _ ⟨w.heap.size, 5, none⟩ hwW).trans g5, (World.cell?_alloc_lt W2 _ ⟨w.heap.size, 6, none⟩ hwW).trans g6, (World.cell?_alloc_lt W2 _ ⟨w.heap.size, 7, none⟩ hwW).trans g7, (World.cell?_alloc_lt W2 _ ⟨wo.heap.size, 1, none⟩ KW.out.lt).trans k1, (World.cell?_alloc_lt W2 _ ⟨wo.heap.size, 2, none⟩ KW.out.lt).trans k2, (World.cell?_alloc_lt W2 _ ⟨wo.heap.size, 3, none⟩ KW.out.lt).trans k3, (World.cell?_alloc_lt W2 _ ⟨wo.heap.size, 4, none⟩ KW.out.lt).trans k4⟩ | with_reducible exact ⟨(World.cell?_alloc_lt u2 _ ⟨w.heap.size, 0, none⟩ GA.out.lt).trans n0, (World.cell?_alloc_lt u2 _ ⟨w.heap.size, 1, none⟩ GA.out.lt).trans n1, (World.cell?_alloc_lt u2 _ ⟨w.heap.size, 2, none⟩ GA.out.lt).trans n2, (World.cell?_alloc_lt u2 _ ⟨w.heap.size, 3, none⟩ GA.out.lt).trans n3, (World.cell?_alloc_lt u2 _ ⟨w.heap.size, 4, none⟩ GA.out.lt).trans n4, (World.cell?_alloc_lt u2 _ ⟨w.heap.size, 5, none⟩ GA.out.lt).trans n5, (World.cell?_alloc_lt u2 _ ⟨w.heap.size, 6, none⟩ GA.out.lt).trans n6, (World.cell?_alloc_lt u2 _ ⟨w.heap.size, 7, none⟩ GA.out.lt).trans n7, (World.cell?_alloc_lt u2 _ ⟨wo.heap.size, 1, none⟩ GW.out.lt).trans m1, (World.cell?_alloc_lt u2 _ ⟨wo.heap.size, 2, none⟩ GW.out.lt).trans m2, (World.cell?_alloc_lt u2 _ ⟨wo.heap.size, 3, none⟩ GW.out.lt).trans m3, (World.cell?_alloc_lt u2 _ ⟨wo.heap.size, 4, none⟩ GW.out.lt).trans m4⟩ | with_reducible exact ⟨(World.cell?_alloc_lt u3 _ ⟨w.heap.size, 0, none⟩ JA.out.lt).trans r0, (World.cell?_alloc_lt u3 _ ⟨w.heap.size, 1, none⟩ JA.out.lt).trans r1, (World.cell?_alloc_lt u3 _ ⟨w.heap.size, 2, none⟩ JA.out.lt).trans r2, (World.cell?_alloc_lt u3 _ ⟨w.heap.size, 3, none⟩ JA.out.lt).trans r3, (World.cell?_alloc_lt u3 _ ⟨w.heap.size, 4, none⟩ JA.out.lt).trans r4, (World.cell?_alloc_lt u3 _ ⟨w.heap.size, 5, none⟩ JA.out.lt).trans r5, (World.cell?_alloc_lt u3 _ ⟨w.heap.size, 6, none⟩ JA.out.lt).trans r6, (World.cell?_alloc_lt u3 _ ⟨w.heap.size, 7, none⟩ JA.out.lt).trans r7, (World.cell?_alloc_lt u3 _ ⟨wo.heap.size, 1, none⟩ JW.out.lt).trans t1, (World.cell?_alloc_lt u3 _ ⟨wo.heap.size, 2, none⟩ JW.out.lt).trans t2, (World.cell?_alloc_lt u3 _ ⟨wo.heap.size, 3, none⟩ JW.out.lt).trans t3, (World.cell?_alloc_lt u3 _ ⟨wo.heap.size, 4, none⟩ JW.out.lt).trans t4⟩ | (simp only [World.cell?_drew]; first | with_reducible exact ⟨(World.cell?_alloc_lt W2 _ ⟨w.heap.size, 0, none⟩ hwW).trans g0, (World.cell?_alloc_lt W2 _ ⟨w.heap.size, 1, none⟩ hwW).trans g1, (World.cell?_alloc_lt W2 _ ⟨w.heap.size, 2, none⟩ hwW).trans g2, (World.cell?_alloc_lt W2 _ ⟨w.heap.size, 3, none⟩ hwW).trans g3, (World.cell?_alloc_lt W2 _ ⟨w.heap.size, 4, none⟩ hwW).trans g4, (World.cell?_alloc_lt W2 _ ⟨w.heap.size, 5, none⟩ hwW).trans g5, (World.cell?_alloc_lt W2 _ ⟨w.heap.size, 6, none⟩ hwW).trans g6, (World.cell?_alloc_lt W2 _ ⟨w.heap.size, 7, none⟩ hwW).trans g7, (World.cell?_alloc_lt W2 _ ⟨wo.heap.size, 1, none⟩ KW.out.lt).trans k1, (World.cell?_alloc_lt W2 _ ⟨wo.heap.size, 2, none⟩ KW.out.lt).trans k2, (World.cell?_alloc_lt W2 _ ⟨wo.heap.size, 3, none⟩ KW.out.lt).trans k3, (World.cell?_alloc_lt W2 _ ⟨wo.heap.size, 4, none⟩ KW.out.lt).trans k4⟩ | with_reducible exact ⟨g0, g1, g2, g3, g4, g5, g6, g7, k1, k2, k3, k4⟩)) (first
          | (go_at_call 69; refine (CWo.out _ ?_).mono ?_; (first | exact B2.out.drew | exact (B2.out.alloc B2.out.size _).drew); rintro e u2 ⟨S2, rfl, R2, b2⟩; obtain ⟨qa0, qk0, qa1, qk1, qaw, qkw, qaa, qka, rfl⟩ := R2.open; have HR2 := Lib.hid R2; have GA : Hid (Blk u2 (w.heap.size) 60 [.int .i64 st1.limit, .slice pa0 st1.q0.length pk0, .slice pa1 st1.q1.length pk1, .bool st1.c0, .bool st1.c1, .int .i64 st1.tks, .slice (some ⟨gb, off, none⟩) st1.ws.length pkw, .slice paa st1.ans.length pka]) := (by first | exact Lib.hid (keepBlk b2 HA2.out) | exact Lib.hid (keepBlk b2 (HA2.out.alloc _))); have GW : Hid (Blk u2 wo.heap.size 120 [.int .i64 yt, .int .i64 yk, .int .i64 yf, .int .i64 yc, .string yd]) := (by first | exact Lib.hid (keepBlk b2 KW.out) | exact Lib.hid (keepBlk b2 (KW.out.alloc _))); have GB : Hid (Below W2.heap.size W2 u2) := (by first | exact Lib.hid ((Below.refl _ _).drew.trans b2) | exact Lib.hid (keepBelow ((Below.refl _ _).alloc (Nat.le_refl _) _).drew b2)); have n0 : u2.cell? ⟨w.heap.size, 0, none⟩ = some (.int .i64 st1.limit) := GA.out.cell 0; have n1 : u2.cell? ⟨w.heap.size, 1, none⟩ = some (.slice pa0 st1.q0.length pk0) := GA.out.cell 1; have n2 : u2.cell? ⟨w.heap.size, 2, none⟩ = some (.slice pa1 st1.q1.length pk1) := GA.out.cell 2; have n3 : u2.cell? ⟨w.heap.size, 3, none⟩ = some (.bool st1.c0) := GA.out.cell 3; have n4 : u2.cell? ⟨w.heap.size, 4, none⟩ = some (.bool st1.c1) := GA.out.cell 4; have n5 : u2.cell? ⟨w.heap.size, 5, none⟩ = some (.int .i64 st1.tks) := GA.out.cell 5; have n6 : u2.cell? ⟨w.heap.size, 6, none⟩ = some (.slice (some ⟨gb, off, none⟩) st1.ws.length pkw) := GA.out.cell 6; have n7 : u2.cell? ⟨w.heap.size, 7, none⟩ = some (.slice paa st1.ans.length pka) := GA.out.cell 7; have m1 : u2.cell? ⟨wo.heap.size, 1, none⟩ = some (.int .i64 yk) := GW.out.cell 1; have m2 : u2.cell? ⟨wo.heap.size, 2, none⟩ = some (.int .i64 yf) := GW.out.cell 2; have m3 : u2.cell? ⟨wo.heap.size, 3, none⟩ = some (.int .i64 yc) := GW.out.cell 3; have m4 : u2.cell? ⟨wo.heap.size, 4, none⟩ = some (.string yd) := GW.out.cell 4; (first | ((with_reducible have QN0 := keepBlk b2 (Blk.drew (Blk.new W2 60 [.int .i64 0, .slice none 0 0, .slice none 0 0, .bool false, .bool false, .int .i64 0, .slice none 0 0, .slice none 0 0]))); have QN := Lib.hid QN0; clear QN0) | skip); have nu1 : w.heap.size ≠ u2.heap.size := (fun e => absurd GB.out.size (by rw [← e]; exact Nat.not_le_of_lt hwW)); have nu2 : wo.heap.size ≠ u2.heap.size := (fun e => absurd GB.out.size (by rw [← e]; exact Nat.not_le_of_lt KW.out.lt)); clear R2 b2)
          | (go_at_call 67; refine (CDo.out ⟨.slice qa0 (without st1 i).q0.length qk0, .slice qa1 (without st1 i).q1.length qk1, .slice qaw (without st1 i).ws.length qkw, .slice qaa (without st1 i).ans.length qka⟩ _ ?_).mono ?_; (first | exact HR2.out | exact HR2.out.below ((Below.refl _ _).alloc (Nat.le_refl _) _)); rintro e u3 ⟨S3, he3, R3, b3⟩; obtain ⟨sa0, sk0, sa1, sk1, saw, skw, saa, ska, rfl⟩ := R3.open; unfold rpV at he3; dsimp only at he3; subst he3; have HR3 := Lib.hid R3; have JA : Hid (Blk u3 (w.heap.size) 60 [.int .i64 st1.limit, .slice pa0 st1.q0.length pk0, .slice pa1 st1.q1.length pk1, .bool st1.c0, .bool st1.c1, .int .i64 st1.tks, .slice (some ⟨gb, off, none⟩) st1.ws.length pkw, .slice paa st1.ans.length pka]) := (by first | exact Lib.hid (keepBlk b3 GA.out) | exact Lib.hid (keepBlk b3 (GA.out.alloc _))); have JW : Hid (Blk u3 wo.heap.size 120 [.int .i64 yt, .int .i64 yk, .int .i64 yf, .int .i64 yc, .string yd]) := (by first | exact Lib.hid (keepBlk b3 GW.out) | exact Lib.hid (keepBlk b3 (GW.out.alloc _))); have JB : Hid (Below W2.heap.size W2 u3) := (by first | exact Lib.hid (keepBelow GB.out b3) | exact Lib.hid (keepBelow (GB.out.alloc GB.out.size _) b3)); have r0 : u3.cell? ⟨w.heap.size, 0, none⟩ = some (.int .i64 st1.limit) := JA.out.cell 0; have r1 : u3.cell? ⟨w.heap.size, 1, none⟩ = some (.slice pa0 st1.q0.length pk0) := JA.out.cell 1; have r2 : u3.cell? ⟨w.heap.size, 2, none⟩ = some (.slice pa1 st1.q1.length pk1) := JA.out.cell 2; have r3 : u3.cell? ⟨w.heap.size, 3, none⟩ = some (.bool st1.c0) := JA.out.cell 3; have r4 : u3.cell? ⟨w.heap.size, 4, none⟩ = some (.bool st1.c1) := JA.out.cell 4; have r5 : u3.cell? ⟨w.heap.size, 5, none⟩ = some (.int .i64 st1.tks) := JA.out.cell 5; have r6 : u3.cell? ⟨w.heap.size, 6, none⟩ = some (.slice (some ⟨gb, off, none⟩) st1.ws.length pkw) := JA.out.cell 6; have r7 : u3.cell? ⟨w.heap.size, 7, none⟩ = some (.slice paa st1.ans.length pka) := JA.out.cell 7; have t1 : u3.cell? ⟨wo.heap.size, 1, none⟩ = some (.int .i64 yk) := JW.out.cell 1; have t2 : u3.cell? ⟨wo.heap.size, 2, none⟩ = some (.int .i64 yf) := JW.out.cell 2; have t3 : u3.cell? ⟨wo.heap.size, 3, none⟩ = some (.int .i64 yc) := JW.out.cell 3; have t4 : u3.cell? ⟨wo.heap.size, 4, none⟩ = some (.string yd) := JW.out.cell 4; (first | ((with_reducible have QZ0 := keepBlk b3 (Blk.new u2 60 [.int .i64 0, .slice none 0 0, .slice none 0 0, .bool false, .bool false, .int .i64 0, .slice none 0 0, .slice none 0 0])); have QZ := Lib.hid QZ0; clear QZ0; have qzf : ∀ i, u3.frozen? ⟨u2.heap.size, i, none⟩ = false := fun i => QZ.out.frozen i; have qz0 : u3.cell? ⟨u2.heap.size, 0, none⟩ = some (.int .i64 0) := QZ.out.cell 0; have qz1 : u3.cell? ⟨u2.heap.size, 1, none⟩ = some (.slice none 0 0) := QZ.out.cell 1; have qz2 : u3.cell? ⟨u2.heap.size, 2, none⟩ = some (.slice none 0 0) := QZ.out.cell 2; have qz3 : u3.cell? ⟨u2.heap.size, 3, none⟩ = some (.bool false) := QZ.out.cell 3; have qz4 : u3.cell? ⟨u2.heap.size, 4, none⟩ = some (.bool false) := QZ.out.cell 4; have qz5 : u3.cell? ⟨u2.heap.size, 5, none⟩ = some (.int .i64 0) := QZ.out.cell 5; have qz6 : u3.cell? ⟨u2.heap.size, 6, none⟩ = some (.slice none 0 0) := QZ.out.cell 6; have qz7 : u3.cell? ⟨u2.heap.size, 7, none⟩ = some (.slice none 0 0) := QZ.out.cell 7) | ((with_reducible have QZ0 := keepBlk b3 QN.out); have QZ := Lib.hid QZ0; clear QZ0; have qzf : ∀ i, u3.frozen? ⟨W2.heap.size, i, none⟩ = false := fun i => QZ.out.frozen i; have qz0 : u3.cell? ⟨W2.heap.size, 0, none⟩ = some (.int .i64 0) := QZ.out.cell 0; have qz1 : u3.cell? ⟨W2.heap.size, 1, none⟩ = some (.slice none 0 0) := QZ.out.cell 1; have qz2 : u3.cell? ⟨W2.heap.size, 2, none⟩ = some (.slice none 0 0) := QZ.out.cell 2; have qz3 : u3.cell? ⟨W2.heap.size, 3, none⟩ = some (.bool false) := QZ.out.cell 3; have qz4 : u3.cell? ⟨W2.heap.size, 4, none⟩ = some (.bool false) := QZ.out.cell 4; have qz5 : u3.cell? ⟨W2.heap.size, 5, none⟩ = some (.int .i64 0) := QZ.out.cell 5; have qz6 : u3.cell? ⟨W2.heap.size, 6, none⟩ = some (.slice none 0 0) := QZ.out.cell 6; have qz7 : u3.cell? ⟨W2.heap.size, 7, none⟩ = some (.slice none 0 0) := QZ.out.cell 7) | skip); clear R3 b3))
        · have HSZ1 : wo.heap.size < W2.heap.size := KW.out.lt
          have HSZ2 := GB.out.size
          have HSZ3 := JB.out.size
          refine (show ∀ a' w', Met _ a' w' → _ from by assumption) _ _ ?_
          refine Met.intro ?_
          refine (show ∀ a' w', _ → _ from by assumption) _ _ ?_
          (repeat apply Exists.intro)
          refine ⟨?_, rfl⟩
          exact ⟨u3.heap.size, ⟨.slice sa0 st3.q0.length sk0, .slice sa1 st3.q1.length sk1, .slice saw st3.ws.length skw, .slice saa st3.ans.length ska⟩, rfl, rfl, rfl, Nat.lt_of_lt_of_le HSZ1 HSZ3, Blk.new u3 60 _, HR3.out.below ((Below.refl _ _).alloc (Nat.le_refl _) _), JB.out.alloc JB.out.size _⟩
        · have HSZ1 : wo.heap.size < W2.heap.size := KW.out.lt
          have HSZ2 := GB.out.size
          have HSZ3 := JB.out.size
          refine (show ∀ a' w', Met _ a' w' → _ from by assumption) _ _ ?_
          refine Met.intro ?_
          refine (show ∀ a' w', _ → _ from by assumption) _ _ ?_
          (repeat apply Exists.intro)
          refine ⟨?_, rfl⟩
          obtain ⟨o1, o2, o3, o4⟩ := put8 QZ.out (.int .i64 st3.limit) (.slice sa0 st3.q0.length sk0) (.slice sa1 st3.q1.length sk1) (.bool st3.c0) (.bool st3.c1) (.int .i64 st3.tks) (.slice saw st3.ws.length skw) (.slice saa st3.ans.length ska)
          exact ⟨u2.heap.size, ⟨.slice sa0 st3.q0.length sk0, .slice sa1 st3.q1.length sk1, .slice saw st3.ws.length skw, .slice saa st3.ans.length ska⟩, rfl, rfl, rfl, Nat.lt_of_lt_of_le HSZ1 HSZ2, o1, ⟨o2 HR3.out.r0 (by decide), o2 HR3.out.r1 (by decide), o2 HR3.out.rw_ (by decide), o2 HR3.out.ra (by decide), HR3.out.o.to (o3 (Below.refl 0 _) (Nat.zero_le _)).size⟩, o3 JB.out GB.out.size⟩
        · have HSZ1 : wo.heap.size < W2.heap.size := KW.out.lt
          have HSZ2 := GB.out.size
          have HSZ3 := JB.out.size
          refine (show ∀ a' w', Met _ a' w' → _ from by assumption) _ _ ?_
          refine Met.intro ?_
          refine (show ∀ a' w', _ → _ from by assumption) _ _ ?_
          (repeat apply Exists.intro)
          refine ⟨?_, rfl⟩
          obtain ⟨o1, o2, o3, o4⟩ := put8 QZ.out (.int .i64 st3.limit) (.slice sa0 st3.q0.length sk0) (.slice sa1 st3.q1.length sk1) (.bool st3.c0) (.bool st3.c1) (.int .i64 st3.tks) (.slice saw st3.ws.length skw) (.slice saa st3.ans.length ska)
          exact ⟨W2.heap.size, ⟨.slice sa0 st3.q0.length sk0, .slice sa1 st3.q1.length sk1, .slice saw st3.ws.length skw, .slice saa st3.ans.length ska⟩, rfl, rfl, rfl, HSZ1, o1, ⟨o2 HR3.out.r0 (by decide), o2 HR3.out.r1 (by decide), o2 HR3.out.rw_ (by decide), o2 HR3.out.ra (by decide), HR3.out.o.to (o3 (Below.refl 0 _) (Nat.zero_le _)).size⟩, o3 JB.out (Nat.le_refl _)⟩
      case rest =>
        obtain ⟨bq, S3, rfl, rfl, rfl, hbq, hB3, hR3, hW3⟩ := hcut
        obtain ⟨sa0, sk0, sa1, sk1, saw, skw, saa, ska, rfl⟩ := hR3.open
        have MQ := Lib.hid (show Blk wc bq 60 [.int .i64 st3.limit, .slice sa0 st3.q0.length sk0, .slice sa1 st3.q1.length sk1, .bool st3.c0, .bool st3.c1, .int .i64 st3.tks, .slice saw st3.ws.length skw, .slice saa st3.ans.length ska] from hB3)
        have MA := Lib.hid (keepBlk hW3 HA2.out)
        have MC := Lib.hid (keepBlk hW3 HC2.out)
        have MW := Lib.hid (keepBlk hW3 KW.out)
        have MR := Lib.hid hR3
        have MB := Lib.hid (keepBelow LW.out (keepBelow B2.out hW3))
        clear hB3 hR3 hW3 g0 g1 g2 g3 g4 g5 g6 g7 k0 k1 k2 k3 k4 x0 x1 x2 x3 x4 x5 x6 x7 y0 y1 y2 y3 y4 y5 y6 y7 c0 c1 c2 c3 c4 xf yf_ hwW nw1 nw2
        have g0 : wc.cell? ⟨bq, 0, none⟩ = some (.int .i64 st3.limit) := MQ.out.cell 0
        have g1 : wc.cell? ⟨bq, 1, none⟩ = some (.slice sa0 st3.q0.length sk0) := MQ.out.cell 1
        have g2 : wc.cell? ⟨bq, 2, none⟩ = some (.slice sa1 st3.q1.length sk1) := MQ.out.cell 2
        have g3 : wc.cell? ⟨bq, 3, none⟩ = some (.bool st3.c0) := MQ.out.cell 3
        have g4 : wc.cell? ⟨bq, 4, none⟩ = some (.bool st3.c1) := MQ.out.cell 4
        have g5 : wc.cell? ⟨bq, 5, none⟩ = some (.int .i64 st3.tks) := MQ.out.cell 5
        have g6 : wc.cell? ⟨bq, 6, none⟩ = some (.slice saw st3.ws.length skw) := MQ.out.cell 6
        have g7 : wc.cell? ⟨bq, 7, none⟩ = some (.slice saa st3.ans.length ska) := MQ.out.cell 7
        have k0 : wc.cell? ⟨wo.heap.size, 0, none⟩ = some (.int .i64 yt) := MW.out.cell 0
        have hcA := Lib.hid CAo
        have hra : w.heap.size ≠ bq := by omega
        go_upto_region 3 with (go_at_call 68; refine (CAo.out ⟨.slice sa0 st3.q0.length sk0, .slice sa1 st3.q1.length sk1, .slice saw st3.ws.length skw, .slice saa st3.ans.length ska⟩ _ ?_).mono ?_; exact MR.out; rintro e u4 ⟨S4, he4, R4, b4⟩; obtain ⟨ta0, tk0, ta1, tk1, taw, tkw, taa, tka, rfl⟩ := R4.open; (try unfold rpV at he4); (try dsimp only at he4); subst he4; have NA := Lib.hid (keepBlk b4 MA.out); have NC := Lib.hid (keepBlk b4 MC.out); have NB := Lib.hid (keepBelow MB.out b4); have NR := Lib.hid R4; have n0 : u4.cell? ⟨w.heap.size, 0, none⟩ = some (.int .i64 st1.limit) := NA.out.cell 0; have n1 : u4.cell? ⟨w.heap.size, 1, none⟩ = some (.slice pa0 st1.q0.length pk0) := NA.out.cell 1; have n2 : u4.cell? ⟨w.heap.size, 2, none⟩ = some (.slice pa1 st1.q1.length pk1) := NA.out.cell 2; have n3 : u4.cell? ⟨w.heap.size, 3, none⟩ = some (.bool st1.c0) := NA.out.cell 3; have n4 : u4.cell? ⟨w.heap.size, 4, none⟩ = some (.bool st1.c1) := NA.out.cell 4; have n5 : u4.cell? ⟨w.heap.size, 5, none⟩ = some (.int .i64 st1.tks) := NA.out.cell 5; have n6 : u4.cell? ⟨w.heap.size, 6, none⟩ = some (.slice (some ⟨gb, off, none⟩) st1.ws.length pkw) := NA.out.cell 6; have n7 : u4.cell? ⟨w.heap.size, 7, none⟩ = some (.slice paa st1.ans.length pka) := NA.out.cell 7; have nf := fun i => NA.out.frozen i; clear R4 b4)
        obtain ⟨o1, o2, o3, o4⟩ := put8 NA.out (.int .i64 (answered st3 ⟨yt, cnt, dat, 0⟩).limit) (.slice ta0 (answered st3 ⟨yt, cnt, dat, 0⟩).q0.length tk0) (.slice ta1 (answered st3 ⟨yt, cnt, dat, 0⟩).q1.length tk1) (.bool (answered st3 ⟨yt, cnt, dat, 0⟩).c0) (.bool (answered st3 ⟨yt, cnt, dat, 0⟩).c1) (.int .i64 (answered st3 ⟨yt, cnt, dat, 0⟩).tks) (.slice taw (answered st3 ⟨yt, cnt, dat, 0⟩).ws.length tkw) (.slice taa (answered st3 ⟨yt, cnt, dat, 0⟩).ans.length tka)
        have P1 := o1
        have P2 := o3 NB.out (Nat.le_refl _)
        have P3 := o4 NC.out (Nat.succ_ne_self _)
        have P4 : Ref F ((((((((u4.setCell ⟨w.heap.size, 0, none⟩ (.int .i64 (answered st3 ⟨yt, cnt, dat, 0⟩).limit)).setCell ⟨w.heap.size, 1, none⟩ (.slice ta0 (answered st3 ⟨yt, cnt, dat, 0⟩).q0.length tk0)).setCell ⟨w.heap.size, 2, none⟩ (.slice ta1 (answered st3 ⟨yt, cnt, dat, 0⟩).q1.length tk1)).setCell ⟨w.heap.size, 3, none⟩ (.bool (answered st3 ⟨yt, cnt, dat, 0⟩).c0)).setCell ⟨w.heap.size, 4, none⟩ (.bool (answered st3 ⟨yt, cnt, dat, 0⟩).c1)).setCell ⟨w.heap.size, 5, none⟩ (.int .i64 (answered st3 ⟨yt, cnt, dat, 0⟩).tks)).setCell ⟨w.heap.size, 6, none⟩ (.slice taw (answered st3 ⟨yt, cnt, dat, 0⟩).ws.length tkw)).setCell ⟨w.heap.size, 7, none⟩ (.slice taa (answered st3 ⟨yt, cnt, dat, 0⟩).ans.length tka)) ⟨.slice ta0 (answered st3 ⟨yt, cnt, dat, 0⟩).q0.length tk0, .slice ta1 (answered st3 ⟨yt, cnt, dat, 0⟩).q1.length tk1, .slice taw (answered st3 ⟨yt, cnt, dat, 0⟩).ws.length tkw, .slice taa (answered st3 ⟨yt, cnt, dat, 0⟩).ans.length tka⟩ (answered st3 ⟨yt, cnt, dat, 0⟩) := ⟨o2 NR.out.r0 (by decide), o2 NR.out.r1 (by decide), o2 NR.out.rw_ (by decide), o2 NR.out.ra (by decide), NR.out.o.to (o3 (Below.refl 0 _) (Nat.zero_le _)).size⟩
        clear o1 o2 o3 o4
        obtain ⟨V, hV⟩ : ∃ V, V = ((((((((u4.setCell ⟨w.heap.size, 0, none⟩ (.int .i64 (answered st3 ⟨yt, cnt, dat, 0⟩).limit)).setCell ⟨w.heap.size, 1, none⟩ (.slice ta0 (answered st3 ⟨yt, cnt, dat, 0⟩).q0.length tk0)).setCell ⟨w.heap.size, 2, none⟩ (.slice ta1 (answered st3 ⟨yt, cnt, dat, 0⟩).q1.length tk1)).setCell ⟨w.heap.size, 3, none⟩ (.bool (answered st3 ⟨yt, cnt, dat, 0⟩).c0)).setCell ⟨w.heap.size, 4, none⟩ (.bool (answered st3 ⟨yt, cnt, dat, 0⟩).c1)).setCell ⟨w.heap.size, 5, none⟩ (.int .i64 (answered st3 ⟨yt, cnt, dat, 0⟩).tks)).setCell ⟨w.heap.size, 6, none⟩ (.slice taw (answered st3 ⟨yt, cnt, dat, 0⟩).ws.length tkw)).setCell ⟨w.heap.size, 7, none⟩ (.slice taa (answered st3 ⟨yt, cnt, dat, 0⟩).ans.length tka)) := ⟨_, rfl⟩
        rw [← hV] at P1 P2 P3 P4
        rw [← hV]
        have HVV := Lib.hid hV
        have Q1 := Lib.hid P1
        have Q2 := Lib.hid P2
        have Q3 := Lib.hid P3
        have Q4 := Lib.hid P4
        have HGT := HGS.out
        have HBT := HBS.out
        have HMT := HMS.out
        have HST2 := HSS.out
        rw [HST.out] at HGT HBT HMT HST2
        have CN := Lib.hid (HN.out (answered st3 ⟨yt, cnt, dat, 0⟩) _ HGT HBT V P4)
        have QG := Lib.hid HGT
        have QB := Lib.hid HBT
        have QM := Lib.hid HMT
        have QS := Lib.hid HST2
        clear hV P1 P2 P3 P4 HGT HBT HMT HST2 n0 n1 n2 n3 n4 n5 n6 n7 g0 g1 g2 g3 g4 g5 g6 g7 nf k0 hra
        have d0 : V.cell? ⟨w.heap.size, 0, none⟩ = some (.int .i64 (answered st3 ⟨yt, cnt, dat, 0⟩).limit) := Q1.out.cell 0
        have d1 : V.cell? ⟨w.heap.size, 1, none⟩ = some (.slice ta0 (answered st3 ⟨yt, cnt, dat, 0⟩).q0.length tk0) := Q1.out.cell 1
        have d2 : V.cell? ⟨w.heap.size, 2, none⟩ = some (.slice ta1 (answered st3 ⟨yt, cnt, dat, 0⟩).q1.length tk1) := Q1.out.cell 2
        have d3 : V.cell? ⟨w.heap.size, 3, none⟩ = some (.bool (answered st3 ⟨yt, cnt, dat, 0⟩).c0) := Q1.out.cell 3
        have d4 : V.cell? ⟨w.heap.size, 4, none⟩ = some (.bool (answered st3 ⟨yt, cnt, dat, 0⟩).c1) := Q1.out.cell 4
        have d5 : V.cell? ⟨w.heap.size, 5, none⟩ = some (.int .i64 (answered st3 ⟨yt, cnt, dat, 0⟩).tks) := Q1.out.cell 5
        have d6 : V.cell? ⟨w.heap.size, 6, none⟩ = some (.slice taw (answered st3 ⟨yt, cnt, dat, 0⟩).ws.length tkw) := Q1.out.cell 6
        have d7 : V.cell? ⟨w.heap.size, 7, none⟩ = some (.slice taa (answered st3 ⟨yt, cnt, dat, 0⟩).ans.length tka) := Q1.out.cell 7
        go_wp2_with (go_at_call 81; refine (CN.out).mono ?_; rintro e u5 ⟨rfl, hb5⟩; have Z1 := Lib.hid (keepBlk hb5 Q1.out); have Z3 := Lib.hid (keepBlk hb5 Q3.out); have Z4 := Lib.hid (Q4.out.below hb5); have Z2 := Lib.hid (keepBelow Q2.out hb5); clear hb5)
        go_roundg m
        case measure => have := HGM.out; omega
        case rel => exact ⟨⟨.slice ta0 (answered st3 ⟨yt, cnt, dat, 0⟩).q0.length tk0, .slice ta1 (answered st3 ⟨yt, cnt, dat, 0⟩).q1.length tk1, .slice taw (answered st3 ⟨yt, cnt, dat, 0⟩).ws.length tkw, .slice taa (answered st3 ⟨yt, cnt, dat, 0⟩).ans.length tka⟩, (answered st3 ⟨yt, cnt, dat, 0⟩), QM.out, Z1.out, Z3.out, Z4.out, QG.out, QB.out, QS.out, rfl, Z2.out⟩
end Go.Proofs.Ytmnlojbfdpjjdaa
