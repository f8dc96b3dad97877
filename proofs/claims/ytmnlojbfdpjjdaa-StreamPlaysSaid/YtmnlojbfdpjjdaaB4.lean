/- settle as a deferred call: its walk once more. -/
import Derived.Test.YtmnlojbfdpjjdaaB3
import Derived.Defers
namespace Go.Proofs.Ytmnlojbfdpjjdaa
open Go.RowKit
attribute [local go_sem] Oper.semAt_some
attribute [local go_sem ↓] run_appSem
set_option maxRecDepth 100000 in
set_option maxHeartbeats 3200000 in
theorem settleD_any (g : Nat) (S : Sl) (st : St) (w : World) (u : FrameMode) (hP : PipeAt w g S st) (hs : Sm st) (hw : WOk st) :
    CallsD Try.prog 57 #[.pointer (some ⟨g, 0, none⟩)] u w fun e u' w' => u' = u ∧ (e = .returned (.tuple #[]) ∧ ∃ S', PipeAt w' g S' (settle st) ∧ Turn g S w S' w') := by
  have HI := Lib.hid (And.intro hP (And.intro hs hw))
  clear hP hs hw
  go_enter_d Try.func57, Try.ntmps57
  go_wp2
  go_step3
  go_wp2
  go_step3
  go_wp2
  go_loopg [] st.ws.length (fun n wr => ∃ S' st', st'.ws.length = n ∧ PipeAt wr g S' st' ∧ Turn g S w S' wr ∧ Sm st' ∧ WOk st' ∧ settleS n st' = settle st)
  case atStart => exact ⟨S, st, rfl, HI.out.1, Turn.refl _ _ _, HI.out.2.1, HI.out.2.2, rfl⟩
  case round =>
    obtain ⟨wo, rfl⟩ : ∃ wo, wo = wr := ⟨_, rfl⟩
    obtain ⟨gk0, rfl⟩ : ∃ x, x = gk := ⟨_, rfl⟩
    obtain ⟨S1, st1, hn, hP, hT, hs, hw, he⟩ := hrel
    have HN := Lib.hid hn
    have HP := Lib.hid hP
    have HT := Lib.hid hT
    have HE := Lib.hid he
    have HS := Lib.hid hs
    have HW := Lib.hid hw
    have hgo := hP.blk.lt
    clear hn hP hT hs hw he
    go_wp2_with fail
    go_loopg [10] 2 (fun n i wr => ∃ m : Nat, m + n = 2 ∧ i = .int .i64 m ∧ (∀ k : Nat, k < m → ∀ f : Nat, f < 2 → cand st1 k f = none) ∧ Below wo.heap.size wo wr)
    case atStart => exact ⟨0, rfl, rfl, fun k hk => by omega, Below.refl _ _⟩
    case round =>
      obtain ⟨wm, rfl⟩ : ∃ wm, wm = wr := ⟨_, rfl⟩
      obtain ⟨gk1, rfl⟩ : ∃ x, x = gk := ⟨_, rfl⟩
      obtain ⟨m, hmn, rfl, hno, hb⟩ := hrel
      have HMN := Lib.hid hmn
      have HNO := Lib.hid hno
      have HB := Lib.hid hb
      have hwm := hb.size
      clear hmn hno hb
      by_cases hm : m < 2
      · have hix := idx74 m hm
        have hmd : decide ((m : Int) < 2) = true := by rw [decide_eq_true_eq]; omega
        go_wp2_with fail
        clear hix hmd
        obtain ⟨wk, hwk⟩ : ∃ wk, wk = wm.alloc (.cells #[.int .i64 m] 3) := ⟨_, rfl⟩
        obtain ⟨bk, hbk⟩ : ∃ bk, bk = wm.heap.size := ⟨_, rfl⟩
        have KK : Hid (Blk wk bk 3 [.int .i64 m]) := by rw [hwk, hbk]; exact Lib.hid (Blk.new wm 3 [_])
        have BK : Hid (Below wo.heap.size wo wk) := by rw [hwk]; exact Lib.hid (HB.out.alloc HB.out.size _)
        rw [← hwk, ← hbk]
        clear hwk hbk
        go_loopg [13] 2 (fun n j wr => ∃ q : Nat, q + n = 2 ∧ j = .int .i64 q ∧ (∀ f : Nat, f < q → cand st1 m f = none) ∧ Below wk.heap.size wk wr)
        case atStart => exact ⟨0, rfl, rfl, fun f hf => by omega, Below.refl _ _⟩
        case round =>
          obtain ⟨wz, rfl⟩ : ∃ wz, wz = wr := ⟨_, rfl⟩
          obtain ⟨q, hqn, rfl, hno2, hb2⟩ := hrel
          have HQN := Lib.hid hqn
          have HNO2 := Lib.hid hno2
          have BZ := Lib.hid (keepBelow BK.out hb2)
          have KZ := Lib.hid (keepBlk hb2 KK.out)
          have HB2 := Lib.hid hb2
          clear hqn hno2 hb2
          by_cases hq : q < 2
          · have hmi : (m : Int) = 0 ∨ (m : Int) = 1 := by omega
            have hqi : (q : Int) = 0 ∨ (q : Int) = 1 := by omega
            have BZ2 : Hid (Below wo.heap.size wo (wz.alloc (.cells #[.int .i64 q] 3))) := Lib.hid (BZ.out.alloc BZ.out.size _)
            have z6 : wz.cell? ⟨g, 6, none⟩ = some S1.sw := ((HP.out.below BZ.out).cells).2.2.2.2.2.2.1
            have hgz : g < wz.heap.size := Nat.lt_of_lt_of_le hgo BZ.out.size
            have hql : st1.ws.length ≤ 100000 := by have := HS.out.q; omega
            have CI := Lib.hid (fun W (hb : Below wo.heap.size wo W) hk hf hbk hbf => index_any st1.ws S1.sw m q bk wz.heap.size W (HP.out.below hb).rw_ hql hk hf hbk hbf)
            have KZ2 : Hid (Blk (wz.alloc (.cells #[.int .i64 q] 3)) bk 3 [.int .i64 m]) := Lib.hid (KZ.out.alloc _)
            have KQ : Hid (Blk (wz.alloc (.cells #[.int .i64 q] 3)) wz.heap.size 3 [.int .i64 q]) := Lib.hid (Blk.new wz 3 [_])
            have armdummy := True.intro
            clear armdummy
            cases hfi : st1.ws.findIdx? (hitB m q) with
            | none =>
              have hix : ixF st1.ws m q = -1 := ixF_no hfi
              rw [hix] at CI
              have HC := Lib.hid (cand_none1 hfi)
              clear hix hfi
              go_wp2_with (go_at_call 74; refine (CI.out _ ?_ ?_ ?_ ?_ ?_).mono ?_; exact BZ2.out; exact KZ2.out.cell 0; exact KQ.out.cell 0; exact KZ2.out.lt; exact KQ.out.lt; rintro e v1 ⟨rfl, hb1⟩; have B1 := Lib.hid (keepBelow BZ2.out hb1); have Z1 := Lib.hid (keepBelow ((Below.refl _ _).alloc (Nat.le_refl _) _ : Below wz.heap.size wz (wz.alloc (.cells #[.int .i64 q] 3))) hb1); have y6 : v1.cell? ⟨g, 6, none⟩ = some S1.sw := ((HP.out.below B1.out).cells).2.2.2.2.2.2.1; clear hb1)
              go_roundg (gk - 1)
              case measure => have := HQN.out; omega
              case rel => exact ⟨q + 1, by have := HQN.out; omega, by go_num, fun f hf => by
                by_cases e : f = q
                · rw [e]; exact HC.out
                · exact HNO2.out f (by omega), HB2.out.trans (Z1.out.mono HB2.out.size)⟩
            | some i =>
              obtain ⟨hil, hhit, hix⟩ := find_hit hfi
              obtain ⟨y, hy⟩ : ∃ y, y = st1.ws.getD i wt0 := ⟨_, rfl⟩
              rw [← hy] at hhit
              have hyk := hit_eq hhit
              have hok : OpOk y.op := by rw [hy]; exact HW.out _ (getD_mem hil)
              rw [hix] at CI
              obtain ⟨gw, offw, cap, hsw, hn1, hn2, hgw0, hcl, _⟩ := HP.out.rw_.open (by omega)
              unfold maxLen at hn2
              have HSW := Lib.hid hsw
              rw [hsw] at z6 CI
              have C6 : Hid (∀ W, Below wo.heap.size wo W → W.cell? ⟨g, 6, none⟩ = some (.slice (some ⟨gw, offw, none⟩) st1.ws.length cap)) := Lib.hid (fun W hb => by rw [← HSW.out]; exact (HP.out.below hb).cells.2.2.2.2.2.2.1)
              have CW := Lib.hid (fun W (hb : Below wo.heap.size wo W) => wt_cells (w := W) (fun j hj => (hb.cell (p := ⟨gw, offw + j, none⟩) hgw0).trans (hcl j hj)) hil y hy)
              have CR := Lib.hid (fun W (hb : Below wo.heap.size wo W) => ready_any y.op hok.1 g S1 st1 W (HP.out.below hb) HS.out)
              have hgw : (Value.slice (some ⟨gw, offw, none⟩) st1.ws.length cap).ownBlock ≠ some g := by rw [← HSW.out]; exact HP.out.rw_.ne HP.out.blk (by decide)
              have HC1 := Lib.hid (fun (hr : readyB st1 (st1.ws.getD i wt0).op = false) => cand_none2 hfi hr)
              have HC2 := Lib.hid (fun (hr : readyB st1 (st1.ws.getD i wt0).op = true) => cand_some hfi hr)
              rw [← hy] at HC1 HC2
              have hRB : readyB st1 y.op = true → y.op.kind = 0 → qOf (without st1 i) y.op ≠ [] := fun h h0 => by
                unfold readyB at h
                rw [if_pos h0, decide_eq_true_eq] at h
                intro e
                have e2 : qOf st1 y.op = [] := e
                rw [e2] at h
                exact absurd h (by simp)
              have HRB := Lib.hid hRB
              have HOK := Lib.hid hok
              have HY := Lib.hid hy
              clear hix hfi hhit hyk hsw hcl hok hy hRB
              cases hrb : readyB st1 y.op with
              | false =>
                rw [hrb] at CR
                have HC := Lib.hid (HC1.out hrb)
                clear hrb
                obtain ⟨⟨yk, yf, yc, yd⟩, yt⟩ := y
                unfold opV at CR
                simp only at CR CW
                go_wp2_with (first
                  | (go_at_call 74; refine (CI.out _ ?_ ?_ ?_ ?_ ?_).mono ?_; exact BZ2.out; exact KZ2.out.cell 0; exact KQ.out.cell 0; exact KZ2.out.lt; exact KQ.out.lt; rintro e v1 ⟨rfl, hb1⟩; have B1 := Lib.hid (keepBelow BZ2.out hb1); have Z1 := Lib.hid (keepBelow ((Below.refl _ _).alloc (Nat.le_refl _) _ : Below wz.heap.size wz (wz.alloc (.cells #[.int .i64 q] 3))) hb1); have y6 : v1.cell? ⟨g, 6, none⟩ = some (.slice (some ⟨gw, offw, none⟩) st1.ws.length cap) := C6.out v1 B1.out; obtain ⟨c0, c1, c2, c3, c4⟩ := CW.out v1 B1.out; clear hb1)
                  | (go_at_call 71; refine (CR.out _ ?_).mono ?_; exact B1.out; rintro e v2 ⟨rfl, hb2⟩; have B2 := Lib.hid (keepBelow B1.out hb2); have Z2 := Lib.hid (keepBelow Z1.out hb2); have x6 : v2.cell? ⟨g, 6, none⟩ = some (.slice (some ⟨gw, offw, none⟩) st1.ws.length cap) := C6.out v2 B2.out; obtain ⟨d0, d1, d2, d3, d4⟩ := CW.out v2 B2.out; have KYB := Lib.hid (Blk.new v2 92 [.int .i64 yk, .int .i64 yf, .int .i64 yc, .string yd, .int .i64 yt]); have BYB : Hid (Below wo.heap.size wo (v2.alloc (.cells #[.int .i64 yk, .int .i64 yf, .int .i64 yc, .string yd, .int .i64 yt] 92))) := Lib.hid (B2.out.alloc B2.out.size _); have hgv2 : g < v2.heap.size := Nat.lt_of_lt_of_le hgo B2.out.size; clear hb2 y6 c0 c1 c2 c3 c4))
                go_roundg (gk - 1)
                case measure => have := HQN.out; omega
                case rel => exact ⟨q + 1, by have := HQN.out; omega, by go_num, fun f hf => by
                  by_cases e : f = q
                  · rw [e]; exact HC.out
                  · exact HNO2.out f (by omega), HB2.out.trans (Z2.out.mono HB2.out.size)⟩
              | true =>
                rw [hrb] at CR
                have HC := Lib.hid (HC2.out hrb)
                have HQ := Lib.hid (HRB.out hrb)
                clear hrb
                obtain ⟨m', hm'⟩ : ∃ m', st1.ws.length = i + 1 + m' := ⟨st1.ws.length - (i + 1), by omega⟩
                have CD := Lib.hid (fun W (hb : Below wo.heap.size wo W) => delete_any st1.ws S1.sw i m' hm' W (by have := (HP.out.below hb).rw_; rw [hm'] at this; exact this) (by omega))
                have UW := Lib.hid (fun W (hb : Below wo.heap.size wo W) W1 v (hg : W.grownBy W1 S1.sw.ownBlock) (hr : Row W1 92 5 v (i + m') (wtsC (st1.ws.eraseIdx i))) (ho : v.ownBlock = S1.sw.ownBlock) => (HP.out.below hb).updw (w1 := W1) (v := v) (st1.ws.eraseIdx i) hg (by rw [List.length_eraseIdx, if_pos hil, hm', show i + 1 + m' - 1 = i + m' by omega]; exact hr) (Or.inl ho))
                rw [HSW.out] at CD UW
                have HM := Lib.hid hm'
                have hyw : Hid (∀ v2 : World, Below wo.heap.size wo v2 → (Value.slice (some ⟨gw, offw, none⟩) st1.ws.length cap).ownBlock ≠ some v2.heap.size) := Lib.hid (fun W hb e => by
                  have e1 : gw = W.heap.size := by simpa [Value.ownBlock] using e
                  have := hb.size
                  omega)
                have hi0 : ¬ (i : Int) < 0 := by omega
                have CDO := Lib.hid (fun S2 W (hp : PipeAt W g S2 (without st1 i)) => do_any y.op HOK.out.1 HOK.out.2.1 g S2 (without st1 i) (fun _ => HQ.out) W hp (HS.out.without hil) HOK.out.2.2)
                obtain ⟨r, hr⟩ : ∃ r, r = doS (without st1 i) y.op := ⟨_, rfl⟩
                rw [← hr] at CDO
                have HSTEP := Lib.hid (show stepS st1 i = answered r.1 ⟨y.tk, r.2.1, r.2.2, 0⟩ by unfold stepS; rw [← HY.out, ← hr])
                have hlen := stepS_ws st1 i
                rw [HSTEP.out] at hlen
                have hsm := HS.out.step hil
                rw [HSTEP.out] at hsm
                have HSM := Lib.hid hsm
                have HLEN : Hid ((stepS st1 i).ws.length = i + m') := Lib.hid (by rw [stepS_ws, List.length_eraseIdx, if_pos hil]; omega)
                have hny : Hid (∀ v2 : World, Below wo.heap.size wo v2 → ∀ S' W', Turn g S1 (v2.alloc (.cells #[.int .i64 y.op.kind, .int .i64 y.op.fin, .int .i64 y.op.count, .string y.op.data, .int .i64 y.tk] 92)) S' W' → ¬ S'.has g v2.heap.size) := Lib.hid (fun v2 hb S' W' hT hh => by
                  rcases hT.mine _ hh with h | h
                  · have := HP.out.lt h; have := hb.size; omega
                  · rw [World.size_alloc] at h; omega)
                obtain ⟨st3, cnt, dat⟩ := r
                simp only at CDO HSTEP HSM
                obtain ⟨⟨yk, yf, yc, yd⟩, yt⟩ := y
                unfold opV at CR CDO
                simp only at CR CW CDO HSTEP HSM hny
                clear hm' hr hlen hsm
                go_upto_region 11 with (first
                  | (go_at_call 74; refine (CI.out _ ?_ ?_ ?_ ?_ ?_).mono ?_; exact BZ2.out; exact KZ2.out.cell 0; exact KQ.out.cell 0; exact KZ2.out.lt; exact KQ.out.lt; rintro e v1 ⟨rfl, hb1⟩; have B1 := Lib.hid (keepBelow BZ2.out hb1); have Z1 := Lib.hid (keepBelow ((Below.refl _ _).alloc (Nat.le_refl _) _ : Below wz.heap.size wz (wz.alloc (.cells #[.int .i64 q] 3))) hb1); have y6 : v1.cell? ⟨g, 6, none⟩ = some (.slice (some ⟨gw, offw, none⟩) st1.ws.length cap) := C6.out v1 B1.out; obtain ⟨c0, c1, c2, c3, c4⟩ := CW.out v1 B1.out; clear hb1)
                  | (go_at_call 71; refine (CR.out _ ?_).mono ?_; exact B1.out; rintro e v2 ⟨rfl, hb2⟩; have B2 := Lib.hid (keepBelow B1.out hb2); have Z2 := Lib.hid (keepBelow Z1.out hb2); have x6 : v2.cell? ⟨g, 6, none⟩ = some (.slice (some ⟨gw, offw, none⟩) st1.ws.length cap) := C6.out v2 B2.out; obtain ⟨d0, d1, d2, d3, d4⟩ := CW.out v2 B2.out; have KYB := Lib.hid (Blk.new v2 92 [.int .i64 yk, .int .i64 yf, .int .i64 yc, .string yd, .int .i64 yt]); have BYB : Hid (Below wo.heap.size wo (v2.alloc (.cells #[.int .i64 yk, .int .i64 yf, .int .i64 yc, .string yd, .int .i64 yt] 92))) := Lib.hid (B2.out.alloc B2.out.size _); have hgv2 : g < v2.heap.size := Nat.lt_of_lt_of_le hgo B2.out.size; clear hb2 y6 c0 c1 c2 c3 c4)
                  | (go_at_call 76; refine (CD.out _ ?_).mono ?_; exact BYB.out; rintro e w3 ⟨v', rfl, hr3, ho3, hg3⟩; obtain ⟨a3, cap3, rfl, _⟩ := hr3.form; obtain ⟨P3, T3⟩ := UW.out _ BYB.out w3 _ hg3 hr3 ho3; have HP3 := Lib.hid P3; have HT3 := Lib.hid T3; have e6 : w3.cell? ⟨g, 6, none⟩ = some (.slice (some ⟨gw, offw, none⟩) st1.ws.length cap) := (grown_cell hg3 (by simp; omega) hgw 6).trans ((World.cell?_alloc_lt _ _ _ hgv2).trans x6); have f6 : w3.frozen? ⟨g, 6, none⟩ = false := (grown_frozen hg3 (by simp; omega) hgw 6).trans ((HP.out.below BYB.out).frozen 6); have K3 := Lib.hid (Blk.far (KYB.out.grown hg3 (hyw.out v2 B2.out).symm) (p := ⟨g, 6, none⟩) (by intro e; have e1 : v2.heap.size = g := e; omega) (.slice a3 (i + m') cap3)); have k0 := K3.out.cell 0; have k1 := K3.out.cell 1; have k2 := K3.out.cell 2; have k3 := K3.out.cell 3; have k4 := K3.out.cell 4; clear P3 T3 hg3 hr3 ho3)
                  | (go_at_call 56; refine (CDO.out _ _ HP3.out).mono ?_; rintro e w5 ⟨rfl, S3, P5, T5⟩; have KY5 := Lib.hid (T5.blk K3.out (hny.out v2 B2.out _ _ HT3.out)); have HP5 := Lib.hid P5; have HT5 := Lib.hid ((Turn.of_below BYB.out : Turn g S1 wo S1 _).trans (HT3.out.trans T5)); have y4 : w5.cell? ⟨v2.heap.size, 4, none⟩ = some (.int .i64 yt) := KY5.out.cell 4; clear P5 T5 k0 k1 k2 k3 k4 e6 f6))
                obtain ⟨i0, hi, hz0, hz1, hz2⟩ := info_parts Try.info51
                have hal : st3.ans.length ≤ 100000 := by have := HSM.out.a; have e : (answered st3 ⟨yt, cnt, dat, 0⟩).ans.length = st3.ans.length + 1 := by simp [answered]
                                                         omega
                have s7 := HP5.out.cells.2.2.2.2.2.2.2
                have s7f := HP5.out.frozen 7
                have hg5 := HP5.out.blk.lt
                have hy5 := KY5.out.lt
                have hdr : Below w5.heap.size w5 ((w5.alloc (.cells #[.int .i64 yt, .int .i64 cnt, .string dat, .int .i64 0] 51)).drew) := ((Below.refl _ _).alloc (Nat.le_refl _) _).drew
                obtain ⟨v7, w7, hrun, hrow7, hgr, hat⟩ := run_append_row (P := Try.prog) (w := (w5.alloc (.cells #[.int .i64 yt, .int .i64 cnt, .string dat, .int .i64 0] 51)).drew) 45 45 51 i0 _ 4 40 Try.underlying45 hi hz0 hz1 hz2 rfl (by decide) S3.sa st3.ans.length (ansC st3.ans) (HP5.out.ra.below hdr)
                  ⟨w5.heap.size, 0, none⟩ 1 1 [.int .i64 yt, .int .i64 cnt, .string dat, .int .i64 0] rfl (World.news_of_block (cs := #[.int .i64 yt, .int .i64 cnt, .string dat, .int .i64 0]) (t := 51) (fr := (0, 0)) (heap_alloc_new w5 _)) (by simp [Value.oneCell']) (by unfold maxLen; omega) (by omega)
                obtain ⟨a7, cap7, rfl, _⟩ := hrow7.form
                rw [run_appSem] at hrun
                have hsg : S3.sa.ownBlock ≠ some g := HP5.out.ra.ne HP5.out.blk (by decide)
                have w7c : w7.cell? ⟨g, 7, none⟩ = some S3.sa := by rw [grown_cell hgr (by simp; omega) hsg, World.cell?_drew, World.cell?_alloc_lt _ _ _ hg5]; exact s7
                have w7f : w7.frozen? ⟨g, 7, none⟩ = false := by rw [grown_frozen hgr (by simp; omega) hsg, World.frozen?_drew, World.frozen?_of_block (w := w5) (hdr.block g hg5)]; exact s7f
                obtain ⟨P7, T7⟩ := HP5.out.upda (w1 := w7) (v := .slice a7 (st3.ans.length + 1) cap7) (st3.ans ++ [⟨yt, cnt, dat, 0⟩]) (grown_trans (below_grown hdr _) hgr) (by simpa [ansC, anC] using hrow7) (hat.imp id fun h k hk => by have := h k hk; simp at this; omega)
                have FIN := Lib.hid (And.intro P7 ((HT.out.trans HT5.out).trans T7))
                clear P7 T7 hrow7 hat hgr hi hz0 hz1 hz2 hdr hsg
                go_region
                all_goals go_wp2_with fail
                all_goals go_roundg (gk0 - 1)
                case measure => have := HN.out; have := HM.out; omega
                case rel => exact ⟨_, stepS st1 i, by rw [HLEN.out]; have := HN.out; have := HM.out; omega, by rw [HSTEP.out]; exact FIN.out.1, FIN.out.2, by rw [HSTEP.out]; exact HSM.out, HW.out.step i, by
                  have e1 := HE.out
                  have e2 := HN.out
                  have e3 := HM.out
                  have hnx := next_some hm hq HNO.out HNO2.out HC.out
                  rw [show gk0 = (gk0 - 1) + 1 by omega, settleS_some hnx] at e1
                  exact e1⟩
          · obtain rfl : q = 2 := by have := HQN.out; omega
            go_wp2_with fail
            go_roundg (gk1 - 1)
            case measure => have := HMN.out; omega
            case rel => exact ⟨m + 1, by have := HMN.out; omega, by go_num, fun k hk f hf => by
              by_cases e : k = m
              · rw [e]; exact HNO2.out f hf
              · exact HNO.out k (by omega) f hf, BZ.out⟩
      · obtain rfl : m = 2 := by have := HMN.out; omega
        go_wp2_with fail
        (try rw [Exit.noGoto_ret])
        refine bodyPost_ret (results_none rfl _ _ _) rfl ⟨rfl, S1, ?_, HT.out.trans (Turn.of_below HB.out)⟩
        have e1 := HE.out
        rw [settleS_none (next_none HNO.out)] at e1
        rw [← e1]
        exact HP.out.below HB.out
end Go.Proofs.Ytmnlojbfdpjjdaa
