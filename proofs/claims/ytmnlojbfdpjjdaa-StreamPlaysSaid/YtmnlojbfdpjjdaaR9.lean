/- The reference: do for every operation, next. -/
import Derived.Test.YtmnlojbfdpjjdaaR8
namespace Go.Proofs.Ytmnlojbfdpjjdaa
open Go.RowKit
variable {F : Nat → Prop}
theorem rdo_any (x : Op) (hx : OpIn x) (hcn : x.kind = 0 → 0 ≤ x.count) (S : Sl) (st : St) (hq : emptyB x = false → x.kind = 0 → qOf st x ≠ []) (hs : Sm st) (w : World) (hR : Ref F w S st) :
    Calls Try.prog 67 #[rpV S st, opV x] w (DoSays F w (doS st x).1 (doS st x).2.2 (doS st x).2.1) := by
  cases he : emptyB x with
  | true =>
    have e : doS st x = (st, 0, ⟨#[]⟩) := by unfold doS; rw [he]; rfl
    rw [e]
    exact rdo_empty x hx he S st w hR
  | false =>
    obtain ⟨k, f, c, d⟩ := x
    obtain ⟨hk, hf⟩ := hx
    simp only at hk hf hcn
    have hq' := hq he
    rcases hk with rfl | rfl
    · have h0 : 0 ≤ c := hcn rfl
      rcases hf with rfl | rfl
      · have hne : st.q0 ≠ [] := hq' rfl
        obtain ⟨b, r, hqr⟩ : ∃ b r, st.q0 = b :: r := by cases h : st.q0 with
          | nil => exact absurd h hne
          | cons b r => exact ⟨b, r, rfl⟩
        have e0 : doS st ⟨0, 0, c, d⟩ = if c < b.size then ((⟨b.extract c.toNat b.size :: r, st.q1, st.c0, st.c1, st.limit, st.tks, st.ws, st.ans⟩ : St), 0, b.extract 0 c.toNat) else ((⟨r, st.q1, st.c0, st.c1, st.limit, st.tks, st.ws, st.ans⟩ : St), 0, b) := by
          unfold doS
          rw [he, if_neg (by simp), if_neg (by show ¬ (0 : Int) = 1; decide), show qOf st ⟨0, 0, c, d⟩ = b :: r from hqr]
          rfl
        by_cases hc : c < b.size
        · obtain ⟨k, rfl⟩ := Int.eq_ofNat_of_zero_le h0
          rw [e0, if_pos hc]
          simp only [Int.toNat_natCast]
          exact rdo_readp0 k b (by omega) d r he S st hqr hs w hR
        · rw [e0, if_neg hc]
          by_cases hc2 : c = (b.size : Int)
          · subst hc2
            exact rdo_reade0 b d r he S st hqr hs w hR
          · exact rdo_readg0 c b (by omega) d r he S st hqr hs w hR
      · have hne : st.q1 ≠ [] := hq' rfl
        obtain ⟨b, r, hqr⟩ : ∃ b r, st.q1 = b :: r := by cases h : st.q1 with
          | nil => exact absurd h hne
          | cons b r => exact ⟨b, r, rfl⟩
        have e0 : doS st ⟨0, 1, c, d⟩ = if c < b.size then ((⟨st.q0, b.extract c.toNat b.size :: r, st.c0, st.c1, st.limit, st.tks, st.ws, st.ans⟩ : St), 0, b.extract 0 c.toNat) else ((⟨st.q0, r, st.c0, st.c1, st.limit, st.tks, st.ws, st.ans⟩ : St), 0, b) := by
          unfold doS
          rw [he, if_neg (by simp), if_neg (by show ¬ (0 : Int) = 1; decide), show qOf st ⟨0, 1, c, d⟩ = b :: r from hqr]
          rfl
        by_cases hc : c < b.size
        · obtain ⟨k, rfl⟩ := Int.eq_ofNat_of_zero_le h0
          rw [e0, if_pos hc]
          simp only [Int.toNat_natCast]
          exact rdo_readp1 k b (by omega) d r he S st hqr hs w hR
        · rw [e0, if_neg hc]
          by_cases hc2 : c = (b.size : Int)
          · subst hc2
            exact rdo_reade1 b d r he S st hqr hs w hR
          · exact rdo_readg1 c b (by omega) d r he S st hqr hs w hR
    · rcases hf with rfl | rfl
      · have e0 : doS st ⟨1, 0, c, d⟩ = ((⟨st.q0, st.q1 ++ [d], st.c0, st.c1, st.limit, st.tks, st.ws, st.ans⟩ : St), (d.size : Int), ⟨#[]⟩) := by
          unfold doS
          rw [he, if_neg (by simp), if_pos (by rfl)]
          rfl
        rw [e0]
        exact rdo_write0 c d he S st hs w hR
      · have e0 : doS st ⟨1, 1, c, d⟩ = ((⟨st.q0 ++ [d], st.q1, st.c0, st.c1, st.limit, st.tks, st.ws, st.ans⟩ : St), (d.size : Int), ⟨#[]⟩) := by
          unfold doS
          rw [he, if_neg (by simp), if_pos (by rfl)]
          rfl
        rw [e0]
        exact rdo_write1 c d he S st hs w hR
def nxI (st : St) : Int := match nextS st with
  | some i => i
  | none => -1
theorem find_none_of {l : List Wt} {k f : Int} (h : ∀ j, j < l.length → hitB k f (l.getD j wt0) = false) : l.findIdx? (hitB k f) = none := by
  rw [List.findIdx?_eq_none_iff]
  intro y hy
  obtain ⟨j, hj, rfl⟩ := List.getElem_of_mem hy
  have := h j hj
  rwa [List.getD_eq_getElem?_getD, List.getElem?_eq_getElem hj] at this
theorem find_some_of {l : List Wt} {k f : Int} {i : Nat} (hi : i < l.length) (h : ∀ j, j < i → hitB k f (l.getD j wt0) = false) (hh : hitB k f (l.getD i wt0) = true) : l.findIdx? (hitB k f) = some i := by
  rw [List.findIdx?_eq_some_iff_getElem]
  refine ⟨hi, ?_, fun j hj => ?_⟩
  · rwa [List.getD_eq_getElem?_getD, List.getElem?_eq_getElem hi] at hh
  · have := h j hj
    rw [List.getD_eq_getElem?_getD, List.getElem?_eq_getElem (by omega)] at this
    simpa using this
set_option maxRecDepth 100000 in
set_option maxHeartbeats 3200000 in
theorem rnext_any (S : Sl) (st : St) (hs : Sm st) (hw : ∀ y ∈ st.ws, OpOk y.op ∧ emptyB y.op = false) (w : World) (hR : Ref F w S st) :
    Calls Try.prog 81 #[rpV S st] w fun e w' => e = .returned (.int .i64 (nxI st)) ∧ Below w.heap.size w w' := by
  obtain ⟨a0, k0, a1, k1, aw, kw, aa, ka, rfl⟩ := hR.open
  have hql : st.ws.length ≤ 100000 := by have := hs.q; omega
  obtain ⟨W0, hW⟩ : ∃ W0, W0 = w.alloc (.cells #[.int .i64 st.limit, .slice a0 st.q0.length k0, .slice a1 st.q1.length k1, .bool st.c0, .bool st.c1, .int .i64 st.tks, .slice aw st.ws.length kw, .slice aa st.ans.length ka] 60) := ⟨_, rfl⟩
  have KA := Lib.hid (show Blk W0 w.heap.size 60 [.int .i64 st.limit, .slice a0 st.q0.length k0, .slice a1 st.q1.length k1, .bool st.c0, .bool st.c1, .int .i64 st.tks, .slice aw st.ws.length kw, .slice aa st.ans.length ka] by rw [hW]; exact Blk.new w 60 _)
  have BW := Lib.hid (show Below w.heap.size w W0 by rw [hW]; exact (Below.refl _ _).alloc (Nat.le_refl _) _)
  have CR := Lib.hid (fun (y : Wt) hy W (hb : Below w.heap.size w W) => rable_any y.op (hw y hy).1.1 _ st hs W (hR.below hb))
  have HWW := Lib.hid (fun y hy => (hw y hy).2)
  have hr : Row w 120 5 (.slice aw st.ws.length kw) st.ws.length (rwsC st.ws) := hR.rw_
  have HC : Hid (∀ m, m < st.ws.length → ∃ gb off, aw = some ⟨gb, off, none⟩ ∧ ∀ W, Below w.heap.size w W → ∀ y, y = st.ws.getD m wt0 → W.cell? ⟨gb, off + m * 5 + 1, none⟩ = some (.int .i64 y.op.kind) ∧ W.cell? ⟨gb, off + m * 5 + 1 + 1, none⟩ = some (.int .i64 y.op.fin) ∧ W.cell? ⟨gb, off + m * 5 + 1 + 2, none⟩ = some (.int .i64 y.op.count) ∧ W.cell? ⟨gb, off + m * 5 + 1 + 3, none⟩ = some (.string y.op.data) ∧ gb < w.heap.size) := Lib.hid (fun m hm => by
    obtain ⟨gb, off, cap, hv, h1, h2, hgb, hcl, _⟩ := hr.open (by omega)
    injection hv with hv1 _ hv3
    refine ⟨gb, off, hv1, fun W hb y hy => ?_⟩
    obtain ⟨_, c1, c2, c3, c4⟩ := rw_cells (w := W) (fun j hj => (hb.cell (p := ⟨gb, off + j, none⟩) hgb).trans (hcl j hj)) hm y hy
    exact ⟨c1, c2, c3, c4, hgb⟩)
  have HV := Lib.hid hW
  have hkw : st.ws.length ≤ kw ∧ kw ≤ 9223372036854775807 := by
    obtain ⟨a, c, e, h1, h2⟩ := hr.form
    injection e with _ _ e3
    subst e3
    exact ⟨h1, h2⟩
  obtain ⟨hk1, hk2⟩ := hkw
  unfold rpV at *
  clear hW hR hw hr hs
  go_enter Try.func81, Try.ntmps81
  go_wp2_with fail
  rw [← HV.out]
  go_loopg [3] 2 (fun n k wr => ∃ m : Nat, m + n = 2 ∧ k = .int .i64 m ∧ (∀ k : Nat, k < m → ∀ f : Nat, f < 2 → cand st k f = none) ∧ Below W0.heap.size W0 wr)
  case atStart => exact ⟨0, rfl, rfl, fun k hk => by omega, Below.refl _ _⟩
  case round =>
    obtain ⟨wo, rfl⟩ : ∃ wo, wo = wr := ⟨_, rfl⟩
    obtain ⟨gk0, rfl⟩ : ∃ x, x = gk := ⟨_, rfl⟩
    obtain ⟨m, hmn, rfl, hno, hb⟩ := hrel
    have HMN := Lib.hid hmn
    have HNO := Lib.hid hno
    have HB := Lib.hid hb
    clear hmn hno hb
    by_cases hm : m < 2
    · have hmd : (m : Int) ≤ 1 := by omega
      go_wp2_with fail
      go_loopg [4] 2 (fun n k wr => ∃ q : Nat, q + n = 2 ∧ k = .int .i64 q ∧ (∀ f : Nat, f < q → cand st m f = none) ∧ Below W0.heap.size W0 wr)
      case atStart => exact ⟨0, rfl, rfl, fun f hf => by omega, HB.out⟩
      case round =>
        obtain ⟨wm, rfl⟩ : ∃ wm, wm = wr := ⟨_, rfl⟩
        obtain ⟨gk1, rfl⟩ : ∃ x, x = gk := ⟨_, rfl⟩
        obtain ⟨q, hqn, rfl, hno2, hb2⟩ := hrel
        have HQN := Lib.hid hqn
        have HNO2 := Lib.hid hno2
        have HB2 := Lib.hid hb2
        clear hqn hno2 hb2
        by_cases hq : q < 2
        · have hqd : (q : Int) ≤ 1 := by omega
          go_wp2_with fail
          go_loopg [5] st.ws.length (fun n k wr => ∃ r : Nat, r + n = st.ws.length ∧ k = .int .i64 r ∧ (∀ j : Nat, j < r → hitB m q (st.ws.getD j wt0) = false) ∧ Below W0.heap.size W0 wr)
          case atStart => exact ⟨0, by omega, rfl, fun f hf => by omega, HB2.out⟩
          case round =>
            obtain ⟨wz, rfl⟩ : ∃ wz, wz = wr := ⟨_, rfl⟩
            obtain ⟨r, hrn, rfl, hno3, hb3⟩ := hrel
            have HRN := Lib.hid hrn
            have HNO3 := Lib.hid hno3
            have KZ := Lib.hid (keepBlk hb3 KA.out)
            have BZ := Lib.hid (keepBelow BW.out hb3)
            have HB3 := Lib.hid hb3
            have hwz := BZ.out.size
            have hlz : w.heap.size < wz.heap.size := KZ.out.lt
            clear hrn hno3 hb3
            have z0 : wz.cell? ⟨w.heap.size, 0, none⟩ = some (.int .i64 st.limit) := KZ.out.cell 0
            have z1 : wz.cell? ⟨w.heap.size, 1, none⟩ = some (.slice a0 st.q0.length k0) := KZ.out.cell 1
            have z2 : wz.cell? ⟨w.heap.size, 2, none⟩ = some (.slice a1 st.q1.length k1) := KZ.out.cell 2
            have z3 : wz.cell? ⟨w.heap.size, 3, none⟩ = some (.bool st.c0) := KZ.out.cell 3
            have z4 : wz.cell? ⟨w.heap.size, 4, none⟩ = some (.bool st.c1) := KZ.out.cell 4
            have z5 : wz.cell? ⟨w.heap.size, 5, none⟩ = some (.int .i64 st.tks) := KZ.out.cell 5
            have z6 : wz.cell? ⟨w.heap.size, 6, none⟩ = some (.slice aw st.ws.length kw) := KZ.out.cell 6
            have z7 : wz.cell? ⟨w.heap.size, 7, none⟩ = some (.slice aa st.ans.length ka) := KZ.out.cell 7
            by_cases hr : r < st.ws.length
            · obtain ⟨y, hy⟩ : ∃ y, y = st.ws.getD r wt0 := ⟨_, rfl⟩
              obtain ⟨gb, off, rfl, hcc⟩ := HC.out r hr
              obtain ⟨y1, y2, y3, y4, hgb⟩ := hcc wz BZ.out y hy
              have hgz : gb < wz.heap.size := Nat.lt_of_lt_of_le hgb hwz
              have hym : y ∈ st.ws := by rw [hy]; exact getD_mem hr
              have CY := Lib.hid (CR.out y hym)
              have HE := Lib.hid (HWW.out y hym)
              have hhit : hitB m q y = (y.op.kind == (m : Int) && y.op.fin == (q : Int)) := rfl
              have HY := Lib.hid hy
              have HH := Lib.hid hhit
              have B4 := Lib.hid (show Below w.heap.size w (wz.alloc (.cells #[.int .i64 y.op.kind, .int .i64 y.op.fin, .int .i64 y.op.count, .string y.op.data] 107)) from BZ.out.alloc BZ.out.size _)
              have B5 := Lib.hid (show Below W0.heap.size W0 (wz.alloc (.cells #[.int .i64 y.op.kind, .int .i64 y.op.fin, .int .i64 y.op.count, .string y.op.data] 107)) from HB3.out.alloc HB3.out.size _)
              clear hcc hy hhit hym
              by_cases e0 : y.op.kind = (m : Int)
              · by_cases e1 : y.op.fin = (q : Int)
                · have hht : hitB m q (st.ws.getD r wt0) = true := by rw [← HY.out, HH.out, e0, e1]; simp
                  have HFI := Lib.hid (find_some_of hr HNO3.out hht)
                  cases hrb : readyB st y.op with
                  | true =>
                    have HCA := Lib.hid (cand_some HFI.out (by rw [← HY.out]; exact hrb))
                    have HNX := Lib.hid (next_some hm hq HNO.out HNO2.out HCA.out)
                    have hab : ableB st y.op = true := by unfold ableB; rw [HE.out, hrb]; rfl
                    rw [hab] at CY
                    obtain ⟨⟨yk, yf, yc, yd⟩, yt⟩ := y
                    simp only at e0 e1 y1 y2 y3 y4 CY B4 B5
                    subst e0 e1
                    clear hht hrb hab
                    unfold opV at CY
                    go_wp2_with (go_at_call 80; refine (CY.out _ ?_).mono ?_; exact B4.out; rintro e v ⟨rfl, hbv⟩; have HV2 := Lib.hid (keepBelow B4.out hbv); clear hbv)
                    go_ret
                    exact ⟨by unfold nxI; rw [HNX.out]; rfl, HV2.out⟩
                  | false =>
                    have HCA := Lib.hid (cand_none2 HFI.out (by rw [← HY.out]; exact hrb))
                    have hab : ableB st y.op = false := by unfold ableB; rw [HE.out, hrb]; rfl
                    rw [hab] at CY
                    obtain ⟨⟨yk, yf, yc, yd⟩, yt⟩ := y
                    simp only at e0 e1 y1 y2 y3 y4 CY B4 B5
                    subst e0 e1
                    clear hht hrb hab
                    unfold opV at CY
                    go_wp2_with (go_at_call 80; refine (CY.out _ ?_).mono ?_; exact B4.out; rintro e v ⟨rfl, hbv⟩; have HV2 := Lib.hid (keepBelow B5.out hbv); clear hbv)
                    go_roundg (gk1 - 1)
                    case measure => have := HQN.out; omega
                    case rel => exact ⟨q + 1, by have := HQN.out; omega, by go_num, fun f hf => by
                      by_cases e : f = q
                      · rw [e]; exact HCA.out
                      · exact HNO2.out f (by omega), HV2.out⟩
                · have f1 : (y.op.fin == (q : Int)) = false := by rw [beq_eq_false_iff_ne]; exact e1
                  have HF := Lib.hid (show hitB m q (st.ws.getD r wt0) = false by rw [← HY.out, HH.out, f1]; simp)
                  obtain ⟨⟨yk, yf, yc, yd⟩, yt⟩ := y
                  simp only at e0 e1 y1 y2 y3 y4 f1 B4 B5
                  subst e0
                  clear e1
                  go_wp2_with fail
                  go_roundg (gk - 1)
                  case measure => have := HRN.out; omega
                  case rel => exact ⟨r + 1, by have := HRN.out; omega, by go_num, fun f hf => by
                    by_cases e : f = r
                    · rw [e]; exact HF.out
                    · exact HNO3.out f (by omega), B5.out⟩
              · have f0 : (y.op.kind == (m : Int)) = false := by rw [beq_eq_false_iff_ne]; exact e0
                have HF := Lib.hid (show hitB m q (st.ws.getD r wt0) = false by rw [← HY.out, HH.out, f0]; simp)
                obtain ⟨⟨yk, yf, yc, yd⟩, yt⟩ := y
                simp only at e0 y1 y2 y3 y4 f0 B4 B5
                clear e0
                go_wp2_with fail
                go_roundg (gk - 1)
                case measure => have := HRN.out; omega
                case rel => exact ⟨r + 1, by have := HRN.out; omega, by go_num, fun f hf => by
                  by_cases e : f = r
                  · rw [e]; exact HF.out
                  · exact HNO3.out f (by omega), B5.out⟩
            · have hrl : r = st.ws.length := by have := HRN.out; omega
              have HCA := Lib.hid (cand_none1 (find_none_of fun j hj => HNO3.out j (by omega)))
              clear hrl
              have hge : ¬ (r : Int) < (st.ws.length : Int) := by omega
              go_wp2_with fail
              go_roundg (gk1 - 1)
              case measure => have := HQN.out; omega
              case rel => exact ⟨q + 1, by have := HQN.out; omega, by go_num, fun f hf => by
                by_cases e : f = q
                · rw [e]; exact HCA.out
                · exact HNO2.out f (by omega), HB3.out⟩
        · obtain rfl : q = 2 := by have := HQN.out; omega
          go_wp2_with fail
          go_roundg (gk0 - 1)
          case measure => have := HMN.out; omega
          case rel => exact ⟨m + 1, by have := HMN.out; omega, by go_num, fun k hk f hf => by
            by_cases e : k = m
            · rw [e]; exact HNO2.out f hf
            · exact HNO.out k (by omega) f hf, HB2.out⟩
    · obtain rfl : m = 2 := by have := HMN.out; omega
      have HNX := Lib.hid (next_none HNO.out)
      go_wp2_with fail
      go_ret
      exact ⟨by unfold nxI; rw [HNX.out]; rfl, keepBelow BW.out HB.out⟩
end Go.Proofs.Ytmnlojbfdpjjdaa
