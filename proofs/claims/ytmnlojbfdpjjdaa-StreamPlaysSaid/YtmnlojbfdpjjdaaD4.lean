/- IndexFunc and DeleteFunc over those that wait, with the closure of Cancel: those of a ticket. -/
import Derived.Test.YtmnlojbfdpjjdaaB3
namespace Go.Proofs.Ytmnlojbfdpjjdaa
open Go.RowKit
attribute [local go_sem] Oper.semAt_some
attribute [local go_sem ↓] run_appSem
def tkB (t : Int) (y : Wt) : Bool := y.tk == t
theorem tkB_any (y : Wt) (t : Int) (bt : Nat) (w : World) (hk : w.cell? ⟨bt, 0, none⟩ = some (.int .i64 t)) (hbk : bt < w.heap.size) :
    Calls Try.prog 60 #[.agg #[.int .i64 y.op.kind, .int .i64 y.op.fin, .int .i64 y.op.count, .string y.op.data, .int .i64 y.tk], .pointer (some ⟨bt, 0, none⟩)] w fun e w' => e = .returned (.bool (tkB t y)) ∧ Below w.heap.size w w' := by
  unfold tkB
  obtain ⟨⟨yk, yf, yc, yd⟩, yt⟩ := y
  simp only
  go_enter Try.func60, Try.ntmps60
  go_wp2_with fail
  go_ret
  exact ⟨rfl, (Below.refl _ _).alloc (Nat.le_refl _) _⟩
/-- the place of the first of a kind at an end -/
def ixT (l : List Wt) (t : Int) : Int := match l.findIdx? (tkB t) with
  | some i => i
  | none => -1
theorem ixT_at {l : List Wt} {t : Int} {m : Nat} (hm : m < l.length) (hno : ∀ j, j < m → tkB t (l.getD j wt0) = false) (hy : tkB t (l.getD m wt0) = true) : ixT l t = m := by
  have : l.findIdx? (tkB t) = some m := by
    rw [List.findIdx?_eq_some_iff_getElem]
    refine ⟨hm, ?_, fun j hj => ?_⟩
    · rw [List.getD_eq_getElem?_getD, List.getElem?_eq_getElem hm] at hy; exact hy
    · have := hno j hj
      rw [List.getD_eq_getElem?_getD, List.getElem?_eq_getElem (by omega)] at this
      simpa using this
  unfold ixT
  rw [this]
theorem ixT_none {l : List Wt} {t : Int} (hno : ∀ j, j < l.length → tkB t (l.getD j wt0) = false) : ixT l t = -1 := by
  have : l.findIdx? (tkB t) = none := by
    rw [List.findIdx?_eq_none_iff]
    intro x hx
    obtain ⟨j, hj, rfl⟩ := List.getElem_of_mem hx
    have := hno j hj
    rw [List.getD_eq_getElem?_getD, List.getElem?_eq_getElem hj] at this
    exact this
  unfold ixT
  rw [this]
set_option maxHeartbeats 800000 in
theorem indexT_any (l : List Wt) (sv : Value) (t : Int) (bt : Nat) (w : World) (hr : Row w 92 5 sv l.length (wtsC l)) (hl : l.length ≤ 100000) (hk : w.cell? ⟨bt, 0, none⟩ = some (.int .i64 t)) (hbk : bt < w.heap.size) :
    Calls Try.prog 74 #[sv, .func (.func 60) #[] #[.pointer (some ⟨bt, 0, none⟩)]] w fun e w' => e = .returned (.int .i64 (ixT l t)) ∧ Below w.heap.size w w' := by
  by_cases hn : 0 < l.length
  · obtain ⟨gb, off, cap, rfl, h1, h2, hgb, hcl, _⟩ := hr.open hn
    unfold maxLen at h2
    have HC := Lib.hid hcl
    clear hr hcl
    go_enter Try.func74, Try.ntmps74
    go_wp2_with fail
    go_loopw [8] (fun i wr => ∃ m : Nat, m ≤ l.length ∧ i = .int .i64 m ∧ (∀ j, j < m → tkB t (l.getD j wt0) = false) ∧ Below w.heap.size w wr) (fun i _ => l.length - (intOf i).toNat)
    case atStart => exact ⟨0, by omega, rfl, fun j hj => by omega, Below.refl _ _⟩
    case round =>
      obtain ⟨m, hm, rfl, hno, hb⟩ := hrel
      have HN := Lib.hid hno
      have HB := Lib.hid hb
      by_cases hlt : m < l.length
      · obtain ⟨y, hy⟩ : ∃ y, y = l.getD m wt0 := ⟨_, rfl⟩
        obtain ⟨c0, c1, c2, c3, c4⟩ := wt_cells (w := wr) (fun j hj => (hb.cell (p := ⟨gb, off + j, none⟩) hgb).trans (HC.out j hj)) hlt y hy
        have CH := Lib.hid (tkB_any y t bt wr ((hb.cell (p := ⟨bt, 0, none⟩) hbk).trans hk) (Nat.lt_of_lt_of_le hbk hb.size))
        obtain ⟨hbit, hbv⟩ : ∃ b, b = tkB t y := ⟨_, rfl⟩
        rw [← hbv] at CH
        have HV := Lib.hid hbv
        have HY := Lib.hid hy
        clear hno hb hbv hy
        cases hbit
        · go_wp2_with (go_at_call 60; refine (CH.out).mono ?_; rintro e v1 ⟨rfl, hb1⟩; have B1 := Lib.hid (keepBelow HB.out hb1); clear hb1)
          exact ⟨⟨m + 1, by omega, rfl, fun j hj => by
            by_cases e : j = m
            · rw [e, ← HY.out]; exact HV.out.symm
            · exact HN.out j (by omega), B1.out⟩, by simp [intOf]; omega⟩
        · go_wp2_with (go_at_call 60; refine (CH.out).mono ?_; rintro e v1 ⟨rfl, hb1⟩; have B1 := Lib.hid (keepBelow HB.out hb1); clear hb1)
          go_ret
          exact ⟨ret_i (ixT_at hlt HN.out (by rw [← HY.out]; exact HV.out.symm)).symm, B1.out⟩
      · obtain rfl : m = l.length := by omega
        clear hno hb
        go_wp2_with fail
        go_ret
        exact ⟨ret_i (ixT_none HN.out).symm, HB.out⟩
  · have hq0 : l = [] := List.eq_nil_of_length_eq_zero (by omega)
    subst hq0
    obtain ⟨a, cap, rfl, h1, h2⟩ := hr.form
    unfold maxLen at h2
    clear hr
    go_enter Try.func74, Try.ntmps74
    go_wp2_with fail
    go_loopw [8] (fun i wr => i = .int .i64 0 ∧ wr = w) (fun i _ => 0)
    case atStart => exact ⟨rfl, rfl⟩
    case round =>
      obtain ⟨rfl, rfl⟩ := hrel
      go_wp2_with fail
      go_ret
      exact ⟨rfl, Below.refl _ _⟩
/-- those that stay -/
def keepT (t : Int) (l : List Wt) : List Wt := l.filter fun y => !tkB t y
theorem keepT_snoc_hit (t : Int) (l : List Wt) (m : Nat) (hm : m < l.length) (h : tkB t (l.getD m wt0) = true) : keepT t (l.take (m + 1)) = keepT t (l.take m) := by
  unfold keepT
  rw [List.take_succ_eq_append_getElem hm, List.filter_append]
  rw [List.getD_eq_getElem?_getD, List.getElem?_eq_getElem hm] at h
  simp only [Option.getD_some] at h
  simp [h]
theorem keepT_snoc_miss (t : Int) (l : List Wt) (m : Nat) (hm : m < l.length) (h : tkB t (l.getD m wt0) = false) : keepT t (l.take (m + 1)) = keepT t (l.take m) ++ [l.getD m wt0] := by
  unfold keepT
  rw [List.take_succ_eq_append_getElem hm, List.filter_append]
  rw [List.getD_eq_getElem?_getD, List.getElem?_eq_getElem hm] at h ⊢
  simp only [Option.getD_some] at h ⊢
  simp [h]
theorem keepT_len (t : Int) (l : List Wt) (m : Nat) : (keepT t (l.take m)).length ≤ m := Nat.le_trans (List.length_filter_le _ _) (List.length_take_le _ _)
/-- the row while it is being rewritten: i elements kept at its head, the rest from j on as it was -/
def Half (C : Nat) (w : World) (gb off i j : Nat) (F l : List Wt) : Prop :=
  ∃ cs : Array Value, w.heap[gb]? = some (.cells cs 92 (0, 0)) ∧ (off + C * 5 ≤ cs.size ∧ l.length ≤ C) ∧ F.length = i ∧ (∀ p, p < i * 5 → cs[off + p]? = (wtsC F)[p]?) ∧ ∀ p, j * 5 ≤ p → p < l.length * 5 → cs[off + p]? = (wtsC l)[p]?
theorem Half.keep {C : Nat} {w w' : World} {gb off i j : Nat} {F l : List Wt} (h : Half C w gb off i j F l) (hk : w'.heap[gb]? = w.heap[gb]?) : Half C w' gb off i j F l := by
  obtain ⟨cs, h1, h2⟩ := h
  exact ⟨cs, hk.trans h1, h2⟩
theorem Half.skip {C : Nat} {w : World} {gb off i j : Nat} {F l : List Wt} (h : Half C w gb off i j F l) : Half C w gb off i (j + 1) F l := by
  obtain ⟨cs, h1, h2, h3, h4, h5⟩ := h
  exact ⟨cs, h1, h2, h3, h4, fun p hp hq => h5 p (by omega) hq⟩
theorem Half.cells {C : Nat} {w : World} {gb off i j : Nat} {F l : List Wt} (h : Half C w gb off i j F l) (hj : j < l.length) (y : Wt) (hy : y = l.getD j wt0) :
    w.cell? ⟨gb, off + j * 5, none⟩ = some (.int .i64 y.op.kind) ∧ w.cell? ⟨gb, off + j * 5 + 1, none⟩ = some (.int .i64 y.op.fin) ∧ w.cell? ⟨gb, off + j * 5 + 2, none⟩ = some (.int .i64 y.op.count) ∧ w.cell? ⟨gb, off + j * 5 + 3, none⟩ = some (.string y.op.data) ∧ w.cell? ⟨gb, off + j * 5 + 4, none⟩ = some (.int .i64 y.tk) := by
  subst hy
  obtain ⟨cs, h1, h2, h3, h4, h5⟩ := h
  have hg := fun q (hq : q < 5) => ((h5 (j * 5 + q) (by omega) (by omega)).trans (wtsC_get l j hj q hq))
  simp only [← Nat.add_assoc] at hg
  have hc := fun q => cell_of_row w gb q cs 92 (0, 0) h1
  exact ⟨(hc _).trans (hg 0 (by omega)), (hc _).trans (hg 1 (by omega)), (hc _).trans (hg 2 (by omega)), (hc _).trans (hg 3 (by omega)), (hc _).trans (hg 4 (by omega))⟩
theorem Half.there {C : Nat} {w : World} {gb off i j : Nat} {F l : List Wt} (h : Half C w gb off i j F l) (hi : i < l.length) : ∀ q, q < 5 → (∃ u, w.cell? ⟨gb, off + i * 5 + q, none⟩ = some u) ∧ w.frozen? ⟨gb, off + i * 5 + q, none⟩ = false := by
  obtain ⟨cs, h1, h2, h3, h4, h5⟩ := h
  intro q hq
  refine ⟨⟨cs[off + i * 5 + q]'(by omega), ?_⟩, by simp [World.frozen?, h1]⟩
  rw [cell_of_row w gb _ cs 92 (0, 0) h1, Array.getElem?_eq_getElem]
theorem Half.write {C : Nat} {w : World} {gb off i j : Nat} {F l : List Wt} (h : Half C w gb off i j F l) (hij : i < j + 1) (hj : j < l.length) (y : Wt) :
    Half C (((((w.setCell ⟨gb, off + i * 5, none⟩ (.int .i64 y.op.kind)).setCell ⟨gb, off + i * 5 + 1, none⟩ (.int .i64 y.op.fin)).setCell ⟨gb, off + i * 5 + 2, none⟩ (.int .i64 y.op.count)).setCell ⟨gb, off + i * 5 + 3, none⟩ (.string y.op.data)).setCell ⟨gb, off + i * 5 + 4, none⟩ (.int .i64 y.tk)) gb off (i + 1) (j + 1) (F ++ [y]) l := by
  obtain ⟨cs, h1, h2, h3, h4, h5⟩ := h
  obtain ⟨cs', k1, k2, k3⟩ := setCells_blk gb 92 (wtC y) (off + i * 5) w cs h1 (by show off + i * 5 + 5 ≤ _; omega)
  have e : w.setCells gb (off + i * 5) (wtC y) = ((((w.setCell ⟨gb, off + i * 5, none⟩ (.int .i64 y.op.kind)).setCell ⟨gb, off + i * 5 + 1, none⟩ (.int .i64 y.op.fin)).setCell ⟨gb, off + i * 5 + 2, none⟩ (.int .i64 y.op.count)).setCell ⟨gb, off + i * 5 + 3, none⟩ (.string y.op.data)).setCell ⟨gb, off + i * 5 + 4, none⟩ (.int .i64 y.tk) := rfl
  rw [← e]
  have hw5 : (wtC y).length = 5 := rfl
  refine ⟨cs', k1, by rw [k2]; exact h2, by simp [h3], fun p hp => ?_, fun p hp hq => ?_⟩
  · rw [k3, wtsC_append, hw5]
    have hF : (wtsC F).length = i * 5 := by rw [wtsC_len, h3]
    by_cases hlt : p < i * 5
    · rw [if_neg (by omega), h4 p hlt, List.getElem?_append_left (by omega)]
    · rw [if_pos (by omega), List.getElem?_append_right (by omega), hF]
      show (wtC y)[off + p - (off + i * 5)]? = (wtsC [y])[p - i * 5]?
      rw [show off + p - (off + i * 5) = p - i * 5 by omega]
      simp [wtsC]
  · rw [k3, hw5, if_neg (by omega), h5 p (by omega) hq]
set_option maxRecDepth 100000 in
set_option maxHeartbeats 1600000 in
theorem deleteF_any (l : List Wt) (sv : Value) (t : Int) (bt : Nat) (w : World) (hr : Row w 92 5 sv l.length (wtsC l)) (hl : l.length ≤ 100000) (hk : w.cell? ⟨bt, 0, none⟩ = some (.int .i64 t)) (hbk : bt < w.heap.size) (hbs : sv.ownBlock ≠ some bt) :
    Calls Try.prog 59 #[sv, .func (.func 60) #[] #[.pointer (some ⟨bt, 0, none⟩)]] w fun e w' => ∃ v', e = .returned v' ∧ Row w' 92 5 v' (keepT t l).length (wtsC (keepT t l)) ∧ v'.ownBlock = sv.ownBlock ∧ w.grownBy w' sv.ownBlock := by
  have CI := Lib.hid (indexT_any l sv t bt w hr hl hk hbk)
  cases hfi : l.findIdx? (tkB t) with
  | none =>
    have hix : ixT l t = -1 := by unfold ixT; rw [hfi]
    rw [hix] at CI
    have hkp : keepT t l = l := by
      unfold keepT
      rw [List.filter_eq_self]
      intro y hy
      have := List.findIdx?_eq_none_iff.1 hfi y hy
      simp [this]
    have HKP := Lib.hid hkp
    clear hix hfi hkp
    go_enter Try.func59, Try.ntmps59
    go_wp2_with (go_at_call 74; refine (CI.out).mono ?_; rintro e v1 ⟨rfl, hb1⟩)
    go_ret
    exact ⟨sv, rfl, by rw [HKP.out]; exact hr.below hb1, rfl, below_grown hb1 _⟩
  | some i =>
    obtain ⟨hil, hhit, hno⟩ := List.findIdx?_eq_some_iff_getElem.1 hfi
    have hix : ixT l t = i := by unfold ixT; rw [hfi]
    rw [hix] at CI
    have hhit' : tkB t (l.getD i wt0) = true := by rw [List.getD_eq_getElem?_getD, List.getElem?_eq_getElem hil]; exact hhit
    have hki : keepT t (l.take (i + 1)) = l.take i := by
      rw [keepT_snoc_hit t l i hil hhit']
      unfold keepT
      rw [List.filter_eq_self]
      intro y hy
      obtain ⟨j, hj, rfl⟩ := List.getElem_of_mem hy
      have hj' : j < i := by rw [List.length_take] at hj; omega
      have := hno j hj'
      rw [List.getElem_take]
      simpa using this
    obtain ⟨gb, off, cap, rfl, h1, h2, hgb, _, _⟩ := hr.open (by omega)
    unfold maxLen at h2
    have hhalf : ∀ W, Below w.heap.size w W → Half cap W gb off i (i + 1) (keepT t (l.take (i + 1))) l := fun W hb => by
      have hrW := hr.below hb
      rcases hrW.2 with ⟨hv, hn⟩ | ⟨g', off', cap', cs, hv, hh, k1, _, k3, k4⟩
      · cases hv
      · injection hv with ha _ hc
        injection ha with ha
        injection ha with ha hb
        subst ha hb hc
        refine ⟨cs, hh, ⟨k3, k1⟩, by rw [hki, List.length_take]; omega, fun p hp => ?_, fun p _ hq => k4 p hq⟩
        rw [k4 p (by omega), hki, wtsC_take, List.getElem?_take_of_lt hp]
    have hli : (keepT t (l.take (i + 1))).length = i := by rw [hki, List.length_take]; omega
    have hbt : gb ≠ bt := fun e => hbs (by rw [e]; rfl)
    have HH := Lib.hid hhalf
    have HLI := Lib.hid hli
    have HK := Lib.hid hk
    have hi1 : ((i : Int) == -1) = false := by rw [beq_eq_false_iff_ne]; omega
    clear hix hfi hhit hno hhit' hki hhalf hli hr hk hbs
    go_enter Try.func59, Try.ntmps59
    go_wp2_with (go_at_call 74; refine (CI.out).mono ?_; rintro e v1 ⟨rfl, hb1⟩; have B1 := Lib.hid hb1; clear hb1)
    go_loopg [5, 6] (l.length - (i + 1)) (fun k iv jv wr => ∃ (j : Nat), j + k = l.length ∧ jv = .int .i64 j ∧ iv = .int .i64 ((keepT t (l.take j)).length : Nat) ∧ (keepT t (l.take j)).length < j ∧ Half cap wr gb off (keepT t (l.take j)).length j (keepT t (l.take j)) l ∧ w.grownBy wr (some gb))
    case atStart => exact ⟨i + 1, by omega, rfl, by rw [HLI.out], by rw [HLI.out]; omega, by rw [HLI.out]; exact HH.out _ B1.out, below_grown B1.out _⟩
    case round =>
      obtain ⟨j, hjk, rfl, rfl, hpj, hH, hG⟩ := hrel
      have HJK := Lib.hid hjk
      have HHF := Lib.hid hH
      have HG := Lib.hid hG
      have hgw := hG.size
      have hgb2 : gb < wr.heap.size := Nat.lt_of_lt_of_le hgb hgw
      have hbt2 : bt < wr.heap.size := Nat.lt_of_lt_of_le hbk hgw
      have hct : wr.cell? ⟨bt, 0, none⟩ = some (.int .i64 t) := (grown_cell hG hbk (fun e => hbt (by injection e)) 0).trans HK.out
      clear hjk hH hG
      by_cases hlt : j < l.length
      · obtain ⟨y, hy⟩ : ∃ y, y = l.getD j wt0 := ⟨_, rfl⟩
        obtain ⟨c0, c1, c2, c3, c4⟩ := HHF.out.cells hlt y hy
        have KS := Lib.hid (fun h => keepT_snoc_hit t l j hlt h)
        have KM := Lib.hid (fun h => keepT_snoc_miss t l j hlt h)
        rw [← hy] at KS KM
        have CT := Lib.hid (fun W h1 h2 => tkB_any y t bt W h1 h2)
        have HWR := Lib.hid (fun W (hb : Below wr.heap.size wr W) (p : Nat) (h : (keepT t (l.take j)).length = p) => (HHF.out.keep (hb.block gb hgb2)).write (by omega) hlt y)
        have HTH := Lib.hid (fun W (hb : Below wr.heap.size wr W) => (HHF.out.keep (hb.block gb hgb2)).there (by omega))
        obtain ⟨F, hF⟩ : ∃ F, F = keepT t (l.take j) := ⟨_, rfl⟩
        rw [← hF] at HWR HTH KS KM HHF hpj
        rw [← hF]
        obtain ⟨p, hp⟩ : ∃ p, p = F.length := ⟨_, rfl⟩
        rw [← hp] at HWR HTH hpj HHF
        rw [← hp]
        have HP := Lib.hid hp
        have HF := Lib.hid hF
        clear hy hF hp
        cases hkb : tkB t y with
        | true =>
          rw [hkb] at CT
          have HKS := Lib.hid (KS.out hkb)
          clear hkb
          obtain ⟨⟨yk, yf, yc, yd⟩, yt⟩ := y
          simp only at c0 c1 c2 c3 c4 CT
          go_wp2_with (go_at_call 60; refine (CT.out _ ?_ ?_).mono ?_; exact (World.cell?_alloc_lt _ _ _ hbt2).trans hct; exact Nat.lt_of_lt_of_le hbt2 (by simp); rintro e v2 ⟨rfl, hb2⟩; have B2 := Lib.hid (keepBelow ((Below.refl _ _).alloc (Nat.le_refl _) _ : Below wr.heap.size wr _) hb2); clear hb2)
          go_roundg (gk - 1)
          case measure => have := HJK.out; omega
          case rel => exact ⟨j + 1, by have := HJK.out; omega, by go_num, by rw [HKS.out, HP.out], by rw [HKS.out, ← HP.out]; omega, by rw [HKS.out, ← HP.out]; exact (HHF.out.keep (B2.out.block gb hgb2)).skip, grown_trans HG.out (below_grown B2.out _)⟩
        | false =>
          rw [hkb] at CT
          have HKM := Lib.hid (KM.out hkb)
          clear hkb
          have HWR2 := Lib.hid (fun W hb => HWR.out W hb p rfl)
          obtain ⟨⟨yk, yf, yc, yd⟩, yt⟩ := y
          simp only at c0 c1 c2 c3 c4 CT HWR2
          have hyb : Hid (∀ W, Below wr.heap.size wr W → gb < W.heap.size) := Lib.hid (fun W hb => Nat.lt_of_lt_of_le hgb2 hb.size)
          go_wp2_with (go_at_call 60; refine (CT.out _ ?_ ?_).mono ?_; exact (World.cell?_alloc_lt _ _ _ hbt2).trans hct; exact Nat.lt_of_lt_of_le hbt2 (by simp); rintro e v2 ⟨rfl, hb2⟩; have KY := Lib.hid (keepBlk hb2 (Blk.new wr 92 [.int .i64 yk, .int .i64 yf, .int .i64 yc, .string yd, .int .i64 yt])); have B2 := Lib.hid (keepBelow ((Below.refl _ _).alloc (Nat.le_refl _) _ : Below wr.heap.size wr _) hb2); have d0 : v2.cell? ⟨wr.heap.size, 0, none⟩ = some (.int .i64 yk) := KY.out.cell 0; have d1 : v2.cell? ⟨wr.heap.size, 1, none⟩ = some (.int .i64 yf) := KY.out.cell 1; have d2 : v2.cell? ⟨wr.heap.size, 2, none⟩ = some (.int .i64 yc) := KY.out.cell 2; have d3 : v2.cell? ⟨wr.heap.size, 3, none⟩ = some (.string yd) := KY.out.cell 3; have d4 : v2.cell? ⟨wr.heap.size, 4, none⟩ = some (.int .i64 yt) := KY.out.cell 4; obtain ⟨⟨u0, t0⟩, f0⟩ := HTH.out v2 B2.out 0 (by omega); obtain ⟨⟨u1, t1⟩, f1⟩ := HTH.out v2 B2.out 1 (by omega); obtain ⟨⟨u2, t2⟩, f2⟩ := HTH.out v2 B2.out 2 (by omega); obtain ⟨⟨u3, t3⟩, f3⟩ := HTH.out v2 B2.out 3 (by omega); obtain ⟨⟨u4, t4⟩, f4⟩ := HTH.out v2 B2.out 4 (by omega); rw [Nat.add_zero] at t0 f0; clear hb2)
          have hlen : (keepT t (l.take (j + 1))).length = p + 1 := by rw [HKM.out, List.length_append, ← HP.out]; rfl
          have HLEN := Lib.hid hlen
          clear hlen
          go_roundg (gk - 1)
          case measure => have := HJK.out; omega
          case rel => exact ⟨j + 1, by have := HJK.out; omega, by go_num, by rw [HLEN.out]; go_num, by rw [HLEN.out]; omega, by rw [HLEN.out, HKM.out]; exact HWR2.out v2 B2.out, grown_trans HG.out (grown_trans (below_grown B2.out _) (grown_trans (setC_grown _ _ _ _) (grown_trans (setC_grown _ _ _ _) (grown_trans (setC_grown _ _ _ _) (grown_trans (setC_grown _ _ _ _) (setC_grown _ _ _ _))))))⟩
      · obtain rfl : j = l.length := by have := HJK.out; omega
        have hH := HHF.out
        rw [List.take_length] at hH hpj
        obtain ⟨p, hp⟩ : ∃ p, p = (keepT t l).length := ⟨_, rfl⟩
        rw [← hp] at hH hpj
        have hfp : (keepT t (l.take l.length)).length = p := by rw [List.take_length, ← hp]
        rw [hfp]
        obtain ⟨cs, q1, ⟨q2, q2'⟩, q3, q4, q5⟩ := hH
        obtain ⟨nz, hnz⟩ : ∃ nz, nz = l.length - p := ⟨_, rfl⟩
        obtain ⟨zs, hz, hclr⟩ := run_clear5 wr 0 gb (off + p * 5) nz (cap - p) (by omega) (fun x hx => by rw [cell_of_row wr gb _ cs 92 (0, 0) q1, Array.getElem?_eq_getElem (by omega)]; rfl) (fun x hx => by simp [World.frozen?, q1])
        obtain ⟨cs2, r1, r2, r3⟩ := setCells_blk gb 92 zs (off + p * 5) wr cs q1 (by omega)
        have FIN : Hid (Row (wr.setCells gb (off + p * 5) zs) 92 5 (.slice (some ⟨gb, off, none⟩) p cap) (keepT t l).length (wtsC (keepT t l)) ∧ w.grownBy (wr.setCells gb (off + p * 5) zs) (some gb)) := by
          refine Lib.hid ⟨⟨wtsC_len _, .inr ⟨gb, off, cap, cs2, by rw [hp], r1, by omega, by unfold maxLen; omega, by rw [r2]; exact q2, fun x hx => ?_⟩⟩, grown_trans HG.out (setCells_grown _ _ _ _)⟩
          rw [r3, if_neg (by omega), q4 x (by omega)]
        rw [hnz] at hclr
        have hcp : ¬ cap = p := by omega
        clear q1 q2 q2' q3 q4 q5 r1 r2 r3 hz hnz hfp hp
        go_wp2_with fail
        go_ret
        exact ⟨_, rfl, FIN.out.1, rfl, FIN.out.2⟩
end Go.Proofs.Ytmnlojbfdpjjdaa
