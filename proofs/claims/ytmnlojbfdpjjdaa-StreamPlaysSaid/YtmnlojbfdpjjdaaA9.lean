/- IndexFunc over those that wait, with the closure of settle: the first of a kind at an end. -/
import Derived.Test.YtmnlojbfdpjjdaaA8
namespace Go.Proofs.Ytmnlojbfdpjjdaa
open Go.RowKit
def hitB (k f : Int) (y : Wt) : Bool := y.op.kind == k && y.op.fin == f
theorem hit_any (y : Wt) (k f : Int) (bk bf : Nat) (w : World) (hk : w.cell? ⟨bk, 0, none⟩ = some (.int .i64 k)) (hf : w.cell? ⟨bf, 0, none⟩ = some (.int .i64 f)) (hbk : bk < w.heap.size) (hbf : bf < w.heap.size) :
    Calls Try.prog 75 #[.agg #[.int .i64 y.op.kind, .int .i64 y.op.fin, .int .i64 y.op.count, .string y.op.data, .int .i64 y.tk], .pointer (some ⟨bk, 0, none⟩), .pointer (some ⟨bf, 0, none⟩)] w fun e w' => e = .returned (.bool (hitB k f y)) ∧ Below w.heap.size w w' := by
  have hh : hitB k f y = (y.op.kind == k && y.op.fin == f) := rfl
  rw [hh]
  clear hh
  obtain ⟨⟨yk, yf, yc, yd⟩, yt⟩ := y
  simp only
  by_cases e0 : yk = k
  · subst e0
    by_cases e1 : yf = f
    · subst e1
      have HD := Lib.hid (show (yk == yk && yf == yf) = true by simp)
      rw [HD.out]
      go_enter Try.func75, Try.ntmps75
      go_wp2_with fail
      go_ret
      exact ⟨rfl, (Below.refl _ _).alloc (Nat.le_refl _) _⟩
    · have f1 : (yf == f) = false := by rw [beq_eq_false_iff_ne]; exact e1
      have HD := Lib.hid (show (yk == yk && yf == f) = false by rw [f1]; simp)
      rw [HD.out]
      clear e1
      go_enter Try.func75, Try.ntmps75
      go_wp2_with fail
      go_ret
      exact ⟨rfl, (Below.refl _ _).alloc (Nat.le_refl _) _⟩
  · have f0 : (yk == k) = false := by rw [beq_eq_false_iff_ne]; exact e0
    have HD := Lib.hid (show (yk == k && yf == f) = false by rw [f0]; simp)
    rw [HD.out]
    clear e0
    go_enter Try.func75, Try.ntmps75
    go_wp2_with fail
    go_ret
    exact ⟨rfl, (Below.refl _ _).alloc (Nat.le_refl _) _⟩
theorem ret_i {a b : Int} (h : a = b) : Ending.returned (.int .i64 a) = .returned (.int .i64 b) := by rw [h]
/-- the place of the first of a kind at an end -/
def ixF (l : List Wt) (k f : Int) : Int := match l.findIdx? (hitB k f) with
  | some i => i
  | none => -1
theorem ixF_at {l : List Wt} {k f : Int} {m : Nat} (hm : m < l.length) (hno : ∀ j, j < m → hitB k f (l.getD j wt0) = false) (hy : hitB k f (l.getD m wt0) = true) : ixF l k f = m := by
  have : l.findIdx? (hitB k f) = some m := by
    rw [List.findIdx?_eq_some_iff_getElem]
    refine ⟨hm, ?_, fun j hj => ?_⟩
    · rw [List.getD_eq_getElem?_getD, List.getElem?_eq_getElem hm] at hy; exact hy
    · have := hno j hj
      rw [List.getD_eq_getElem?_getD, List.getElem?_eq_getElem (by omega)] at this
      simpa using this
  unfold ixF
  rw [this]
theorem ixF_none {l : List Wt} {k f : Int} (hno : ∀ j, j < l.length → hitB k f (l.getD j wt0) = false) : ixF l k f = -1 := by
  have : l.findIdx? (hitB k f) = none := by
    rw [List.findIdx?_eq_none_iff]
    intro x hx
    obtain ⟨j, hj, rfl⟩ := List.getElem_of_mem hx
    have := hno j hj
    rw [List.getD_eq_getElem?_getD, List.getElem?_eq_getElem hj] at this
    exact this
  unfold ixF
  rw [this]
set_option maxHeartbeats 800000 in
theorem index_any (l : List Wt) (sv : Value) (k f : Int) (bk bf : Nat) (w : World) (hr : Row w 92 5 sv l.length (wtsC l)) (hl : l.length ≤ 100000) (hk : w.cell? ⟨bk, 0, none⟩ = some (.int .i64 k)) (hf : w.cell? ⟨bf, 0, none⟩ = some (.int .i64 f)) (hbk : bk < w.heap.size) (hbf : bf < w.heap.size) :
    Calls Try.prog 74 #[sv, .func (.func 75) #[] #[.pointer (some ⟨bk, 0, none⟩), .pointer (some ⟨bf, 0, none⟩)]] w fun e w' => e = .returned (.int .i64 (ixF l k f)) ∧ Below w.heap.size w w' := by
  by_cases hn : 0 < l.length
  · obtain ⟨gb, off, cap, rfl, h1, h2, hgb, hcl, _⟩ := hr.open hn
    unfold maxLen at h2
    have HC := Lib.hid hcl
    clear hr hcl
    go_enter Try.func74, Try.ntmps74
    go_wp2_with fail
    go_loopw [8] (fun i wr => ∃ m : Nat, m ≤ l.length ∧ i = .int .i64 m ∧ (∀ j, j < m → hitB k f (l.getD j wt0) = false) ∧ Below w.heap.size w wr) (fun i _ => l.length - (intOf i).toNat)
    case atStart => exact ⟨0, by omega, rfl, fun j hj => by omega, Below.refl _ _⟩
    case round =>
      obtain ⟨m, hm, rfl, hno, hb⟩ := hrel
      have HN := Lib.hid hno
      have HB := Lib.hid hb
      by_cases hlt : m < l.length
      · obtain ⟨y, hy⟩ : ∃ y, y = l.getD m wt0 := ⟨_, rfl⟩
        obtain ⟨c0, c1, c2, c3, c4⟩ := wt_cells (w := wr) (fun j hj => (hb.cell (p := ⟨gb, off + j, none⟩) hgb).trans (HC.out j hj)) hlt y hy
        have CH := Lib.hid (hit_any y k f bk bf wr ((hb.cell (p := ⟨bk, 0, none⟩) hbk).trans hk) ((hb.cell (p := ⟨bf, 0, none⟩) hbf).trans hf) (Nat.lt_of_lt_of_le hbk hb.size) (Nat.lt_of_lt_of_le hbf hb.size))
        obtain ⟨hbit, hbv⟩ : ∃ b, b = hitB k f y := ⟨_, rfl⟩
        rw [← hbv] at CH
        have HV := Lib.hid hbv
        have HY := Lib.hid hy
        clear hno hb hbv hy
        cases hbit
        · go_wp2_with (go_at_call 75; refine (CH.out).mono ?_; rintro e v1 ⟨rfl, hb1⟩; have B1 := Lib.hid (keepBelow HB.out hb1); clear hb1)
          exact ⟨⟨m + 1, by omega, rfl, fun j hj => by
            by_cases e : j = m
            · rw [e, ← HY.out]; exact HV.out.symm
            · exact HN.out j (by omega), B1.out⟩, by simp [intOf]; omega⟩
        · go_wp2_with (go_at_call 75; refine (CH.out).mono ?_; rintro e v1 ⟨rfl, hb1⟩; have B1 := Lib.hid (keepBelow HB.out hb1); clear hb1)
          go_ret
          exact ⟨ret_i (ixF_at hlt HN.out (by rw [← HY.out]; exact HV.out.symm)).symm, B1.out⟩
      · obtain rfl : m = l.length := by omega
        clear hno hb
        go_wp2_with fail
        go_ret
        exact ⟨ret_i (ixF_none HN.out).symm, HB.out⟩
  · have hq0 : l = [] := List.eq_nil_of_length_eq_zero (by omega)
    subst hq0
    obtain ⟨a, cap, rfl, h1, h2⟩ := hr.form
    unfold maxLen at h2
    clear hr
    go_enter Try.func74, Try.ntmps74
    go_wp2_with fail
    go_loopw [8] (fun i wr => i = .int .i64 0 ∧ wr = w) (fun i _ => 0)
    case atStart => exact ⟨rfl, rfl⟩
    case round =>
      obtain ⟨rfl, rfl⟩ := hrel
      go_wp2_with fail
      go_ret
      exact ⟨rfl, Below.refl _ _⟩
end Go.Proofs.Ytmnlojbfdpjjdaa
