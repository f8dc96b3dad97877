/- Acts in memory; Few. -/
import Derived.Test.YtmnlojbfdpjjdaaC1
namespace Go.Proofs.Ytmnlojbfdpjjdaa
open Go.RowKit
/-- a call of a pipe -/
structure Ac where
  kind : Int
  tk : Int
  op : Op
def acC (x : Ac) : List Value := [.int .i64 x.kind, .int .i64 x.tk, .int .i64 x.op.kind, .int .i64 x.op.fin, .int .i64 x.op.count, .string x.op.data]
def acV (x : Ac) : Value := .agg #[.int .i64 x.kind, .int .i64 x.tk, .int .i64 x.op.kind, .int .i64 x.op.fin, .int .i64 x.op.count, .string x.op.data]
def ac0 : Ac := ⟨0, 0, ⟨0, 0, 0, ByteArray.empty⟩⟩
/-- the cells of an act at a place -/
def AcAt (w : World) (b o : Nat) (x : Ac) : Prop :=
  w.cell? ⟨b, o, none⟩ = some (.int .i64 x.kind) ∧ w.cell? ⟨b, o + 1, none⟩ = some (.int .i64 x.tk) ∧ w.cell? ⟨b, o + 2, none⟩ = some (.int .i64 x.op.kind) ∧ w.cell? ⟨b, o + 3, none⟩ = some (.int .i64 x.op.fin) ∧ w.cell? ⟨b, o + 4, none⟩ = some (.int .i64 x.op.count) ∧ w.cell? ⟨b, o + 5, none⟩ = some (.string x.op.data)
/-- a slice of acts -/
def Acts (w : World) (v : Value) (l : List Ac) : Prop := (l = [] ∧ ∃ a c, v = .slice a 0 c) ∨
  ∃ b off cap, v = .slice (some ⟨b, off, none⟩) l.length cap ∧ 0 < l.length ∧ l.length ≤ 9223372036854775807 ∧ b < w.heap.size ∧ ∀ i, i < l.length → AcAt w b (off + i * 6) (l.getD i ac0)
theorem AcAt.below {w w' : World} {b o : Nat} {x : Ac} (h : AcAt w b o x) (hb : Below w.heap.size w w') (hl : b < w.heap.size) : AcAt w' b o x := by
  obtain ⟨h0, h1, h2, h3, h4, h5⟩ := h
  exact ⟨(hb.cell (p := ⟨b, o, none⟩) hl).trans h0, (hb.cell (p := ⟨b, o + 1, none⟩) hl).trans h1, (hb.cell (p := ⟨b, o + 2, none⟩) hl).trans h2, (hb.cell (p := ⟨b, o + 3, none⟩) hl).trans h3, (hb.cell (p := ⟨b, o + 4, none⟩) hl).trans h4, (hb.cell (p := ⟨b, o + 5, none⟩) hl).trans h5⟩
theorem Acts.below {w w' : World} {v : Value} {l : List Ac} (h : Acts w v l) (hb : Below w.heap.size w w') : Acts w' v l := by
  rcases h with h | ⟨b, off, cap, h1, h2, h3, h4, h5⟩
  · exact .inl h
  · exact .inr ⟨b, off, cap, h1, h2, h3, Nat.lt_of_lt_of_le h4 hb.size, fun i hi => (h5 i hi).below hb h4⟩
def longA (x : Ac) : Bool := decide (9000 < x.op.data.size)
theorem longA_any (x : Ac) (w : World) : Calls Try.prog 36 #[acV x] w fun e w' => e = .returned (.bool (longA x)) ∧ Below w.heap.size w w' := by
  have hb : longA x = decide ((9000 : Int) < (x.op.data.size : Int)) := by unfold longA; congr 1; simp only [eq_iff_iff]; omega
  rw [hb]
  clear hb
  obtain ⟨a, b, ⟨k, f, c, d⟩⟩ := x
  unfold acV
  go_enter Try.func36, Try.ntmps36
  go_wp2_with fail
  go_ret
  exact ⟨rfl, (Below.refl _ _).alloc (Nat.le_refl _) _⟩
def bigA (l : List Ac) : Int := match l.findIdx? longA with
  | some i => i
  | none => -1
theorem bigA_at {l : List Ac} {m : Nat} (hm : m < l.length) (hno : ∀ j, j < m → longA (l.getD j ac0) = false) (hy : longA (l.getD m ac0) = true) : bigA l = m := by
  have : l.findIdx? longA = some m := by
    rw [List.findIdx?_eq_some_iff_getElem]
    refine ⟨hm, ?_, fun j hj => ?_⟩
    · rw [List.getD_eq_getElem?_getD, List.getElem?_eq_getElem hm] at hy; exact hy
    · have := hno j hj
      rw [List.getD_eq_getElem?_getD, List.getElem?_eq_getElem (by omega)] at this
      simpa using this
  unfold bigA
  rw [this]
theorem bigA_none {l : List Ac} (hno : ∀ j, j < l.length → longA (l.getD j ac0) = false) : bigA l = -1 := by
  have : l.findIdx? longA = none := by
    rw [List.findIdx?_eq_none_iff]
    intro x hx
    obtain ⟨j, hj, rfl⟩ := List.getElem_of_mem hx
    have := hno j hj
    rw [List.getD_eq_getElem?_getD, List.getElem?_eq_getElem hj] at this
    exact this
  unfold bigA
  rw [this]
theorem bigA_any (l : List Ac) : decide (0 ≤ bigA l) = l.any longA := by
  unfold bigA
  cases h : l.findIdx? longA with
  | none =>
    rw [List.findIdx?_eq_none_iff] at h
    have : l.any longA = false := by rw [List.any_eq_false]; intro x hx; simpa using h x hx
    rw [this]; rfl
  | some i =>
    obtain ⟨hi, hp, _⟩ := List.findIdx?_eq_some_iff_getElem.1 h
    have : l.any longA = true := List.any_eq_true.2 ⟨_, List.getElem_mem hi, hp⟩
    rw [this, decide_eq_true_eq]; simp
set_option maxHeartbeats 800000 in
theorem index58_any (l : List Ac) (sv : Value) (w : World) (hr : Acts w sv l) :
    Calls Try.prog 58 #[sv, .func (.func 36) #[] #[]] w fun e w' => e = .returned (.int .i64 (bigA l)) ∧ Below w.heap.size w w' := by
  rcases hr with ⟨rfl, a, c, rfl⟩ | ⟨b, off, cap, rfl, hn, h2, hbl, hcl⟩
  · go_enter Try.func58, Try.ntmps58
    go_wp2_with fail
    go_loopw [8] (fun i wr => i = .int .i64 0 ∧ wr = w) (fun i _ => 0)
    case atStart => exact ⟨rfl, rfl⟩
    case round =>
      obtain ⟨rfl, rfl⟩ := hrel
      go_wp2_with fail
      go_ret
      exact ⟨rfl, Below.refl _ _⟩
  · have HC := Lib.hid hcl
    clear hcl
    go_enter Try.func58, Try.ntmps58
    go_wp2_with fail
    go_loopw [8] (fun i wr => ∃ m : Nat, m ≤ l.length ∧ i = .int .i64 m ∧ (∀ j, j < m → longA (l.getD j ac0) = false) ∧ Below w.heap.size w wr) (fun i _ => l.length - (intOf i).toNat)
    case atStart => exact ⟨0, by omega, rfl, fun j hj => by omega, Below.refl _ _⟩
    case round =>
      obtain ⟨m, hm, rfl, hno, hb⟩ := hrel
      have HN := Lib.hid hno
      have HB := Lib.hid hb
      by_cases hlt : m < l.length
      · obtain ⟨y, hy⟩ : ∃ y, y = l.getD m ac0 := ⟨_, rfl⟩
        have hcm := (HC.out m hlt).below hb hbl
        rw [← hy] at hcm
        obtain ⟨c0, c1, c2, c3, c4, c5⟩ := hcm
        have CH := Lib.hid (fun W => longA_any y W)
        unfold acV at CH
        obtain ⟨hbit, hbv⟩ : ∃ b, b = longA y := ⟨_, rfl⟩
        rw [← hbv] at CH
        have HV := Lib.hid hbv
        have HY := Lib.hid hy
        clear hno hbv hy hb
        cases hbit
        · go_wp2_with (go_at_call 36; refine (CH.out _).mono ?_; rintro e v1 ⟨rfl, hb1⟩; have B1 := Lib.hid (keepBelow HB.out hb1); clear hb1)
          exact ⟨⟨m + 1, by omega, rfl, fun j hj => by
            by_cases e : j = m
            · rw [e, ← HY.out]; exact HV.out.symm
            · exact HN.out j (by omega), B1.out⟩, by simp [intOf]; omega⟩
        · go_wp2_with (go_at_call 36; refine (CH.out _).mono ?_; rintro e v1 ⟨rfl, hb1⟩; have B1 := Lib.hid (keepBelow HB.out hb1); clear hb1)
          go_ret
          exact ⟨ret_i (bigA_at hlt HN.out (by rw [← HY.out]; exact HV.out.symm)).symm, B1.out⟩
      · obtain rfl : m = l.length := by omega
        clear hno hb
        go_wp2_with fail
        go_ret
        exact ⟨ret_i (bigA_none HN.out).symm, HB.out⟩
theorem contains35_any (l : List Ac) (sv : Value) (w : World) (hr : Acts w sv l) :
    Calls Try.prog 35 #[sv, .func (.func 36) #[] #[]] w fun e w' => e = .returned (.bool (l.any longA)) ∧ Below w.heap.size w w' := by
  have C := Lib.hid (index58_any l sv w hr)
  have HD := Lib.hid (bigA_any l)
  rw [← HD.out]
  clear hr
  generalize bigA l = i at *
  go_enter Try.func35, Try.ntmps35
  go_wp2_with (go_at_call 58; refine (C.out).mono ?_; rintro e v1 ⟨rfl, hb1⟩)
  go_ret
  exact ⟨rfl, hb1⟩
def fewB (l : List Ac) : Bool := decide (l.length ≤ 60) && !(l.any longA)
theorem Acts.form {w : World} {v : Value} {l : List Ac} (h : Acts w v l) : ∃ a c, v = .slice a l.length c ∧ l.length ≤ 9223372036854775807 := by
  rcases h with ⟨rfl, a, c, rfl⟩ | ⟨b, off, cap, rfl, _, h2, _⟩
  · exact ⟨a, c, rfl, Nat.zero_le _⟩
  · exact ⟨_, cap, rfl, h2⟩
theorem few_any (l : List Ac) (sv : Value) (w : World) (hr : Acts w sv l) :
    Calls Try.prog 17 #[sv] w fun e w' => e = .returned (.bool (fewB l)) ∧ Below w.heap.size w w' := by
  have C := Lib.hid (contains35_any l sv w hr)
  obtain ⟨a, c, hsv, hmax⟩ := hr.form
  unfold fewB
  rw [hsv] at C
  rw [hsv]
  generalize l.any longA = b at *
  clear hr hsv
  generalize l.length = n at *
  by_cases h60 : n ≤ 60
  · have h60' : (n : Int) ≤ 60 := by omega
    have HD := Lib.hid (show (decide (n ≤ 60) && !b) = !b by simp [h60])
    rw [HD.out]
    go_enter Try.func17, Try.ntmps17
    go_wp2_with (go_at_call 35; refine (C.out).mono ?_; rintro e v1 ⟨rfl, hb1⟩)
    go_ret
    exact ⟨rfl, hb1⟩
  · have h60' : ¬ (n : Int) ≤ 60 := by omega
    have HD := Lib.hid (show (decide (n ≤ 60) && !b) = false by simp [h60])
    rw [HD.out]
    go_enter Try.func17, Try.ntmps17
    go_wp2_with fail
    go_ret
    exact ⟨rfl, Below.refl _ _⟩
end Go.Proofs.Ytmnlojbfdpjjdaa
