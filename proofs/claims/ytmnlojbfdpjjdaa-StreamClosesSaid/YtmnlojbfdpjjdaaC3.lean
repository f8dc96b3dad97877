/- ContainsFunc over a row of strings, with the closure of StreamCloses: is one longer than 2000 bytes. -/
import Derived.Test.YtmnlojbfdpjjdaaB9
namespace Go.Proofs.Ytmnlojbfdpjjdaa
open Go.RowKit
/-- A slice of strings that came in: nil, or its cells from a on. -/
def Strs (w : World) (v : Value) (l : List ByteArray) : Prop := (v = .slice none 0 0 ∧ l = []) ∨
  ∃ (a : Addr) (cap : Nat), v = .slice (some a) l.length cap ∧ l.length ≤ cap ∧ cap ≤ maxLen ∧ (0 < l.length → a.block < w.heap.size) ∧ ∀ i, i < l.length → w.cell? (a.add i) = some (.string (l.getD i ByteArray.empty))
theorem addBlk (a : Addr) (k : Nat) : (a.add k).block = a.block := by unfold Addr.add; split <;> rfl
theorem Strs.below {w w' : World} {v : Value} {l : List ByteArray} (h : Strs w v l) (hb : Below w.heap.size w w') : Strs w' v l := by
  rcases h with h | ⟨a, cap, h1, h2, h3, h4, h5⟩
  · exact .inl h
  · exact .inr ⟨a, cap, h1, h2, h3, fun h0 => Nat.lt_of_lt_of_le (h4 h0) hb.size, fun i hi => by rw [hb.cell (p := a.add i) (by rw [addBlk]; exact h4 (by omega))]; exact h5 i hi⟩
def longB (s : ByteArray) : Bool := decide (2000 < s.size)
theorem long_any (s : ByteArray) (w : World) : Calls Try.prog 11 #[.string s] w fun e w' => e = .returned (.bool (longB s)) ∧ w = w' := by
  have hb : longB s = decide ((2000 : Int) < (s.size : Int)) := by unfold longB; congr 1; simp only [eq_iff_iff]; omega
  rw [hb]
  go_enter Try.func11, Try.ntmps11
  go_wp2_with fail
  go_ret
  exact ⟨rfl, rfl⟩
def bigI (l : List ByteArray) : Int := match l.findIdx? longB with
  | some i => i
  | none => -1
theorem bigI_at {l : List ByteArray} {m : Nat} (hm : m < l.length) (hno : ∀ j, j < m → longB (l.getD j ByteArray.empty) = false) (hy : longB (l.getD m ByteArray.empty) = true) : bigI l = m := by
  have : l.findIdx? longB = some m := by
    rw [List.findIdx?_eq_some_iff_getElem]
    refine ⟨hm, ?_, fun j hj => ?_⟩
    · rw [List.getD_eq_getElem?_getD, List.getElem?_eq_getElem hm] at hy; exact hy
    · have := hno j hj
      rw [List.getD_eq_getElem?_getD, List.getElem?_eq_getElem (by omega)] at this
      simpa using this
  unfold bigI
  rw [this]
theorem bigI_none {l : List ByteArray} (hno : ∀ j, j < l.length → longB (l.getD j ByteArray.empty) = false) : bigI l = -1 := by
  have : l.findIdx? longB = none := by
    rw [List.findIdx?_eq_none_iff]
    intro x hx
    obtain ⟨j, hj, rfl⟩ := List.getElem_of_mem hx
    have := hno j hj
    rw [List.getD_eq_getElem?_getD, List.getElem?_eq_getElem hj] at this
    exact this
  unfold bigI
  rw [this]
theorem bigI_any (l : List ByteArray) : decide (0 ≤ bigI l) = l.any longB := by
  unfold bigI
  cases h : l.findIdx? longB with
  | none =>
    rw [List.findIdx?_eq_none_iff] at h
    have : l.any longB = false := by rw [List.any_eq_false]; intro x hx; simpa using h x hx
    rw [this]; rfl
  | some i =>
    obtain ⟨hi, hp, _⟩ := List.findIdx?_eq_some_iff_getElem.1 h
    have : l.any longB = true := List.any_eq_true.2 ⟨_, List.getElem_mem hi, hp⟩
    rw [this, decide_eq_true_eq]; simp
set_option maxHeartbeats 800000 in
theorem index32_any (l : List ByteArray) (sv : Value) (w : World) (hr : Strs w sv l) :
    Calls Try.prog 32 #[sv, .func (.func 11) #[] #[]] w fun e w' => e = .returned (.int .i64 (bigI l)) ∧ w = w' := by
  rcases hr with ⟨rfl, rfl⟩ | ⟨a, cap, rfl, h1, h2, _, hcl⟩
  · go_enter Try.func32, Try.ntmps32
    go_wp2_with fail
    go_loopw [8] (fun i wr => i = .int .i64 0 ∧ wr = w) (fun i _ => 0)
    case atStart => exact ⟨rfl, rfl⟩
    case round =>
      obtain ⟨rfl, rfl⟩ := hrel
      go_wp2_with fail
      go_ret
      exact ⟨rfl, rfl⟩
  · unfold maxLen at h2
    have HC := Lib.hid hcl
    clear hcl
    go_enter Try.func32, Try.ntmps32
    go_wp2_with fail
    go_loopw [8] (fun i wr => ∃ m : Nat, m ≤ l.length ∧ i = .int .i64 m ∧ (∀ j, j < m → longB (l.getD j ByteArray.empty) = false) ∧ wr = w) (fun i _ => l.length - (intOf i).toNat)
    case atStart => exact ⟨0, by omega, rfl, fun j hj => by omega, rfl⟩
    case round =>
      obtain ⟨m, hm, rfl, hno, rfl⟩ := hrel
      have HN := Lib.hid hno
      by_cases hlt : m < l.length
      · have c0 := HC.out m hlt
        obtain ⟨y, hy⟩ : ∃ y, y = l.getD m ByteArray.empty := ⟨_, rfl⟩
        rw [← hy] at c0
        have CH := Lib.hid (fun W => long_any y W)
        obtain ⟨hbit, hbv⟩ : ∃ b, b = longB y := ⟨_, rfl⟩
        rw [← hbv] at CH
        have HV := Lib.hid hbv
        have HY := Lib.hid hy
        clear hno hbv hy
        cases hbit
        · go_wp2_with (go_at_call 11; refine (CH.out _).mono ?_; rintro e v1 ⟨rfl, rfl⟩)
          exact ⟨⟨m + 1, by omega, rfl, fun j hj => by
            by_cases e : j = m
            · rw [e, ← HY.out]; exact HV.out.symm
            · exact HN.out j (by omega), trivial⟩, by simp [intOf]; omega⟩
        · go_wp2_with (go_at_call 11; refine (CH.out _).mono ?_; rintro e v1 ⟨rfl, rfl⟩)
          go_ret
          exact ⟨ret_i (bigI_at hlt HN.out (by rw [← HY.out]; exact HV.out.symm)).symm, rfl⟩
      · obtain rfl : m = l.length := by omega
        clear hno
        go_wp2_with fail
        go_ret
        exact ⟨ret_i (bigI_none HN.out).symm, rfl⟩
theorem contains10_any (l : List ByteArray) (sv : Value) (w : World) (hr : Strs w sv l) :
    Calls Try.prog 10 #[sv, .func (.func 11) #[] #[]] w fun e w' => e = .returned (.bool (l.any longB)) ∧ w = w' := by
  have C := Lib.hid (index32_any l sv w hr)
  have HD := Lib.hid (bigI_any l)
  rw [← HD.out]
  clear hr
  generalize bigI l = i at *
  go_enter Try.func10, Try.ntmps10
  go_wp2_with (go_at_call 32; refine (C.out).mono ?_; rintro e v1 ⟨rfl, rfl⟩)
  go_ret
  exact ⟨rfl, rfl⟩
end Go.Proofs.Ytmnlojbfdpjjdaa
