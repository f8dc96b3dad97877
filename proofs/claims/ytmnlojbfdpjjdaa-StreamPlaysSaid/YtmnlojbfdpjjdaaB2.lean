/- settle in plain words: who is next, one step, all steps; sizes stay small. -/
import Derived.Test.YtmnlojbfdpjjdaaB1
namespace Go.Proofs.Ytmnlojbfdpjjdaa
open Go.RowKit
/-- the first of a kind at an end, if it can be done -/
def cand (st : St) (k f : Int) : Option Nat := match st.ws.findIdx? (hitB k f) with
  | some i => if readyB st (st.ws.getD i wt0).op then some i else none
  | none => none
def nextS (st : St) : Option Nat := match cand st 0 0 with
  | some i => some i
  | none => match cand st 0 1 with
    | some i => some i
    | none => match cand st 1 0 with
      | some i => some i
      | none => cand st 1 1
def without (st : St) (i : Nat) : St := ⟨st.q0, st.q1, st.c0, st.c1, st.limit, st.tks, st.ws.eraseIdx i, st.ans⟩
def answered (st : St) (a : An) : St := ⟨st.q0, st.q1, st.c0, st.c1, st.limit, st.tks, st.ws, st.ans ++ [a]⟩
def stepS (st : St) (i : Nat) : St :=
  answered (doS (without st i) (st.ws.getD i wt0).op).1 ⟨(st.ws.getD i wt0).tk, (doS (without st i) (st.ws.getD i wt0).op).2.1, (doS (without st i) (st.ws.getD i wt0).op).2.2, 0⟩
def settleS : Nat → St → St
  | 0, st => st
  | n + 1, st => match nextS st with
    | some i => settleS n (stepS st i)
    | none => st
def settle (st : St) : St := settleS st.ws.length st
theorem settleS_none {st : St} (h : nextS st = none) (n : Nat) : settleS n st = st := by
  cases n with
  | zero => rfl
  | succ n => rw [settleS, h]
theorem settleS_some {st : St} {i : Nat} (h : nextS st = some i) (n : Nat) : settleS (n + 1) st = settleS n (stepS st i) := by
  rw [settleS, h]
theorem next_none {st : St} (h : ∀ k : Nat, k < 2 → ∀ f : Nat, f < 2 → cand st k f = none) : nextS st = none := by
  have h00 := h 0 (by omega) 0 (by omega)
  have h01 := h 0 (by omega) 1 (by omega)
  have h10 := h 1 (by omega) 0 (by omega)
  have h11 := h 1 (by omega) 1 (by omega)
  simp only [Int.natCast_zero, Int.natCast_one] at h00 h01 h10 h11
  unfold nextS
  first | rw [h00, h01, h10, h11] | (simp only [h00, h01, h10]; exact h11)
theorem next_some {st : St} {K F i : Nat} (hK : K < 2) (hF : F < 2) (h1 : ∀ k : Nat, k < K → ∀ f : Nat, f < 2 → cand st k f = none) (h2 : ∀ f : Nat, f < F → cand st K f = none) (h : cand st K F = some i) : nextS st = some i := by
  unfold nextS
  rcases (show K = 0 ∨ K = 1 by omega) with rfl | rfl <;> rcases (show F = 0 ∨ F = 1 by omega) with rfl | rfl
  · have h' : cand st 0 0 = some i := h
    simp only [h']
  · have a : cand st 0 0 = none := h2 0 (by omega)
    have h' : cand st 0 1 = some i := h
    simp only [a, h']
  · have a : cand st 0 0 = none := h1 0 (by omega) 0 (by omega)
    have b : cand st 0 1 = none := h1 0 (by omega) 1 (by omega)
    have h' : cand st 1 0 = some i := h
    simp only [a, b, h']
  · have a : cand st 0 0 = none := h1 0 (by omega) 0 (by omega)
    have b : cand st 0 1 = none := h1 0 (by omega) 1 (by omega)
    have c : cand st 1 0 = none := h2 0 (by omega)
    have h' : cand st 1 1 = some i := h
    simp only [a, b, c, h']
/-- who waits is sound -/
def OpOk (x : Op) : Prop := OpIn x ∧ (x.kind = 0 → 0 ≤ x.count) ∧ x.data.size ≤ 1000000
def WOk (st : St) : Prop := ∀ y ∈ st.ws, OpOk y.op
theorem find_hit {l : List Wt} {k f : Int} {i : Nat} (h : l.findIdx? (hitB k f) = some i) : i < l.length ∧ hitB k f (l.getD i wt0) = true ∧ ixF l k f = i := by
  have h' := h
  rw [List.findIdx?_eq_some_iff_getElem] at h
  obtain ⟨hi, hp, _⟩ := h
  refine ⟨hi, ?_, ?_⟩
  · rw [List.getD_eq_getElem?_getD, List.getElem?_eq_getElem hi]; exact hp
  · unfold ixF; rw [h']
theorem hit_eq {k f : Int} {y : Wt} (h : hitB k f y = true) : y.op.kind = k ∧ y.op.fin = f := by
  unfold hitB at h
  simpa using h
theorem getD_mem {l : List Wt} {i : Nat} (hi : i < l.length) : l.getD i wt0 ∈ l := by
  rw [List.getD_eq_getElem?_getD, List.getElem?_eq_getElem hi]
  exact List.getElem_mem hi
theorem setQ_ws (st : St) (x : Op) (q : List ByteArray) : (setQ st x q).ws = st.ws := by unfold setQ; split <;> rfl
theorem setQ_ans (st : St) (x : Op) (q : List ByteArray) : (setQ st x q).ans = st.ans := by unfold setQ; split <;> rfl
theorem setQ_len (st : St) (x : Op) (q : List ByteArray) : (setQ st x q).q0.length + (setQ st x q).q1.length + (qOf st x).length = st.q0.length + st.q1.length + q.length := by unfold setQ qOf; split <;> simp only <;> omega
theorem setQ_siz (st : St) (x : Op) (q : List ByteArray) : sizes (setQ st x q).q0 + sizes (setQ st x q).q1 + sizes (qOf st x) = sizes st.q0 + sizes st.q1 + sizes q := by unfold setQ qOf; split <;> simp only <;> omega
/-- what an operation leaves: no more blocks but the one that it adds, no more bytes but its own -/
theorem doS_grows (st : St) (x : Op) : (doS st x).1.ws = st.ws ∧ (doS st x).1.ans = st.ans ∧ (doS st x).1.q0.length + (doS st x).1.q1.length ≤ st.q0.length + st.q1.length + 1 ∧
    sizes (doS st x).1.q0 + sizes (doS st x).1.q1 ≤ sizes st.q0 + sizes st.q1 + x.data.size := by
  unfold doS
  split
  · exact ⟨rfl, rfl, by dsimp only; omega, by dsimp only; omega⟩
  · split
    · have h1 := setQ_len st x (qOf st x ++ [x.data])
      have h2 := setQ_siz st x (qOf st x ++ [x.data])
      rw [sizes_append] at h2
      simp only [List.length_append, List.length_cons, List.length_nil, sizes] at h1 h2
      exact ⟨setQ_ws _ _ _, setQ_ans _ _ _, by dsimp only; omega, by dsimp only; omega⟩
    · cases hq : qOf st x with
      | nil => exact ⟨rfl, rfl, by dsimp only; omega, by dsimp only; omega⟩
      | cons b r =>
        simp only
        split
        · have h1 := setQ_len st x (b.extract x.count.toNat b.size :: r)
          have h2 := setQ_siz st x (b.extract x.count.toNat b.size :: r)
          rw [hq] at h1 h2
          simp only [List.length_cons, sizes, ByteArray.size_extract] at h1 h2
          exact ⟨setQ_ws _ _ _, setQ_ans _ _ _, by dsimp only; omega, by dsimp only; omega⟩
        · have h1 := setQ_len st x r
          have h2 := setQ_siz st x r
          rw [hq] at h1 h2
          simp only [List.length_cons, sizes] at h1 h2
          exact ⟨setQ_ws _ _ _, setQ_ans _ _ _, by dsimp only; omega, by dsimp only; omega⟩
theorem sizes_erase (l : List Wt) : ∀ i, i < l.length → sizes ((l.eraseIdx i).map (·.op.data)) + (l.getD i wt0).op.data.size = sizes (l.map (·.op.data)) := by
  induction l with
  | nil => intro i hi; simp at hi
  | cons a l ih =>
    intro i hi
    cases i with
    | zero => simp only [List.eraseIdx_cons_zero, List.map_cons, sizes]; show _ + a.op.data.size = _; omega
    | succ i =>
      have := ih i (by simpa using hi)
      simp only [List.eraseIdx_cons_succ, List.map_cons, sizes]
      show _ + (l.getD i wt0).op.data.size = _
      omega
theorem Sm.without {st : St} (h : Sm st) {i : Nat} (hi : i < st.ws.length) : Sm (without st i) := by
  have hl : (st.ws.eraseIdx i).length = st.ws.length - 1 := by rw [List.length_eraseIdx, if_pos hi]
  have hz := sizes_erase st.ws i hi
  have := h.q; have := h.a; have := h.z
  exact ⟨by show st.q0.length + st.q1.length + (st.ws.eraseIdx i).length ≤ _; omega, by show st.ans.length + (st.ws.eraseIdx i).length ≤ _; omega, by show sizes st.q0 + sizes st.q1 + sizes ((st.ws.eraseIdx i).map (·.op.data)) ≤ _; omega⟩
theorem stepS_ws (st : St) (i : Nat) : (stepS st i).ws = st.ws.eraseIdx i := (doS_grows (without st i) (st.ws.getD i wt0).op).1
theorem Sm.step {st : St} (h : Sm st) {i : Nat} (hi : i < st.ws.length) : Sm (stepS st i) := by
  have hl : (st.ws.eraseIdx i).length = st.ws.length - 1 := by rw [List.length_eraseIdx, if_pos hi]
  have hz := sizes_erase st.ws i hi
  obtain ⟨g1, g2, g3, g4⟩ := doS_grows (Ytmnlojbfdpjjdaa.without st i) (st.ws.getD i wt0).op
  have := h.q; have := h.a; have := h.z
  have e0 : (Ytmnlojbfdpjjdaa.without st i).q0 = st.q0 := rfl
  have e1 : (Ytmnlojbfdpjjdaa.without st i).q1 = st.q1 := rfl
  have e2 : (Ytmnlojbfdpjjdaa.without st i).ws = st.ws.eraseIdx i := rfl
  have e3 : (Ytmnlojbfdpjjdaa.without st i).ans = st.ans := rfl
  rw [e0, e1] at g3 g4
  have s0 : (stepS st i).q0 = (doS (Ytmnlojbfdpjjdaa.without st i) (st.ws.getD i wt0).op).1.q0 := rfl
  have s1 : (stepS st i).q1 = (doS (Ytmnlojbfdpjjdaa.without st i) (st.ws.getD i wt0).op).1.q1 := rfl
  have s2 : (stepS st i).ans.length = st.ans.length + 1 := by
    show ((doS (Ytmnlojbfdpjjdaa.without st i) (st.ws.getD i wt0).op).1.ans ++ [_]).length = _
    rw [g2, e3]; simp
  refine ⟨?_, ?_, ?_⟩
  · rw [stepS_ws, s0, s1]; omega
  · rw [stepS_ws, s2]; omega
  · rw [stepS_ws, s0, s1]; omega
theorem WOk.step {st : St} (h : WOk st) (i : Nat) : WOk (stepS st i) := fun y hy => by
  rw [stepS_ws] at hy
  exact h y ((List.eraseIdx_sublist st.ws i).subset hy)
theorem erase_len {st : St} {i n : Nat} (hi : i < st.ws.length) (hn : st.ws.length = n + 1) : (stepS st i).ws.length = n := by
  rw [stepS_ws, List.length_eraseIdx, if_pos hi]; omega
end Go.Proofs.Ytmnlojbfdpjjdaa
