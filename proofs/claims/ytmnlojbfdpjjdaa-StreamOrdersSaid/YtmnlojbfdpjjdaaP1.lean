/- StreamServes, plainly: the tickets of answers, of what was cancelled and of what waits. -/
import Derived.Test.YtmnlojbfdpjjdaaN2
namespace Go.Proofs.Ytmnlojbfdpjjdaa
/-- is t the ticket of an operation of a kind at an end that is not empty -/
def keyB (f : Int → Option Op) (k e t : Int) : Bool := match f t with
  | some x => !emptyB x && (x.kind == k && x.fin == e)
  | none => false
/-- tickets: answered, then waiting -/
def tl (P : List An) (st : St) : List Int := (P ++ st.ans).map An.tk ++ st.ws.map Wt.tk
/-- what holds behind each call: P the answers that were taken, ca what was cancelled, f what was asked -/
structure Sx (P : List An) (ca : List Int) (f : Int → Option Op) (st : St) : Prop where
  nd : (ca ++ tl P st).Nodup
  rng : ∀ t ∈ ca ++ tl P st, 1 ≤ t ∧ t ≤ st.tks
  num : ((ca ++ tl P st).length : Int) = st.tks
  dom : ∀ t, 1 ≤ t → t ≤ st.tks → (f t).isSome = true
  ord : ∀ k e, ((tl P st).filter (keyB f k e)).Pairwise (· < ·)
  tk : Tk f st
  ne : ∀ y ∈ st.ws, emptyB y.op = false
/-- a step: the first of a key goes from those that wait to the answers -/
theorem tl_step (P : List An) {st : St} {i : Nat} (_hi : i < st.ws.length) : tl P (stepS st i) = (P ++ st.ans).map An.tk ++ (st.ws.getD i wt0).tk :: (st.ws.eraseIdx i).map Wt.tk := by
  have h1 : (stepS st i).ans = st.ans ++ [⟨(st.ws.getD i wt0).tk, (doS (without st i) (st.ws.getD i wt0).op).2.1, (doS (without st i) (st.ws.getD i wt0).op).2.2, 0⟩] := by
    show (doS (without st i) (st.ws.getD i wt0).op).1.ans ++ [_] = _
    rw [(doS_grows (without st i) (st.ws.getD i wt0).op).2.1]
    rfl
  unfold tl
  rw [h1, stepS_ws]
  simp
theorem split_at {l : List Wt} {i : Nat} (hi : i < l.length) : l = l.take i ++ l.getD i wt0 :: l.drop (i + 1) ∧ l.eraseIdx i = l.take i ++ l.drop (i + 1) := by
  refine ⟨?_, List.eraseIdx_eq_take_drop_succ l i⟩
  rw [List.getD_eq_getElem?_getD, List.getElem?_eq_getElem hi, Option.getD_some]
  simp
theorem cand_first {st : St} {k f : Int} {i : Nat} (h : cand st k f = some i) : i < st.ws.length ∧ hitB k f (st.ws.getD i wt0) = true ∧ ∀ y ∈ st.ws.take i, hitB k f y = false := by
  unfold cand at h
  split at h
  · next j hj =>
    split at h
    · injection h with h
      subst h
      obtain ⟨a, b, _⟩ := find_hit hj
      refine ⟨a, b, fun y hy => ?_⟩
      rw [List.findIdx?_eq_some_iff_getElem] at hj
      obtain ⟨_, _, hlt⟩ := hj
      obtain ⟨m, hm, rfl⟩ := List.getElem_of_mem hy
      have hmj : m < j := by have := hm; rw [List.length_take] at this; omega
      have := hlt m hmj
      rw [List.getElem_take]
      simpa using this
    · cases h
  · cases h
theorem next_first {st : St} {i : Nat} (h : nextS st = some i) : i < st.ws.length ∧ ∀ y ∈ st.ws.take i, hitB (st.ws.getD i wt0).op.kind (st.ws.getD i wt0).op.fin y = false := by
  have key : ∀ k f j, cand st k f = some j → j < st.ws.length ∧ ∀ y ∈ st.ws.take j, hitB (st.ws.getD j wt0).op.kind (st.ws.getD j wt0).op.fin y = false := by
    intro k f j hj
    obtain ⟨a, b, c⟩ := cand_first hj
    obtain ⟨e1, e2⟩ := hit_eq b
    exact ⟨a, by rw [e1, e2]; exact c⟩
  unfold nextS at h
  split at h
  · next j hj => injection h with h; subst h; exact key _ _ _ hj
  · split at h
    · next j hj => injection h with h; subst h; exact key _ _ _ hj
    · split at h
      · next j hj => injection h with h; subst h; exact key _ _ _ hj
      · exact key _ _ _ h
theorem keyB_of {f : Int → Option Op} {y : Wt} (hf : f y.tk = some y.op) (he : emptyB y.op = false) (k e : Int) : keyB f k e y.tk = hitB k e y := by
  unfold keyB hitB
  rw [hf]
  simp [he]
theorem Sx.step {P : List An} {ca : List Int} {f : Int → Option Op} {st : St} (h : Sx P ca f st) {i : Nat} (hi : nextS st = some i) : Sx P ca f (stepS st i) := by
  obtain ⟨hl, hfirst⟩ := next_first hi
  obtain ⟨hs1, hs2⟩ := split_at hl
  have htk : (stepS st i).tks = st.tks := (doS_rest (Ytmnlojbfdpjjdaa.without st i) (st.ws.getD i wt0).op).1
  have hold : tl P st = (P ++ st.ans).map An.tk ++ ((st.ws.take i).map Wt.tk ++ (st.ws.getD i wt0).tk :: (st.ws.drop (i + 1)).map Wt.tk) := by
    unfold tl
    congr 1
    conv => lhs; rw [hs1]
    rw [List.map_append, List.map_cons]
  have hnew : tl P (stepS st i) = (P ++ st.ans).map An.tk ++ ((st.ws.getD i wt0).tk :: ((st.ws.take i).map Wt.tk ++ (st.ws.drop (i + 1)).map Wt.tk)) := by
    rw [tl_step P hl, hs2]
    congr 2
    rw [List.map_append]
  have hperm : (tl P (stepS st i)).Perm (tl P st) := by
    rw [hold, hnew]
    exact List.Perm.append_left _ List.perm_middle.symm
  have hp2 : (ca ++ tl P (stepS st i)).Perm (ca ++ tl P st) := List.Perm.append_left _ hperm
  have hws : ∀ y ∈ (stepS st i).ws, y ∈ st.ws := fun y hy => by rw [stepS_ws] at hy; exact (List.eraseIdx_sublist _ _).subset hy
  refine ⟨hp2.nodup_iff.2 h.nd, fun t ht => by rw [htk]; exact h.rng t (hp2.mem_iff.1 ht), by rw [hp2.length_eq, htk]; exact h.num, fun t h1 h2 => h.dom t h1 (by rw [htk] at h2; exact h2), fun k e => ?_, fun y hy => h.tk y (hws y hy), fun y hy => h.ne y (hws y hy)⟩
  have ho := h.ord k e
  have hym : st.ws.getD i wt0 ∈ st.ws := getD_mem hl
  have hky := keyB_of (h.tk _ hym) (h.ne _ hym) k e
  rw [hold] at ho
  rw [hnew]
  rw [List.filter_append, List.filter_append, List.filter_cons] at ho
  rw [List.filter_append, List.filter_cons, List.filter_append]
  cases hb : keyB f k e (st.ws.getD i wt0).tk with
  | false =>
    rw [hb] at ho
    simpa using ho
  | true =>
    have hnil : ((st.ws.take i).map Wt.tk).filter (keyB f k e) = [] := by
      rw [List.filter_eq_nil_iff]
      intro t ht
      obtain ⟨y, hy, rfl⟩ := List.mem_map.1 ht
      have hy2 : y ∈ st.ws := List.mem_of_mem_take hy
      rw [keyB_of (h.tk _ hy2) (h.ne _ hy2) k e]
      rw [hky] at hb
      obtain ⟨e1, e2⟩ := hit_eq hb
      have := hfirst y hy
      rw [e1, e2] at this
      simp [this]
    rw [hb, hnil] at ho
    rw [hnil]
    simpa using ho
theorem Sx.settle {P : List An} {ca : List Int} {f : Int → Option Op} {st : St} (h : Sx P ca f st) : Sx P ca f (settle st) := settle_ind (fun _ _ h hi => h.step hi) st h
end Go.Proofs.Ytmnlojbfdpjjdaa
