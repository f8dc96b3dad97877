/- StreamServes, plainly: what holds at the head of the law's first loop, and what its end loops meet. -/
import Derived.Test.YtmnlojbfdpjjdaaP6
namespace Go.Proofs.Ytmnlojbfdpjjdaa
/-- a set of tickets, as a map -/
def goneF (l : List Int) (t : Int) : Option Bool := if t ∈ l then some true else none
theorem goneF_nil : goneF [] = fun _ => none := by funext t; simp [goneF]
theorem goneF_snoc (l : List Int) (t : Int) : upd (goneF l) t true = goneF (l ++ [t]) := by
  funext u; unfold upd goneF
  by_cases h : u = t
  · subst h; simp
  · simp [h]
theorem goneF_next {L : List Int} (hn : L.Nodup) {i : Nat} (hi : i < L.length) {t : Int} (ht : t = L.getD i 0) : goneF (L.take i) t = none ∧ upd (goneF (L.take i)) t true = goneF (L.take (i + 1)) := by
  have e : L.getD i 0 = L[i] := by rw [List.getD_eq_getElem?_getD, List.getElem?_eq_getElem hi]; rfl
  rw [e] at ht
  subst ht
  refine ⟨?_, by rw [goneF_snoc, ← List.take_succ_eq_append_getElem hi]⟩
  unfold goneF
  rw [if_neg]
  intro hm
  obtain ⟨k, hk, he⟩ := List.getElem_of_mem hm
  rw [List.length_take] at hk
  rw [List.getElem_take] at he
  exact (List.pairwise_iff_getElem.1 hn) k i (by omega) hi (by omega) he
/-- what holds at the head of the first loop, behind n acts -/
structure Sv (n : Nat) (As : List An) (ca : List Int) (f : Int → Option Op) (c : Nat) (st : St) : Prop where
  gd : Gd n st
  ans : st.ans = []
  sx : Sx As ca f st
  cl : Cl st
  fo : Fo f
  dom : ∀ t, (f t).isSome = true → 1 ≤ t ∧ t ≤ st.tks
  c : (c : Int) = st.tks
theorem Sv.new (l : Int) : Sv 0 [] [] (fun _ => none) 0 (newSt l) :=
  ⟨Gd.new l, rfl, Sx.new l, Cl.new l, (fun t x h => by cases h), (fun t h => by cases h), rfl⟩
theorem doR_ans {st : St} (h : st.ans = []) (x : Ac) : (doR st x).2.ans = [] := by
  unfold doR
  repeat' split
  all_goals first | rfl | exact h
theorem Sv.doR {n : Nat} {As : List An} {ca : List Int} {f : Int → Option Op} {c : Nat} {st : St} (h : Sv n As ca f c st) (x : Ac) (hd : x.op.data.size ≤ 9000) :
    Sv (n + 1) (As ++ (doR st x).1.ans) (caR ca x (doR st x).2) (askF f x (doR st x).2) (if x.kind = 0 ∧ (doR st x).2.err = 0 then c + 1 else c) (taken (doR st x).1) := by
  have h1 := h.sx.doR h.gd.t0 x
  rw [doR_ans h.ans, List.append_nil] at h1
  have hc := h.c
  refine ⟨(h.gd.doR x hd).taken, rfl, h1.taken, h.cl.doR x, h.fo.doR st x, fun t ht => ?_, ?_⟩
  · show 1 ≤ t ∧ t ≤ (Ytmnlojbfdpjjdaa.doR st x).1.tks
    have h0 := h.gd.t0
    unfold askF at ht
    rcases doR_ws st x with ⟨a, b, e, d, _⟩ | ⟨a, d, _⟩
    · rw [if_pos ⟨a, b⟩, e] at ht
      rw [d]
      unfold upd at ht
      split at ht
      · omega
      · have := h.dom t ht; omega
    · rw [if_neg a] at ht
      rw [d]
      exact h.dom t ht
  · show _ = (Ytmnlojbfdpjjdaa.doR st x).1.tks
    rcases doR_ws st x with ⟨a, b, _, d, _⟩ | ⟨a, d, _⟩
    · rw [if_pos ⟨a, b⟩, d]; omega
    · rw [if_neg a, d]; exact hc
section
variable {n : Nat} {As : List An} {ca : List Int} {f : Int → Option Op} {c : Nat} {st : St} (h : Sv n As ca f c st)
include h
theorem Sv.tl_eq : tl As st = As.map An.tk ++ st.ws.map Wt.tk := by unfold tl; rw [h.ans, List.append_nil]
theorem Sv.len : ca.length + As.length + st.ws.length = c := by
  have := h.sx.num
  rw [h.tl_eq, ← h.c] at this
  simp only [List.length_append, List.length_map] at this
  omega
/-- behind a call: what it asked is new; what it cancelled was not gone -/
theorem Sv.asks (x : Ac) (hx : x.kind = 0 ∧ (Ytmnlojbfdpjjdaa.doR st x).2.err = 0) : (Ytmnlojbfdpjjdaa.doR st x).2.num = (c : Int) + 1 ∧ f ((c : Int) + 1) = none := by
  rcases doR_ws st x with ⟨_, _, e, _, _⟩ | ⟨a, _⟩
  · refine ⟨by rw [e, h.c], ?_⟩
    cases hf : f ((c : Int) + 1) with
    | none => rfl
    | some y =>
      have := h.dom ((c : Int) + 1) (by rw [hf]; rfl)
      have := h.c
      omega
  · exact absurd hx a
theorem Sv.drops (x : Ac) (hd : x.op.data.size ≤ 9000) (hx : x.kind = 2 ∧ (Ytmnlojbfdpjjdaa.doR st x).2.err = 0) : goneF ca x.tk = none ∧ 1 ≤ x.tk ∧ x.tk ≤ 1000000 + n := by
  have h2 := h.doR x hd
  have hca : caR ca x (Ytmnlojbfdpjjdaa.doR st x).2 = ca ++ [x.tk] := by unfold caR; rw [if_pos hx]
  have hs := h2.sx
  rw [hca] at hs
  have hnd := (List.nodup_append.1 hs.nd).1
  have hr := hs.rng x.tk (by simp)
  have ht := h2.gd.t1
  refine ⟨?_, hr.1, by omega⟩
  unfold goneF
  rw [if_neg]
  intro hm
  exact (List.nodup_append.1 hnd).2.2 _ hm _ (List.mem_singleton.2 rfl) rfl
end
/-- all tickets: cancelled, answered, waiting -/
def Lall (As : List An) (ca : List Int) (st : St) : List Int := ca ++ (As.map An.tk ++ st.ws.map Wt.tk)
theorem Lall_an (As : List An) (ca : List Int) (st : St) {j : Nat} (hj : j < As.length) : (Lall As ca st).getD (ca.length + j) 0 = (As.getD j ⟨0, 0, ⟨#[]⟩, 0⟩).tk := by
  unfold Lall
  simp only [List.getD_eq_getElem?_getD]
  rw [List.getElem?_append_right (by omega), List.getElem?_append_left (by simp; omega), List.getElem?_map]
  rw [show ca.length + j - ca.length = j by omega, List.getElem?_eq_getElem hj]
  rfl
theorem Lall_wt (As : List An) (ca : List Int) (st : St) {j : Nat} (hj : j < st.ws.length) : (Lall As ca st).getD (ca.length + As.length + j) 0 = (st.ws.getD j wt0).tk := by
  unfold Lall
  simp only [List.getD_eq_getElem?_getD]
  rw [List.getElem?_append_right (by omega), List.getElem?_append_right (by simp; omega), List.getElem?_map]
  rw [show ca.length + As.length + j - ca.length - (As.map An.tk).length = j by simp; omega, List.getElem?_eq_getElem hj]
  rfl
theorem Lall_0 (As : List An) (ca : List Int) (st : St) : (Lall As ca st).take ca.length = ca := by unfold Lall; simp
theorem Lall_len (As : List An) (ca : List Int) (st : St) : (Lall As ca st).length = ca.length + As.length + st.ws.length := by unfold Lall; simp; omega
/-- the last answered ticket of a key -/
def lastF (f : Int → Option Op) (As : List An) (p : Bool × Bool) : Option Int := lastK f As (b2 p.1) (b2 p.2)
def keyP (x : Op) : Bool × Bool := (x.kind == 1, x.fin == 1)
theorem b2_of {a : Int} (h : a = 0 ∨ a = 1) : b2 (a == 1) = a := by rcases h with rfl | rfl <;> rfl
theorem b2_inj {x y : Bool} (h : b2 x = b2 y) : x = y := by cases x <;> cases y <;> first | rfl | cases h
def anZ : An := ⟨0, 0, ⟨#[]⟩, 0⟩
theorem lastF_nil (f : Int → Option Op) : lastF f [] = fun _ => none := rfl
theorem lastF_skip {f : Int → Option Op} {As : List An} {a : An} {x : Op} (hf : f a.tk = some x) (he : emptyB x = true) : lastF f (As ++ [a]) = lastF f As := by
  funext p
  unfold lastF
  rw [lastK_snoc, if_neg]
  unfold keyB
  rw [hf]
  simp [he]
theorem lastF_put {f : Int → Option Op} {As : List An} {a : An} {x : Op} (hf : f a.tk = some x) (hx : OpIn x) (he : emptyB x = false) : lastF f (As ++ [a]) = upd (lastF f As) (keyP x) a.tk := by
  funext p
  unfold lastF upd
  rw [lastK_snoc]
  obtain ⟨p1, p2⟩ := p
  have hk : keyB f (b2 p1) (b2 p2) a.tk = decide ((p1, p2) = keyP x) := by
    unfold keyB
    rw [hf]
    simp only [he, Bool.not_false, Bool.true_and]
    rw [Bool.eq_iff_iff, Bool.and_eq_true, beq_iff_eq, beq_iff_eq, decide_eq_true_eq, Prod.mk.injEq]
    rw [← b2_of hx.1, ← b2_of hx.2]
    exact ⟨fun hh => ⟨(b2_inj hh.1).symm, (b2_inj hh.2).symm⟩, fun hh => ⟨congrArg b2 hh.1.symm, congrArg b2 hh.2.symm⟩⟩
  simp only [hk, decide_eq_true_eq]
/-- what the second loop meets at answer j -/
theorem Sv.meets {n : Nat} {As : List An} {ca : List Int} {f : Int → Option Op} {c : Nat} {st : St} (h : Sv n As ca f c st) {j : Nat} (hj : j < As.length) {a : An} (ha : a = As.getD j anZ) :
    ∃ x, f a.tk = some x ∧ OpIn x ∧ 1 ≤ a.tk ∧ a.tk ≤ c ∧ (emptyB x = false → (lastF f (As.take j) (keyP x)).getD 0 < a.tk) := by
  have e : As.getD j anZ = As[j] := by rw [List.getD_eq_getElem?_getD, List.getElem?_eq_getElem hj]; rfl
  rw [e] at ha
  have hmem : a.tk ∈ ca ++ tl As st := by
    rw [h.tl_eq, ha]
    exact List.mem_append_right _ (List.mem_append_left _ (List.mem_map_of_mem (List.getElem_mem hj)))
  obtain ⟨r1, r2⟩ := h.sx.rng _ hmem
  have hs := h.sx.dom a.tk r1 r2
  obtain ⟨x, hx⟩ := Option.isSome_iff_exists.1 hs
  have hin := h.fo _ _ hx
  refine ⟨x, hx, hin, r1, by rw [h.c]; exact r2, fun he => ?_⟩
  unfold lastF keyP
  simp only
  rw [b2_of hin.1, b2_of hin.2]
  cases hl : lastK f (As.take j) x.kind x.fin with
  | none => show (0 : Int) < _; omega
  | some t =>
    show t < a.tk
    unfold lastK at hl
    have hm := List.mem_of_getLast? hl
    have ho := h.sx.ord x.kind x.fin
    have hsplit : As.map An.tk = (As.take j).map An.tk ++ a.tk :: (As.drop (j + 1)).map An.tk := by
      rw [ha, ← List.map_cons, ← List.map_append]
      congr 1
      rw [← List.drop_eq_getElem_cons hj, List.take_append_drop]
    rw [h.tl_eq, hsplit, List.filter_append, List.filter_append, List.filter_cons] at ho
    have hka : keyB f x.kind x.fin a.tk = true := by unfold keyB; rw [hx]; simp [he]
    rw [if_pos hka, List.append_assoc] at ho
    exact (List.pairwise_append.1 ho).2.2 t hm _ (by simp)
theorem Sv.waits {n : Nat} {As : List An} {ca : List Int} {f : Int → Option Op} {c : Nat} {st : St} (h : Sv n As ca f c st) {j : Nat} (hj : j < st.ws.length) {y : Wt} (hy : y = st.ws.getD j wt0) :
    f y.tk = some y.op ∧ OpIn y.op ∧ emptyB y.op = false ∧ 1 ≤ y.tk ∧ y.tk ≤ c := by
  have hm : y ∈ st.ws := by rw [hy]; exact getD_mem hj
  have hf := h.sx.tk y hm
  obtain ⟨r1, r2⟩ := h.sx.rng y.tk (by rw [h.tl_eq]; exact List.mem_append_right _ (List.mem_append_right _ (List.mem_map_of_mem hm)))
  exact ⟨hf, h.fo _ _ hf, h.sx.ne y hm, r1, by rw [h.c]; exact r2⟩
theorem Sv.nodup {n : Nat} {As : List An} {ca : List Int} {f : Int → Option Op} {c : Nat} {st : St} (h : Sv n As ca f c st) : (Lall As ca st).Nodup := by
  have := h.sx.nd
  rw [h.tl_eq] at this
  exact this
end Go.Proofs.Ytmnlojbfdpjjdaa
