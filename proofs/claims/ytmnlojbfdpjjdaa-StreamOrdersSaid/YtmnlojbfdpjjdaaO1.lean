/- StreamOrders, plainly: what was read at an end and what lies there is what was written at the other one. -/
import Derived.Test.YtmnlojbfdpjjdaaP1
namespace Go.Proofs.Ytmnlojbfdpjjdaa
def bl (b : ByteArray) : List UInt8 := b.data.toList
def bys (l : List ByteArray) : List UInt8 := (l.map bl).flatten
theorem bys_append (a b : List ByteArray) : bys (a ++ b) = bys a ++ bys b := by unfold bys; simp
theorem bys_cons (a : ByteArray) (b : List ByteArray) : bys (a :: b) = bl a ++ bys b := rfl
theorem bl_nil : bl ⟨#[]⟩ = [] := rfl
theorem bl_len (b : ByteArray) : (bl b).length = b.size := by unfold bl; simp
theorem bl_zero {b : ByteArray} (h : b.size = 0) : bl b = [] := List.eq_nil_of_length_eq_zero (by rw [bl_len]; exact h)
theorem bl_cut (b : ByteArray) (n : Nat) (h : n ≤ b.size) : bl (b.extract 0 n) ++ bl (b.extract n b.size) = bl b := by
  unfold bl
  rw [ByteArray.data_extract, ByteArray.data_extract, ← Array.toList_append, Array.extract_append_extract]
  rw [Nat.min_eq_left (Nat.zero_le _), Nat.max_eq_right h]
  exact congrArg Array.toList Array.extract_size
/-- what an operation that gave d has read at an end; what it has written there -/
def rdL (x : Op) (d : ByteArray) (e : Int) : List UInt8 := if x.kind = 0 ∧ x.fin = e then bl d else []
def wrL (x : Op) (e : Int) : List UInt8 := if x.kind = 1 ∧ x.fin = e then bl x.data else []
theorem wrL_len (x : Op) : (wrL x 0).length + (wrL x 1).length ≤ x.data.size := by
  unfold wrL
  by_cases h0 : x.kind = 1 ∧ x.fin = 0
  · rw [if_pos h0, if_neg (fun h => by omega), bl_len]; simp
  · rw [if_neg h0]
    split
    · rw [bl_len]; simp
    · simp
theorem qAt_of {st : St} {x : Op} (hx : OpIn x) : qOf st x = qAt st (if x.kind = 0 then x.fin else 1 - x.fin) := by
  unfold qOf qAt
  obtain ⟨k, f, c, d⟩ := x
  rcases hx with ⟨rfl | rfl, rfl | rfl⟩ <;> rfl
theorem qAt_set {st : St} {x : Op} (hx : OpIn x) (q : List ByteArray) {e : Int} (he : e = 0 ∨ e = 1) : qAt (setQ st x q) e = if e = (if x.kind = 0 then x.fin else 1 - x.fin) then q else qAt st e := by
  obtain ⟨k, f, c, d⟩ := x
  rcases hx with ⟨rfl | rfl, rfl | rfl⟩ <;> rcases he with rfl | rfl <;> rfl
theorem doS_bal {st : St} {x : Op} (hx : OpIn x) (hn : x.kind = 0 → 0 ≤ x.count) (hr : emptyB x = true ∨ readyB st x = true) {e : Int} (he : e = 0 ∨ e = 1) :
    rdL x (doS st x).2.2 e ++ bys (qAt (doS st x).1 e) = bys (qAt st e) ++ wrL x (1 - e) := by
  have hrd0 : rdL x ⟨#[]⟩ e = [] := by unfold rdL; split <;> rfl
  unfold doS
  split
  · next hem =>
    simp only
    rw [hrd0, List.nil_append]
    have : wrL x (1 - e) = [] := by
      unfold wrL
      split
      · next h =>
        unfold emptyB at hem
        rw [if_neg (by rw [h.1]; decide)] at hem
        exact bl_zero (by simpa using hem)
      · rfl
    rw [this, List.append_nil]
  · next hem =>
    have hem' : emptyB x = false := by simpa using hem
    split
    · next hk =>
      simp only
      have e1 : (if x.kind = 0 then x.fin else 1 - x.fin) = 1 - x.fin := if_neg (by rw [hk]; decide)
      rw [hrd0, List.nil_append, qAt_set hx _ he, qAt_of hx, e1]
      unfold wrL
      by_cases h : e = 1 - x.fin
      · subst h
        rw [if_pos rfl, if_pos ⟨hk, by omega⟩, bys_append, bys_cons]
        simp [bys]
      · rw [if_neg h, if_neg (fun hh => h (by omega)), List.append_nil]
    · next hk =>
      have hk0 : x.kind = 0 := by rcases hx.1 with h | h; exact h; exact absurd h hk
      have hw : wrL x (1 - e) = [] := by unfold wrL; rw [if_neg (fun h => hk h.1)]
      have hq := qAt_of (st := st) hx
      rw [if_pos hk0] at hq
      cases hqq : qOf st x with
      | nil =>
        rcases hr with h | h
        · rw [h] at hem'; cases hem'
        · unfold readyB at h
          rw [if_pos hk0, hqq] at h
          simp at h
      | cons b r =>
        simp only
        rw [hqq] at hq
        rw [hw, List.append_nil]
        have hcn := hn hk0
        split
        · next hlt =>
          simp only
          rw [qAt_set hx _ he, if_pos hk0]
          unfold rdL
          by_cases h : e = x.fin
          · rw [if_pos h, if_pos ⟨hk0, h.symm⟩, h, ← hq, bys_cons, bys_cons, ← List.append_assoc, bl_cut _ _ (by omega)]
          · rw [if_neg h, if_neg (fun hh => h hh.2.symm), List.nil_append]
        · simp only
          rw [qAt_set hx _ he, if_pos hk0]
          unfold rdL
          by_cases h : e = x.fin
          · rw [if_pos h, if_pos ⟨hk0, h.symm⟩, h, ← hq, bys_cons]
          · rw [if_neg h, if_neg (fun hh => h hh.2.symm), List.nil_append]
/-- an answer is as its operation asks -/
def AnGood (f : Int → Option Op) (B : Nat) (a : An) : Prop := ∃ x, f a.tk = some x ∧ OpIn x ∧ a.err = 0 ∧ (x.kind = 1 → a.cnt = x.data.size) ∧ (x.kind = 0 → (a.data.size : Int) ≤ x.count) ∧ 0 ≤ a.tk ∧ a.tk ≤ B
theorem doS_good {st : St} {x : Op} (hn : x.kind = 0 → 0 ≤ x.count) : (x.kind = 1 → (doS st x).2.1 = x.data.size) ∧ (x.kind = 0 → ((doS st x).2.2.size : Int) ≤ x.count) := by
  unfold doS
  split
  · next hem =>
    refine ⟨fun hk => ?_, fun hk => by have := hn hk; exact this⟩
    unfold emptyB at hem
    rw [if_neg (by rw [hk]; decide)] at hem
    have : x.data.size = 0 := by simpa using hem
    simp only [this]; rfl
  · split
    · next hk => exact ⟨fun _ => rfl, fun h => by rw [h] at hk; cases hk⟩
    · next hk =>
      refine ⟨fun h => absurd h hk, fun h0 => ?_⟩
      have hcn := hn h0
      split
      · exact hcn
      · split
        · simp only [ByteArray.size_extract]; omega
        · simp only; omega
def rdA (f : Int → Option Op) (e : Int) (a : An) : List UInt8 := match f a.tk with
  | some x => rdL x a.data e
  | none => []
def wrA (f : Int → Option Op) (e : Int) (a : An) : List UInt8 := match f a.tk with
  | some x => wrL x e
  | none => []
def Ra (f : Int → Option Op) (l : List An) (e : Int) : List UInt8 := (l.map (rdA f e)).flatten
def Wa (f : Int → Option Op) (l : List An) (e : Int) : List UInt8 := (l.map (wrA f e)).flatten
theorem Ra_snoc (f : Int → Option Op) (l : List An) (a : An) (e : Int) : Ra f (l ++ [a]) e = Ra f l e ++ rdA f e a := by unfold Ra; simp
theorem Wa_snoc (f : Int → Option Op) (l : List An) (a : An) (e : Int) : Wa f (l ++ [a]) e = Wa f l e ++ wrA f e a := by unfold Wa; simp
/-- amid a call: G what was read, P what was written, both without the answers that lie there -/
structure Ro (f : Int → Option Op) (G P : Int → List UInt8) (B : Nat) (st : St) : Prop where
  ok : WOk st
  tk : Tk f st
  good : ∀ a ∈ st.ans, AnGood f B a
  rg : ∀ y ∈ st.ws, 0 ≤ y.tk ∧ y.tk ≤ B
  bal : ∀ e, e = 0 ∨ e = 1 → G e ++ Ra f st.ans e ++ bys (qAt st e) = P (1 - e) ++ Wa f st.ans (1 - e)
  sz : (P 0).length + (P 1).length + ((Wa f st.ans 0).length + (Wa f st.ans 1).length) + sizes (st.ws.map (·.op.data)) ≤ B
theorem ready_without {st : St} (i : Nat) (x : Op) : readyB (without st i) x = readyB st x := rfl
/-- one operation is done and answered -/
theorem Ro.did {f : Int → Option Op} {G P : Int → List UInt8} {B : Nat} {st : St} {x : Op} {t : Int} (hok : WOk st) (htk : Tk f st) (hg : ∀ a ∈ st.ans, AnGood f B a) (hrg : ∀ y ∈ st.ws, 0 ≤ y.tk ∧ y.tk ≤ B) (ht : 0 ≤ t ∧ t ≤ B)
    (hb : ∀ e, e = 0 ∨ e = 1 → G e ++ Ra f st.ans e ++ bys (qAt st e) = P (1 - e) ++ Wa f st.ans (1 - e))
    (hs : (P 0).length + (P 1).length + ((Wa f st.ans 0).length + (Wa f st.ans 1).length) + sizes (st.ws.map (·.op.data)) + x.data.size ≤ B)
    (hf : f t = some x) (hx : OpIn x) (hn : x.kind = 0 → 0 ≤ x.count) (hr : emptyB x = true ∨ readyB st x = true) :
    Ro f G P B (answered (doS st x).1 ⟨t, (doS st x).2.1, (doS st x).2.2, 0⟩) := by
  obtain ⟨g1, g2, _⟩ := doS_grows st x
  have hra : ∀ e, rdA f e ⟨t, (doS st x).2.1, (doS st x).2.2, 0⟩ = rdL x (doS st x).2.2 e := fun e => by unfold rdA; rw [hf]
  have hwa : ∀ e, wrA f e ⟨t, (doS st x).2.1, (doS st x).2.2, 0⟩ = wrL x e := fun e => by unfold wrA; rw [hf]
  have hans : (answered (doS st x).1 ⟨t, (doS st x).2.1, (doS st x).2.2, 0⟩).ans = st.ans ++ [⟨t, (doS st x).2.1, (doS st x).2.2, 0⟩] := by
    show (doS st x).1.ans ++ _ = _
    rw [g2]
  have hws : (answered (doS st x).1 ⟨t, (doS st x).2.1, (doS st x).2.2, 0⟩).ws = st.ws := g1
  have hq : ∀ e, qAt (answered (doS st x).1 ⟨t, (doS st x).2.1, (doS st x).2.2, 0⟩) e = qAt (doS st x).1 e := fun _ => rfl
  refine ⟨fun y hy => hok y (hws ▸ hy), fun y hy => htk y (hws ▸ hy), fun a ha => ?_, fun y hy => hrg y (hws ▸ hy), fun e he => ?_, ?_⟩
  · rw [hans] at ha
    rcases List.mem_append.1 ha with ha | ha
    · exact hg a ha
    · rw [List.mem_singleton] at ha
      subst ha
      obtain ⟨c1, c2⟩ := doS_good (st := st) hn
      exact ⟨x, hf, hx, rfl, c1, c2, ht⟩
  · rw [hans, hq, Ra_snoc, Wa_snoc, hra, hwa, ← List.append_assoc, List.append_assoc, doS_bal hx hn hr he, ← List.append_assoc, hb e he, List.append_assoc]
  · rw [hans, hws, Wa_snoc, Wa_snoc, hwa, hwa, List.length_append, List.length_append]
    have := wrL_len x
    omega
theorem sizes_erase' (l : List Wt) (i : Nat) (hi : i < l.length) : sizes ((l.eraseIdx i).map (·.op.data)) + (l.getD i wt0).op.data.size ≤ sizes (l.map (·.op.data)) := by
  obtain ⟨h1, h2⟩ := split_at hi
  rw [h2]
  conv => rhs; rw [h1]
  simp only [List.map_append, List.map_cons, sizes_append, sizes]
  omega
theorem Ro.step {f : Int → Option Op} {G P : Int → List UInt8} {B : Nat} {st : St} (h : Ro f G P B st) {i : Nat} (hi : nextS st = some i) : Ro f G P B (stepS st i) := by
  have hl := next_lt hi
  have hm := getD_mem hl
  obtain ⟨o1, o2, _⟩ := h.ok _ hm
  have hsub : ∀ y ∈ (without st i).ws, y ∈ st.ws := fun y hy => (List.eraseIdx_sublist _ _).subset hy
  refine Ro.did (st := without st i) (fun y hy => h.ok y (hsub y hy)) (fun y hy => h.tk y (hsub y hy)) h.good (fun y hy => h.rg y (hsub y hy)) (h.rg _ hm) h.bal ?_ (h.tk _ hm) o1 o2 (.inr (by rw [ready_without]; exact ready_of_next hi))
  have := h.sz
  have := sizes_erase' st.ws i hl
  show (P 0).length + (P 1).length + ((Wa f st.ans 0).length + (Wa f st.ans 1).length) + sizes ((st.ws.eraseIdx i).map (·.op.data)) + (st.ws.getD i wt0).op.data.size ≤ B
  omega
theorem Ro.settle {f : Int → Option Op} {G P : Int → List UInt8} {B : Nat} {st : St} (h : Ro f G P B st) : Ro f G P B (settle st) := settle_ind (fun _ _ h hi => h.step hi) st h
/-- what holds at the head of the law's loop -/
structure Ov (n : Nat) (lim : Int) (f : Int → Option Op) (G P : Int → List UInt8) (st : St) : Prop where
  gd : Gd n st
  bi : Bi lim st
  nx : nextS st = none
  ans : st.ans = []
  tk : Tk f st
  bal : ∀ e, e = 0 ∨ e = 1 → G e ++ bys (qAt st e) = P (1 - e)
  sz : (P 0).length + (P 1).length + sizes (st.ws.map (·.op.data)) ≤ 9000 * n
def addG (G : Int → List UInt8) (x : Ac) (r : Re) (e : Int) : List UInt8 := if (x.kind = 1 ∧ r.err = 0 ∧ x.op.kind = 0) ∧ x.op.fin = e then G e ++ bl r.txt else G e
def addP (P : Int → List UInt8) (x : Ac) (r : Re) (e : Int) : List UInt8 := if (x.kind = 1 ∧ r.err = 0 ∧ x.op.kind ≠ 0) ∧ x.op.fin = e then P e ++ bl x.op.data else P e
theorem addG_not {G : Int → List UInt8} {x : Ac} {r : Re} (h : ¬ (x.kind = 1 ∧ r.err = 0 ∧ x.op.kind = 0)) : addG G x r = G := by
  funext e; unfold addG; rw [if_neg (fun hh => h hh.1)]
theorem addP_not {P : Int → List UInt8} {x : Ac} {r : Re} (h : ¬ (x.kind = 1 ∧ r.err = 0 ∧ x.op.kind ≠ 0)) : addP P x r = P := by
  funext e; unfold addP; rw [if_neg (fun hh => h hh.1)]
theorem Ov.rg0 {n : Nat} {lim : Int} {f : Int → Option Op} {G P : Int → List UInt8} {st : St} (h : Ov n lim f G P st) : ∀ y ∈ st.ws, 0 ≤ y.tk ∧ y.tk ≤ (9000 * (n + 1) : Nat) := fun y hy => by
  obtain ⟨_, _, _, h1, h2⟩ := h.bi.w y hy
  have := h.gd.t1
  omega
theorem Ov.ro {n : Nat} {lim : Int} {f : Int → Option Op} {G P : Int → List UInt8} {st : St} (h : Ov n lim f G P st) : Ro f G P (9000 * (n + 1)) st :=
  ⟨h.gd.w, h.tk, (fun a ha => by rw [h.ans] at ha; cases ha), h.rg0, fun e he => by rw [h.ans]; simp only [Ra, Wa, List.map_nil, List.flatten_nil, List.append_nil]; exact h.bal e he, (by rw [h.ans]; simp only [Wa, List.map_nil, List.flatten_nil, List.length_nil]; have := h.sz; omega)⟩
theorem Ov.once {n : Nat} {lim : Int} {f : Int → Option Op} {G P : Int → List UInt8} {st : St} (h : Ov n lim f G P st) (x : Op) (hd : x.data.size ≤ 9000) (he : (onceR st x).2.2.2 = 0) :
    OpIn x ∧ Ro f (fun e => G e ++ rdL x (onceR st x).2.2.1 e) (fun e => P e ++ wrL x e) (9000 * (n + 1)) (onceR st x).1 := by
  unfold Ytmnlojbfdpjjdaa.onceR at he ⊢
  split at he
  · next h1 => exact absurd he h1
  next h1 =>
  split at he
  · cases he
  next h2 =>
  rw [if_neg h1, if_neg h2]
  have hc : checkE st x = 0 := by simpa using h1
  obtain ⟨hin, hcn⟩ := checkE_ok hc
  obtain ⟨g1, g2, _⟩ := doS_grows st x
  have hr : emptyB x = true ∨ readyB st x = true := by
    cases hem : emptyB x with
    | true => exact .inl rfl
    | false => exact .inr (waits_ready (by simpa using h2) hem)
  refine ⟨hin, Ro.settle ⟨fun y hy => h.gd.w y (g1 ▸ hy), fun y hy => h.tk y (g1 ▸ hy), fun a ha => ?_, fun y hy => h.rg0 y (g1 ▸ hy), fun e hee => ?_, ?_⟩⟩
  · rw [g2, h.ans] at ha; cases ha
  · rw [g2, h.ans]
    simp only [Ra, Wa, List.map_nil, List.flatten_nil, List.append_nil]
    rw [List.append_assoc, doS_bal hin hcn hr hee, ← List.append_assoc, h.bal e hee]
  · rw [g2, g1, h.ans]
    simp only [Wa, List.map_nil, List.flatten_nil, List.length_nil, List.length_append]
    have := wrL_len x
    have := h.sz
    omega
theorem Ov.doR {n : Nat} {lim : Int} {f : Int → Option Op} {G P : Int → List UInt8} {st : St} (h : Ov n lim f G P st) (x : Ac) (hd : x.op.data.size ≤ 9000) (hk : x.kind ≠ 3 ∧ x.kind ≠ 4 ∧ x.kind ≠ 6 ∧ x.kind ≠ 7) :
    (doR st x).2.ans = [] ∧ (x.kind = 1 ∧ (doR st x).2.err = 0 → (x.op.fin = 0 ∨ x.op.fin = 1)) ∧ Ro (askF f x (doR st x).2) (addG G x (doR st x).2) (addP P x (doR st x).2) (9000 * (n + 1)) (doR st x).1 := by
  obtain ⟨k3, k4, k6, k7⟩ := hk
  by_cases k0 : x.kind = 0
  · have hr : Ytmnlojbfdpjjdaa.doR st x = ((askR st x.op).1, ⟨(askR st x.op).2.1, ⟨#[]⟩, (askR st x.op).2.2, []⟩) := by
      unfold Ytmnlojbfdpjjdaa.doR; rw [if_pos k0]
    have n1 : ∀ p : Prop, ¬ (x.kind = 1 ∧ p) := fun p hh => by rw [k0] at hh; exact absurd hh.1 (by decide)
    rw [hr, addG_not (n1 _), addP_not (n1 _)]
    refine ⟨rfl, fun hh => absurd hh (n1 _), ?_⟩
    unfold askF
    simp only [k0, true_and]
    unfold Ytmnlojbfdpjjdaa.askR
    split
    · next h1 => simp only; first | exact h.ro | (rw [if_neg h1]; exact h.ro)
    next h1 =>
    have hc : checkE st x.op = 0 := by simpa using h1
    obtain ⟨hin, hcn⟩ := checkE_ok hc
    have hold : ∀ y ∈ st.ws, upd f (st.tks + 1) x.op y.tk = some y.op := fun y hy => by
      unfold upd
      obtain ⟨_, _, _, _, h2⟩ := h.bi.w y hy
      rw [if_neg (by omega)]
      exact h.tk y hy
    have hro := h.ro
    split
    · next hw =>
      split
      · simp only; rw [if_neg (by decide)]; exact hro
      · simp only
        rw [if_pos trivial]
        refine Ro.settle ⟨(h.gd.askW x.op hd (opOk_of hd hc)).w, fun y hy => ?_, fun a ha => ?_, fun y hy => ?_, fun e he => ?_, ?_⟩
        · rcases List.mem_append.1 hy with hy | hy
          · exact hold y hy
          · rw [List.mem_singleton] at hy; subst hy; unfold upd; rw [if_pos rfl]
        · have : a ∈ st.ans := ha
          rw [h.ans] at this; cases this
        · have h0 := h.gd.t0
          have h1 := h.gd.t1
          rcases List.mem_append.1 hy with hy | hy
          · exact h.rg0 y hy
          · rw [List.mem_singleton] at hy; subst hy; exact ⟨by simp only; omega, by simp only; omega⟩
        · show G e ++ Ra _ st.ans e ++ bys (qAt st e) = P (1 - e) ++ Wa _ st.ans (1 - e)
          rw [h.ans]; simp only [Ra, Wa, List.map_nil, List.flatten_nil, List.append_nil]; exact h.bal e he
        · show (P 0).length + (P 1).length + ((Wa _ st.ans 0).length + (Wa _ st.ans 1).length) + sizes ((st.ws ++ [(⟨x.op, st.tks + 1⟩ : Wt)]).map (fun y : Wt => y.op.data)) ≤ _
          rw [h.ans]; simp only [Wa, List.map_nil, List.flatten_nil, List.length_nil, List.map_append, List.map_cons, sizes_append, sizes]
          have := h.sz
          omega
    · next hw =>
      simp only
      rw [if_pos trivial]
      refine Ro.settle (Ro.did (st := tick st) h.gd.w (fun y hy => hold y hy) (fun a ha => ?_) h.rg0 (by have := h.gd.t0; have := h.gd.t1; omega) (fun e he => ?_) ?_ (by unfold upd; rw [if_pos rfl]) hin hcn ?_)
      · have : a ∈ st.ans := ha
        rw [h.ans] at this; cases this
      · show G e ++ Ra _ st.ans e ++ bys (qAt st e) = P (1 - e) ++ Wa _ st.ans (1 - e)
        rw [h.ans]; simp only [Ra, Wa, List.map_nil, List.flatten_nil, List.append_nil]; exact h.bal e he
      · show (P 0).length + (P 1).length + ((Wa _ st.ans 0).length + (Wa _ st.ans 1).length) + sizes (st.ws.map (·.op.data)) + x.op.data.size ≤ _
        rw [h.ans]; simp only [Wa, List.map_nil, List.flatten_nil, List.length_nil]
        have := h.sz
        omega
      · cases hem : emptyB x.op with
        | true => exact .inl rfl
        | false => exact .inr (show readyB st x.op = true from waits_ready (by simpa using hw) hem)
  have n0 : ∀ p : Prop, ¬ (x.kind = 0 ∧ p) := fun p hh => k0 hh.1
  have haf : ∀ r, askF f x r = f := fun r => by unfold askF; rw [if_neg (n0 _)]
  rw [haf]
  by_cases k1 : x.kind = 1
  · by_cases o0 : x.op.kind = 0
    · have hr : Ytmnlojbfdpjjdaa.doR st x = ((onceR st ⟨0, x.op.fin, x.op.count, ⟨#[]⟩⟩).1, ⟨0, (onceR st ⟨0, x.op.fin, x.op.count, ⟨#[]⟩⟩).2.2.1, (onceR st ⟨0, x.op.fin, x.op.count, ⟨#[]⟩⟩).2.2.2, []⟩) := by
        unfold Ytmnlojbfdpjjdaa.doR; rw [if_neg k0, if_pos k1, if_pos o0]
      rw [hr, addP_not (fun hh => hh.2.2 o0)]
      by_cases he : (onceR st ⟨0, x.op.fin, x.op.count, ⟨#[]⟩⟩).2.2.2 = 0
      · obtain ⟨h1, h2⟩ := h.once ⟨0, x.op.fin, x.op.count, ⟨#[]⟩⟩ (show (0 : Nat) ≤ 9000 by omega) he
        refine ⟨rfl, fun _ => h1.2, ?_⟩
        refine ⟨h2.ok, h2.tk, h2.good, h2.rg, fun e hee => ?_, ?_⟩
        · have := h2.bal e hee
          try simp only at this
          have hg : addG G x ⟨0, (onceR st ⟨0, x.op.fin, x.op.count, ⟨#[]⟩⟩).2.2.1, (onceR st ⟨0, x.op.fin, x.op.count, ⟨#[]⟩⟩).2.2.2, []⟩ e = G e ++ rdL ⟨0, x.op.fin, x.op.count, ⟨#[]⟩⟩ (onceR st ⟨0, x.op.fin, x.op.count, ⟨#[]⟩⟩).2.2.1 e := by
            unfold addG rdL
            by_cases hf : x.op.fin = e
            · rw [if_pos ⟨⟨k1, he, o0⟩, hf⟩, if_pos ⟨rfl, hf⟩]
            · rw [if_neg (fun hh => hf hh.2), if_neg (fun hh => hf hh.2), List.append_nil]
          rw [hg, this]
          congr 1
          unfold wrL
          rw [if_neg (fun hh => absurd (show (0 : Int) = 1 from hh.1) (by decide)), List.append_nil]
        · have := h2.sz
          simp only [List.length_append] at this ⊢
          omega
      · rw [addG_not (fun hh => he hh.2.1)]
        refine ⟨rfl, fun hh => absurd hh.2 he, ?_⟩
        have : (onceR st ⟨0, x.op.fin, x.op.count, ⟨#[]⟩⟩).1 = st := by
          unfold Ytmnlojbfdpjjdaa.onceR at he ⊢
          split at he
          · next h1 => rw [if_pos h1]
          next h1 =>
          split at he
          · next h2 => rw [if_neg h1, if_pos h2]
          · exact absurd rfl he
        simp only
        rw [this]
        exact h.ro
    · have hr : Ytmnlojbfdpjjdaa.doR st x = ((onceR st ⟨1, x.op.fin, 0, x.op.data⟩).1, ⟨(onceR st ⟨1, x.op.fin, 0, x.op.data⟩).2.1, ⟨#[]⟩, (onceR st ⟨1, x.op.fin, 0, x.op.data⟩).2.2.2, []⟩) := by
        unfold Ytmnlojbfdpjjdaa.doR; rw [if_neg k0, if_pos k1, if_neg o0]
      rw [hr, addG_not (fun hh => o0 hh.2.2)]
      by_cases he : (onceR st ⟨1, x.op.fin, 0, x.op.data⟩).2.2.2 = 0
      · obtain ⟨h1, h2⟩ := h.once ⟨1, x.op.fin, 0, x.op.data⟩ hd he
        refine ⟨rfl, fun _ => h1.2, ?_⟩
        have hp : ∀ e, addP P x ⟨(onceR st ⟨1, x.op.fin, 0, x.op.data⟩).2.1, ⟨#[]⟩, (onceR st ⟨1, x.op.fin, 0, x.op.data⟩).2.2.2, []⟩ e = P e ++ wrL ⟨1, x.op.fin, 0, x.op.data⟩ e := fun e => by
          unfold addP wrL
          by_cases hf : x.op.fin = e
          · rw [if_pos ⟨⟨k1, he, o0⟩, hf⟩, if_pos ⟨rfl, hf⟩]
          · rw [if_neg (fun hh => hf hh.2), if_neg (fun hh => hf hh.2), List.append_nil]
        refine ⟨h2.ok, h2.tk, h2.good, h2.rg, fun e hee => ?_, ?_⟩
        · have := h2.bal e hee
          try simp only at this
          rw [hp, ← this]
          congr 2
          unfold rdL
          rw [if_neg (fun hh => absurd (show (1 : Int) = 0 from hh.1) (by decide)), List.append_nil]
        · have := h2.sz
          rw [hp, hp]
          exact this
      · rw [addP_not (fun hh => he hh.2.1)]
        refine ⟨rfl, fun hh => absurd hh.2 he, ?_⟩
        have : (onceR st ⟨1, x.op.fin, 0, x.op.data⟩).1 = st := by
          unfold Ytmnlojbfdpjjdaa.onceR at he ⊢
          split at he
          · next h1 => rw [if_pos h1]
          next h1 =>
          split at he
          · next h2 => rw [if_neg h1, if_pos h2]
          · exact absurd rfl he
        simp only
        rw [this]
        exact h.ro
  have n1 : ∀ p : Prop, ¬ (x.kind = 1 ∧ p) := fun p hh => k1 hh.1
  rw [addG_not (n1 _), addP_not (n1 _)]
  by_cases k2 : x.kind = 2
  · have hr : Ytmnlojbfdpjjdaa.doR st x = ((cancelR st x.tk).1, ⟨0, ⟨#[]⟩, (cancelR st x.tk).2, []⟩) := by
      unfold Ytmnlojbfdpjjdaa.doR; rw [if_neg k0, if_neg k1, if_pos k2]
    rw [hr]
    refine ⟨rfl, fun hh => absurd hh (n1 _), ?_⟩
    unfold cancelR
    split
    · exact h.ro
    · have hro := h.ro
      refine Ro.settle ⟨fun y hy => hro.ok y (List.mem_filter.1 hy).1, fun y hy => hro.tk y (List.mem_filter.1 hy).1, hro.good, fun y hy => hro.rg y (List.mem_filter.1 hy).1, hro.bal, ?_⟩
      have h1 := hro.sz
      have h2 := sizes_sub (List.Sublist.map (·.op.data) (List.filter_sublist (p := fun y => !tkB x.tk y) (l := st.ws)))
      show (P 0).length + (P 1).length + ((Wa f st.ans 0).length + (Wa f st.ans 1).length) + sizes ((st.ws.filter fun y => !tkB x.tk y).map (·.op.data)) ≤ _
      omega
  by_cases k5 : x.kind = 5
  · have hr : Ytmnlojbfdpjjdaa.doR st x = (Ytmnlojbfdpjjdaa.taken st, ⟨0, ⟨#[]⟩, 0, st.ans⟩) := by
      unfold Ytmnlojbfdpjjdaa.doR; simp only [k5, Int.reduceEq, if_false, if_true]
    rw [hr]
    refine ⟨h.ans, fun hh => absurd hh (n1 _), ?_⟩
    have e : Ytmnlojbfdpjjdaa.taken st = st := by
      have := h.ans
      obtain ⟨q0, q1, c0, c1, l, t, ws, an⟩ := st
      simp only at this
      subst this
      rfl
    simp only
    rw [e]
    exact h.ro
  · have hr : Ytmnlojbfdpjjdaa.doR st x = (st, ⟨0, ⟨#[]⟩, 0, []⟩) := by
      unfold Ytmnlojbfdpjjdaa.doR; rw [if_neg k0, if_neg k1, if_neg k2, if_neg k3, if_neg k4, if_neg k5, if_neg k6, if_neg k7]
    rw [hr]
    exact ⟨rfl, fun hh => absurd hh (n1 _), h.ro⟩
/-- behind the call and its answers -/
theorem Ov.next {n : Nat} {lim : Int} {f : Int → Option Op} {G P : Int → List UInt8} {st : St} (h : Ov n lim f G P st) (hl : 1 ≤ lim) (x : Ac) (hd : x.op.data.size ≤ 9000) (hk : x.kind ≠ 3 ∧ x.kind ≠ 4 ∧ x.kind ≠ 6 ∧ x.kind ≠ 7) :
    Ov (n + 1) lim (Ytmnlojbfdpjjdaa.askF f x (Ytmnlojbfdpjjdaa.doR st x).2) (fun e => addG G x (Ytmnlojbfdpjjdaa.doR st x).2 e ++ Ra (Ytmnlojbfdpjjdaa.askF f x (Ytmnlojbfdpjjdaa.doR st x).2) (Ytmnlojbfdpjjdaa.doR st x).1.ans e) (fun e => addP P x (Ytmnlojbfdpjjdaa.doR st x).2 e ++ Wa (Ytmnlojbfdpjjdaa.askF f x (Ytmnlojbfdpjjdaa.doR st x).2) (Ytmnlojbfdpjjdaa.doR st x).1.ans e) (Ytmnlojbfdpjjdaa.taken (Ytmnlojbfdpjjdaa.doR st x).1) := by
  obtain ⟨_, _, hro⟩ := h.doR x hd hk
  obtain ⟨hb, hn⟩ := h.bi.doR hl h.gd.t0 h.nx x hd
  refine ⟨(h.gd.doR x hd).taken, ⟨hb.lim, hb.b0, hb.b1, hb.z0, hb.z1, hb.w, hb.n⟩, hn, rfl, hro.tk, hro.bal, ?_⟩
  have := hro.sz
  simp only [List.length_append]
  show _ + sizes ((Ytmnlojbfdpjjdaa.doR st x).1.ws.map (·.op.data)) ≤ _
  omega
end Go.Proofs.Ytmnlojbfdpjjdaa
