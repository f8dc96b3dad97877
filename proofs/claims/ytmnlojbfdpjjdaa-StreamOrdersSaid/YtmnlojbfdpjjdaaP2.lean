/- StreamServes, plainly: each call keeps what holds of the tickets. -/
import Derived.Test.YtmnlojbfdpjjdaaP1
namespace Go.Proofs.Ytmnlojbfdpjjdaa
/-- of the same answers and the same who wait -/
theorem Sx.same {P : List An} {ca : List Int} {f : Int → Option Op} {st st' : St} (h : Sx P ca f st) (ha : st'.ans = st.ans) (hw : st'.ws = st.ws) (ht : st'.tks = st.tks) : Sx P ca f st' := by
  have e : tl P st' = tl P st := by unfold tl; rw [ha, hw]
  exact ⟨by rw [e]; exact h.nd, by rw [e, ht]; exact h.rng, by rw [e, ht]; exact h.num, by rw [ht]; exact h.dom, by rw [e]; exact h.ord, fun y hy => h.tk y (hw ▸ hy), fun y hy => h.ne y (hw ▸ hy)⟩
theorem Sx.taken {P : List An} {ca : List Int} {f : Int → Option Op} {st : St} (h : Sx P ca f st) : Sx (P ++ st.ans) ca f (taken st) := by
  have e : tl (P ++ st.ans) (Ytmnlojbfdpjjdaa.taken st) = tl P st := by unfold tl Ytmnlojbfdpjjdaa.taken; simp
  exact ⟨by rw [e]; exact h.nd, by rw [e]; exact h.rng, by rw [e]; exact h.num, h.dom, by rw [e]; exact h.ord, h.tk, h.ne⟩
theorem Sx.closeS {P : List An} {ca : List Int} {f : Int → Option Op} {st : St} (h : Sx P ca f st) (a : Int) : Sx P ca f (closeS st a) := by
  have e : tl P (Ytmnlojbfdpjjdaa.closeS st a) = tl P st := by
    unfold tl Ytmnlojbfdpjjdaa.closeS
    simp [List.map_map, Function.comp_def, cutA]
  exact ⟨by rw [e]; exact h.nd, by rw [e]; exact h.rng, by rw [e]; exact h.num, h.dom, by rw [e]; exact h.ord, fun y hy => (by cases hy), fun y hy => (by cases hy)⟩
theorem keepT_split {t : Int} {l : List Wt} (hnd : (l.map Wt.tk).Nodup) (hm : t ∈ l.map Wt.tk) : (t :: (keepT t l).map Wt.tk).Perm (l.map Wt.tk) := by
  have hk : (keepT t l).map Wt.tk = (l.map Wt.tk).filter (fun u => !(u == t)) := by
    unfold keepT
    rw [List.filter_map]
    congr 1
  rw [hk]
  have he : (l.map Wt.tk).filter (fun u => !(u == t)) = (l.map Wt.tk).erase t := by
    rw [hnd.erase_eq_filter t]
    rfl
  rw [he]
  exact (List.perm_cons_erase hm).symm
theorem keepT_mem {t : Int} {l : List Wt} (h : (keepT t l).length ≠ l.length) : t ∈ l.map Wt.tk := by
  by_cases hm : t ∈ l.map Wt.tk
  · exact hm
  · exfalso
    apply h
    unfold keepT
    rw [List.filter_eq_self.2]
    intro y hy
    have : y.tk ≠ t := fun e => hm (e ▸ List.mem_map_of_mem hy)
    simpa [tkB] using this
theorem Sx.dropT {P : List An} {ca : List Int} {f : Int → Option Op} {st : St} (h : Sx P ca f st) {t : Int} (ht : (keepT t st.ws).length ≠ st.ws.length) : Sx P (ca ++ [t]) f (dropT st t) := by
  have hnd2 : (st.ws.map Wt.tk).Nodup := (List.nodup_append.1 (List.nodup_append.1 h.nd).2.1).2.1
  have hp := keepT_split hnd2 (keepT_mem ht)
  have hperm : ((ca ++ [t]) ++ tl P (Ytmnlojbfdpjjdaa.dropT st t)).Perm (ca ++ tl P st) := by
    unfold tl Ytmnlojbfdpjjdaa.dropT
    rw [List.append_assoc]
    refine List.Perm.append_left _ ?_
    refine List.Perm.trans ?_ (List.Perm.append_left _ hp)
    exact (List.perm_middle (a := t) (l₁ := (P ++ st.ans).map An.tk) (l₂ := (keepT t st.ws).map Wt.tk)).symm
  have hsub : (tl P (Ytmnlojbfdpjjdaa.dropT st t)).Sublist (tl P st) := by
    unfold tl Ytmnlojbfdpjjdaa.dropT
    exact List.Sublist.append_left (List.Sublist.map _ List.filter_sublist) _
  refine ⟨hperm.nodup_iff.2 h.nd, fun u hu => h.rng u (hperm.mem_iff.1 hu), by rw [hperm.length_eq]; exact h.num, h.dom, fun k e => (h.ord k e).sublist (hsub.filter _), fun y hy => h.tk y (List.mem_filter.1 hy).1, fun y hy => h.ne y (List.mem_filter.1 hy).1⟩
theorem keyB_old {f : Int → Option Op} {n : Int} {x : Op} {t : Int} (h : t ≠ n) (k e : Int) : keyB (upd f n x) k e t = keyB f k e t := by
  unfold keyB upd
  rw [if_neg h]
theorem filter_old {f : Int → Option Op} {n : Int} {x : Op} {l : List Int} (h : ∀ t ∈ l, t ≠ n) (k e : Int) : l.filter (keyB (upd f n x) k e) = l.filter (keyB f k e) := List.filter_congr fun t ht => keyB_old (h t ht) k e
theorem Sx.more {P : List An} {ca : List Int} {f : Int → Option Op} {st st' : St} (h : Sx P ca f st) (x : Op) (ht : st'.tks = st.tks + 1) (ht0 : 0 ≤ st.tks)
    (hperm : (tl P st').Perm ((st.tks + 1) :: tl P st)) (hord : ∀ k e, (tl P st').filter (keyB (upd f (st.tks + 1) x) k e) = (tl P st ++ [st.tks + 1]).filter (keyB (upd f (st.tks + 1) x) k e))
    (hws : ∀ y ∈ st'.ws, y ∈ st.ws ∨ (y = ⟨x, st.tks + 1⟩ ∧ emptyB x = false)) : Sx P ca (upd f (st.tks + 1) x) st' := by
  have hold : ∀ t ∈ ca ++ tl P st, t ≠ st.tks + 1 := fun t hh => by have := h.rng t hh; omega
  have hp2 : (ca ++ tl P st').Perm ((st.tks + 1) :: (ca ++ tl P st)) := (List.Perm.append_left _ hperm).trans List.perm_middle
  refine ⟨hp2.nodup_iff.2 (List.nodup_cons.2 ⟨fun hh => hold _ hh rfl, h.nd⟩), fun t hh => ?_, ?_, fun t h1 h2 => ?_, fun k e => ?_, fun y hy => ?_, fun y hy => ?_⟩
  · rw [ht]
    rcases List.mem_cons.1 (hp2.mem_iff.1 hh) with rfl | hh
    · omega
    · have := h.rng t hh; omega
  · rw [hp2.length_eq, ht, List.length_cons]
    have := h.num
    omega
  · unfold upd
    by_cases e : t = st.tks + 1
    · rw [if_pos e]; rfl
    · rw [if_neg e]; exact h.dom t h1 (by omega)
  · rw [hord, List.filter_append, filter_old (fun t hh => hold t (List.mem_append_right _ hh)), List.pairwise_append]
    refine ⟨h.ord k e, (List.pairwise_singleton _ _).sublist List.filter_sublist, fun a ha b hb => ?_⟩
    have hb' : b = st.tks + 1 := by simpa using (List.mem_filter.1 hb).1
    have := h.rng a (List.mem_append_right _ (List.mem_filter.1 ha).1)
    omega
  · unfold upd
    rcases hws y hy with hy | ⟨rfl, _⟩
    · have hm : y.tk ∈ ca ++ tl P st := List.mem_append_right _ (by unfold tl; exact List.mem_append_right _ (List.mem_map_of_mem hy))
      rw [if_neg (hold _ hm)]
      exact h.tk y hy
    · rw [if_pos rfl]
  · rcases hws y hy with hy | ⟨rfl, he⟩
    · exact h.ne y hy
    · exact he
theorem Sx.askW {P : List An} {ca : List Int} {f : Int → Option Op} {st : St} (h : Sx P ca f st) (ht0 : 0 ≤ st.tks) (x : Op) (he : emptyB x = false) : Sx P ca (upd f (st.tks + 1) x) (askW st x) := by
  have e : tl P (Ytmnlojbfdpjjdaa.askW st x) = tl P st ++ [st.tks + 1] := by unfold tl Ytmnlojbfdpjjdaa.askW; simp
  refine h.more x rfl ht0 (by rw [e]; exact List.perm_append_singleton _ _) (fun k e' => by rw [e]) fun y hy => ?_
  rcases List.mem_append.1 hy with hy | hy
  · exact .inl hy
  · exact .inr ⟨by simpa using hy, he⟩
theorem Sx.askD {P : List An} {ca : List Int} {f : Int → Option Op} {st : St} (h : Sx P ca f st) (ht0 : 0 ≤ st.tks) (x : Op) (hx : emptyB x = true ∨ likeN st.ws x = 0) : Sx P ca (upd f (st.tks + 1) x) (askD st x) := by
  obtain ⟨g1, g2, _⟩ := doS_grows (tick st) x
  have hw : (Ytmnlojbfdpjjdaa.askD st x).ws = st.ws := g1
  have ha : (Ytmnlojbfdpjjdaa.askD st x).ans.map An.tk = st.ans.map An.tk ++ [st.tks + 1] := by
    show ((doS (tick st) x).1.ans ++ [_]).map An.tk = _
    rw [g2]; simp [tick]
  have e : tl P (Ytmnlojbfdpjjdaa.askD st x) = (P ++ st.ans).map An.tk ++ ((st.tks + 1) :: st.ws.map Wt.tk) := by
    unfold tl
    rw [hw, List.map_append, ha]
    simp
  refine h.more x (doS_rest (tick st) x).1 ht0 (by rw [e]; exact List.perm_middle) (fun k e' => ?_) fun y hy => .inl (hw ▸ hy)
  have hold : ∀ t ∈ tl P st, t ≠ st.tks + 1 := fun t hh => by have := h.rng t (List.mem_append_right _ hh); omega
  rw [e]
  unfold tl
  rw [List.filter_append, List.filter_cons, List.filter_append, List.filter_append, List.filter_cons, List.filter_nil, List.append_assoc]
  congr 1
  cases hb : keyB (upd f (st.tks + 1) x) k e' (st.tks + 1) with
  | false => simp
  | true =>
    have hnil : (st.ws.map Wt.tk).filter (keyB (upd f (st.tks + 1) x) k e') = [] := by
      rw [List.filter_eq_nil_iff]
      intro t ht
      obtain ⟨y, hy, rfl⟩ := List.mem_map.1 ht
      have hm : y.tk ∈ tl P st := by unfold tl; exact List.mem_append_right _ (List.mem_map_of_mem hy)
      rw [keyB_old (hold _ hm), keyB_of (h.tk y hy) (h.ne y hy)]
      unfold keyB upd at hb
      rw [if_pos rfl] at hb
      simp only [Bool.and_eq_true, Bool.not_eq_true', beq_iff_eq] at hb
      obtain ⟨b1, b2, b3⟩ := hb
      rcases hx with hx | hx
      · rw [b1] at hx; cases hx
      · intro hh
        rw [likeN_cnt, b2, b3] at hx
        unfold cnt at hx
        have : y ∈ st.ws.filter (hitB k e') := List.mem_filter.2 ⟨hy, hh⟩
        rw [List.eq_nil_of_length_eq_zero hx] at this
        cases this
    rw [hnil]
    simp
/-- what was cancelled, behind a call -/
def caR (ca : List Int) (x : Ac) (r : Re) : List Int := if x.kind = 2 ∧ r.err = 0 then ca ++ [x.tk] else ca
theorem Sx.onceR {P : List An} {ca : List Int} {f : Int → Option Op} {st : St} (h : Sx P ca f st) (x : Op) : Sx P ca f (onceR st x).1 := by
  unfold Ytmnlojbfdpjjdaa.onceR
  split
  · exact h
  · split
    · exact h
    · exact (h.same (doS_grows st x).2.1 (doS_grows st x).1 (doS_rest st x).1).settle
theorem Sx.askR {P : List An} {ca : List Int} {f : Int → Option Op} {st : St} (h : Sx P ca f st) (ht0 : 0 ≤ st.tks) (x : Op) : Sx P ca (if (askR st x).2.2 = 0 then upd f (askR st x).2.1 x else f) (askR st x).1 := by
  unfold Ytmnlojbfdpjjdaa.askR
  split
  · next he =>
    have e : ¬ (checkE st x) = 0 := he
    simp only [if_neg e]
    exact h
  · split
    · next hw =>
      split
      · exact h
      · exact (h.askW ht0 x (waits_yes hw)).settle
    · next hw =>
      refine (h.askD ht0 x ?_).settle
      cases he : emptyB x with
      | true => exact .inl rfl
      | false =>
        refine .inr ?_
        have hw' : waitsB st x = false := by simpa using hw
        unfold waitsB at hw'
        simp [he] at hw'
        omega
theorem Sx.doR {P : List An} {ca : List Int} {f : Int → Option Op} {st : St} (h : Sx P ca f st) (ht0 : 0 ≤ st.tks) (x : Ac) : Sx (P ++ (doR st x).2.ans) (caR ca x (doR st x).2) (askF f x (doR st x).2) (doR st x).1 := by
  have fin : ∀ (r : St × Re), r = Ytmnlojbfdpjjdaa.doR st x → r.2.ans = [] → ¬ (x.kind = 0 ∧ r.2.err = 0) → ¬ (x.kind = 2 ∧ r.2.err = 0) → Sx P ca f r.1 → Sx (P ++ (Ytmnlojbfdpjjdaa.doR st x).2.ans) (caR ca x (Ytmnlojbfdpjjdaa.doR st x).2) (askF f x (Ytmnlojbfdpjjdaa.doR st x).2) (Ytmnlojbfdpjjdaa.doR st x).1 := by
    intro r hr h1 h2 h3 h4
    rw [← hr, h1, List.append_nil]
    unfold caR askF
    rw [if_neg h3, if_neg h2]
    exact h4
  by_cases k0 : x.kind = 0
  · have hr : Ytmnlojbfdpjjdaa.doR st x = ((Ytmnlojbfdpjjdaa.askR st x.op).1, ⟨(Ytmnlojbfdpjjdaa.askR st x.op).2.1, ⟨#[]⟩, (Ytmnlojbfdpjjdaa.askR st x.op).2.2, []⟩) := by
      unfold Ytmnlojbfdpjjdaa.doR; rw [if_pos k0]
    have n2 : ∀ p : Prop, ¬ (x.kind = 2 ∧ p) := fun p hh => by rw [k0] at hh; exact absurd hh.1 (by decide)
    have hh := h.askR ht0 x.op
    rw [hr]
    unfold caR askF
    rw [if_neg (n2 _)]
    simp only [List.append_nil]
    by_cases he : (Ytmnlojbfdpjjdaa.askR st x.op).2.2 = 0
    · rw [if_pos he] at hh
      rw [if_pos ⟨k0, he⟩]
      exact hh
    · rw [if_neg he] at hh
      rw [if_neg (fun q => he q.2)]
      exact hh
  have n0 : ∀ p : Prop, ¬ (x.kind = 0 ∧ p) := fun p hh => k0 hh.1
  by_cases k1 : x.kind = 1
  · have n2 : ∀ p : Prop, ¬ (x.kind = 2 ∧ p) := fun p hh => by rw [k1] at hh; exact absurd hh.1 (by decide)
    refine fin _ rfl ?_ (n0 _) (n2 _) ?_
    · unfold Ytmnlojbfdpjjdaa.doR; rw [if_neg k0, if_pos k1]; split <;> rfl
    · unfold Ytmnlojbfdpjjdaa.doR; rw [if_neg k0, if_pos k1]; split
      · exact h.onceR _
      · exact h.onceR _
  by_cases k2 : x.kind = 2
  · have hr : Ytmnlojbfdpjjdaa.doR st x = ((cancelR st x.tk).1, ⟨0, ⟨#[]⟩, (cancelR st x.tk).2, []⟩) := by
      unfold Ytmnlojbfdpjjdaa.doR; rw [if_neg k0, if_neg k1, if_pos k2]
    rw [hr]
    unfold caR askF
    rw [if_neg (n0 _)]
    simp only [List.append_nil]
    unfold cancelR
    by_cases hn : (keepT x.tk st.ws).length = st.ws.length
    · rw [if_pos hn, if_neg (show ¬ (x.kind = 2 ∧ (4 : Int) = 0) from fun hh => absurd hh.2 (by decide))]; exact h
    · rw [if_neg hn, if_pos ⟨k2, rfl⟩]; exact (h.dropT hn).settle
  have n2 : ∀ p : Prop, ¬ (x.kind = 2 ∧ p) := fun p hh => k2 hh.1
  by_cases k5 : x.kind = 5
  · have hr : Ytmnlojbfdpjjdaa.doR st x = (Ytmnlojbfdpjjdaa.taken st, ⟨0, ⟨#[]⟩, 0, st.ans⟩) := by
      unfold Ytmnlojbfdpjjdaa.doR; simp only [k5, Int.reduceEq, if_false, if_true]
    rw [hr]
    unfold caR askF
    rw [if_neg (n2 _), if_neg (n0 _)]
    exact h.taken
  refine fin _ rfl ?_ (n0 _) (n2 _) ?_
  · unfold Ytmnlojbfdpjjdaa.doR; rw [if_neg k0, if_neg k1, if_neg k2, if_neg k5]; repeat' split
    all_goals rfl
  · unfold Ytmnlojbfdpjjdaa.doR; rw [if_neg k0, if_neg k1, if_neg k2, if_neg k5]
    split
    · show Sx P ca f (flushR st x.op.fin).1
      unfold flushR
      split
      · exact (h.same (st' := flushS st x.op.fin) rfl rfl rfl).settle
      · exact h
    split
    · show Sx P ca f (closeR st x.op.fin).1
      unfold closeR
      split
      · exact h.closeS x.op.fin
      · exact h
    split
    · split
      · exact h.onceR _
      · exact h
    split
    · split
      · show Sx P ca f (recvR st x.op.fin).1
        unfold recvR
        split
        · exact (h.same (st' := flushS st x.op.fin) rfl rfl rfl).settle
        · exact h
      · exact h
    · exact h
theorem Sx.new (l : Int) : Sx [] [] (fun _ => none) (newSt l) :=
  ⟨List.nodup_nil, fun t ht => (by cases ht), rfl, fun t h1 h2 => by have : t ≤ 0 := h2; omega, fun k e => List.Pairwise.nil, fun y hy => (by cases hy), fun y hy => (by cases hy)⟩
end Go.Proofs.Ytmnlojbfdpjjdaa
