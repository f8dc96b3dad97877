/- StreamServes, plainly: where an end is closed, nobody waits. -/
import Derived.Test.YtmnlojbfdpjjdaaP2
namespace Go.Proofs.Ytmnlojbfdpjjdaa
def Cl (st : St) : Prop := st.c0 = true ∨ st.c1 = true → st.ws = []
theorem settle_c (st : St) : (settle st).c0 = st.c0 ∧ (settle st).c1 = st.c1 :=
  settle_ind (p := fun s => s.c0 = st.c0 ∧ s.c1 = st.c1) (fun s i h _ => by
    obtain ⟨_, _, a, b⟩ := doS_rest (without s i) (s.ws.getD i wt0).op
    exact ⟨a.trans h.1, b.trans h.2⟩) st ⟨rfl, rfl⟩
theorem Cl.sub {st st' : St} (h : Cl st) (h0 : st'.c0 = st.c0) (h1 : st'.c1 = st.c1) (hs : st'.ws.Sublist st.ws) : Cl st' := fun hc => by
  rw [h0, h1] at hc
  have := h hc
  rw [this] at hs
  exact List.sublist_nil.1 hs
theorem Cl.settle {st : St} (h : Cl st) : Cl (settle st) := h.sub (settle_c st).1 (settle_c st).2 (settle_ws st)
theorem Cl.onceR {st : St} (h : Cl st) (x : Op) : Cl (onceR st x).1 := by
  unfold Ytmnlojbfdpjjdaa.onceR
  split
  · exact h
  · split
    · exact h
    · obtain ⟨_, _, a, b⟩ := doS_rest st x
      exact (h.sub a b (by rw [(doS_grows st x).1]; exact List.Sublist.refl _)).settle
theorem checkE_cl {st : St} {x : Op} (h : checkE st x = 0) : (st.c0 = true ∨ st.c1 = true) → x.kind = 0 ∧ readyB st x = true := by
  intro hc
  have hin := (checkE_ok h).1
  unfold checkE at h
  cases hb : badB x with
  | true => rw [hb, if_pos rfl] at h; cases h
  | false =>
    rw [hb, if_neg (by simp)] at h
    split at h
    · cases h
    split at h
    · cases h
    next h1 =>
    split at h
    · cases h
    next h2 =>
    have hcl : clB st (1 - x.fin) = true := by
      unfold clB at h1 ⊢
      rcases hin.2 with e | e <;> rw [e] at h1 ⊢
      · rw [if_pos rfl] at h1
        rw [if_neg (by decide)]
        rcases hc with hc | hc
        · exact absurd hc h1
        · exact hc
      · rw [if_neg (by decide)] at h1
        rw [if_pos (by decide)]
        rcases hc with hc | hc
        · exact hc
        · exact absurd hc h1
    refine ⟨?_, ?_⟩
    · rcases hin.1 with e | e
      · exact e
      · exact absurd ⟨hcl, .inl e⟩ h2
    · cases hr : readyB st x with
      | true => rfl
      | false => exact absurd ⟨hcl, .inr hr⟩ h2
theorem Cl.askR {st : St} (h : Cl st) (x : Op) : Cl (askR st x).1 := by
  unfold Ytmnlojbfdpjjdaa.askR
  split
  · exact h
  · next he =>
    have he' : checkE st x = 0 := by simpa using he
    split
    · next hw =>
      split
      · exact h
      · refine Cl.settle fun hc => ?_
        exfalso
        have hc' : st.c0 = true ∨ st.c1 = true := hc
        obtain ⟨_, hr⟩ := checkE_cl he' hc'
        have hws := h hc'
        unfold waitsB likeN at hw
        rw [hr, hws] at hw
        simp at hw
    · refine Cl.settle (h.sub ?_ ?_ ?_)
      · exact (doS_rest (tick st) x).2.2.1
      · exact (doS_rest (tick st) x).2.2.2
      · show (doS (tick st) x).1.ws.Sublist _
        rw [(doS_grows (tick st) x).1]
        exact List.Sublist.refl _
theorem Cl.doR {st : St} (h : Cl st) (x : Ac) : Cl (doR st x).1 := by
  unfold Ytmnlojbfdpjjdaa.doR
  split
  · exact h.askR x.op
  split
  · split
    · exact h.onceR _
    · exact h.onceR _
  split
  · simp only
    unfold cancelR
    split
    · exact h
    · exact (h.sub (st' := dropT st x.tk) rfl rfl List.filter_sublist).settle
  split
  · simp only
    unfold flushR
    split
    · exact (h.sub (st' := flushS st x.op.fin) rfl rfl (List.Sublist.refl _)).settle
    · exact h
  split
  · simp only
    unfold closeR
    split
    · exact fun _ => rfl
    · exact h
  split
  · exact h
  split
  · split
    · exact h.onceR _
    · exact h
  split
  · split
    · simp only
      unfold recvR
      split
      · exact (h.sub (st' := flushS st x.op.fin) rfl rfl (List.Sublist.refl _)).settle
      · exact h
    · exact h
  · exact h
theorem Cl.new (l : Int) : Cl (newSt l) := fun _ => rfl
end Go.Proofs.Ytmnlojbfdpjjdaa
