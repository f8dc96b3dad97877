/- StreamBounds, plainly: what holds of a pipe behind any calls. -/
import Derived.Test.YtmnlojbfdpjjdaaE2
namespace Go.Proofs.Ytmnlojbfdpjjdaa
/-- behind settle nobody is next -/
theorem settleS_done : ∀ (n : Nat) (st : St), st.ws.length ≤ n → nextS (settleS n st) = none := by
  intro n
  induction n with
  | zero =>
    intro st h
    have : st.ws = [] := List.eq_nil_of_length_eq_zero (by omega)
    unfold settleS nextS cand
    rw [this]
    rfl
  | succ n ih =>
    intro st h
    unfold settleS
    split
    · next i hi =>
      refine ih _ ?_
      have hl := next_lt hi
      rw [stepS_ws, List.length_eraseIdx, if_pos hl]
      omega
    · next hi => exact hi
theorem settle_done (st : St) : nextS (settle st) = none := settleS_done _ _ (Nat.le_refl _)
theorem next_parts {st : St} (h : nextS st = none) : cand st 0 0 = none ∧ cand st 0 1 = none ∧ cand st 1 0 = none ∧ cand st 1 1 = none := by
  unfold nextS at h
  cases h00 : cand st 0 0 with
  | some i => simp [h00] at h
  | none => cases h01 : cand st 0 1 with
    | some i => simp [h00, h01] at h
    | none => cases h10 : cand st 1 0 with
      | some i => simp [h00, h01, h10] at h
      | none => simp only [h00, h01, h10] at h; exact ⟨rfl, rfl, rfl, h⟩
/-- how many of a kind wait at an end -/
def cnt (l : List Wt) (k f : Int) : Nat := (l.filter (hitB k f)).length
theorem likeN_cnt (l : List Wt) (x : Op) : likeN l x = cnt l x.kind x.fin := rfl
/-- the queue of an operation, by kind and end -/
def qq (st : St) (k f : Int) : List ByteArray := if f = k then st.q0 else st.q1
theorem cand_none {st : St} {k f : Int} (h : cand st k f = none) (hc : 0 < cnt st.ws k f) : (k = 0 → qq st k f = []) ∧ (k = 1 → ¬ ((sizes (qq st k f) : Int) < st.limit)) := by
  unfold cand at h
  split at h
  · next i hi =>
    obtain ⟨h1, h2, h3⟩ := find_hit hi
    obtain ⟨e1, e2⟩ := hit_eq h2
    split at h
    · cases h
    · next hr =>
      unfold readyB qOf at hr
      rw [e1, e2] at hr
      refine ⟨fun hk => ?_, fun hk => ?_⟩
      · subst hk
        rw [if_pos rfl] at hr
        unfold qq
        exact List.eq_nil_of_length_eq_zero (by simpa using hr)
      · subst hk
        rw [if_neg (by decide)] at hr
        unfold qq
        simpa using hr
  · next hn =>
    rw [List.findIdx?_eq_none_iff] at hn
    have : st.ws.filter (hitB k f) = [] := List.filter_eq_nil_iff.2 fun y hy => by simpa using hn y hy
    unfold cnt at hc
    rw [this] at hc
    simp at hc
/-- what holds always: l is the limit -/
structure Bi (l : Int) (st : St) : Prop where
  lim : st.limit = l
  b0 : ∀ b ∈ st.q0, 0 < b.size
  b1 : ∀ b ∈ st.q1, 0 < b.size
  z0 : (sizes st.q0 : Int) < l + 8192
  z1 : (sizes st.q1 : Int) < l + 8192
  w : ∀ y ∈ st.ws, OpOk y.op ∧ emptyB y.op = false ∧ (y.op.kind = 1 → y.op.data.size ≤ 8192) ∧ 0 ≤ y.tk ∧ y.tk ≤ st.tks
  n : ∀ k f, cnt st.ws k f ≤ 16
theorem cnt_sub {a b : List Wt} (h : a.Sublist b) (k f : Int) : cnt a k f ≤ cnt b k f := (h.filter _).length_le
/-- of the same queues and fewer who wait -/
theorem Bi.sub {l : Int} {st : St} (h : Bi l st) {ws : List Wt} (hs : ws.Sublist st.ws) (t : Int) (ht : st.tks ≤ t) (c0 c1 : Bool) (an : List An) : Bi l ⟨st.q0, st.q1, c0, c1, st.limit, t, ws, an⟩ :=
  ⟨h.lim, h.b0, h.b1, h.z0, h.z1, fun y hy => by obtain ⟨a, b, c, d, e⟩ := h.w y (hs.subset hy); exact ⟨a, b, c, d, by show y.tk ≤ t; omega⟩, fun k f => Nat.le_trans (cnt_sub hs k f) (h.n k f)⟩
theorem Bi.setQ {l : Int} {st : St} (h : Bi l st) (x : Op) {q : List ByteArray} (hb : ∀ b ∈ q, 0 < b.size) (hz : (sizes q : Int) < l + 8192) : Bi l (setQ st x q) := by
  unfold Ytmnlojbfdpjjdaa.setQ
  split
  · exact ⟨h.lim, hb, h.b1, hz, h.z1, h.w, h.n⟩
  · exact ⟨h.lim, h.b0, hb, h.z0, hz, h.w, h.n⟩
theorem Bi.q {l : Int} {st : St} (h : Bi l st) (x : Op) : (∀ b ∈ qOf st x, 0 < b.size) ∧ (sizes (qOf st x) : Int) < l + 8192 := by
  unfold qOf
  split
  · exact ⟨h.b0, h.z0⟩
  · exact ⟨h.b1, h.z1⟩
theorem Bi.doS {l : Int} {st : St} (h : Bi l st) (x : Op) (hx : OpOk x) (hd : x.kind = 1 → x.data.size ≤ 8192) (hr : emptyB x = false → x.kind = 1 → (sizes (qOf st x) : Int) < st.limit) : Bi l (doS st x).1 := by
  obtain ⟨h1, h2⟩ := h.q x
  unfold Ytmnlojbfdpjjdaa.doS
  cases he : emptyB x with
  | true => exact h
  | false =>
    rw [if_neg (by simp)]
    split
    · next hk =>
      refine h.setQ x (fun b hb => ?_) ?_
      · rw [List.mem_append, List.mem_singleton] at hb
        rcases hb with hb | rfl
        · exact h1 b hb
        · unfold emptyB at he
          rw [if_neg (by rw [hk]; decide)] at he
          have : x.data.size ≠ 0 := by simpa using he
          omega
      · have := hr he hk
        rw [h.lim] at this
        rw [sizes_append]
        simp only [sizes]
        omega
    · next hk =>
      have hk0 : x.kind = 0 := by rcases hx.1.1 with e | e; exact e; exact absurd e hk
      have hcn := hx.2.1 hk0
      cases hq : qOf st x with
      | nil => exact h
      | cons b r =>
        simp only
        rw [hq] at h1 h2
        have hr1 : ∀ b' ∈ r, 0 < b'.size := fun b' hb' => h1 b' (List.mem_cons_of_mem _ hb')
        simp only [sizes] at h2
        split
        · next hlt =>
          have hex : (b.extract x.count.toNat b.size).size = b.size - x.count.toNat := by rw [ByteArray.size_extract]; omega
          refine h.setQ x (fun b' hb' => ?_) ?_
          · rcases List.mem_cons.1 hb' with rfl | hb'
            · rw [hex]; omega
            · exact hr1 b' hb'
          · simp only [sizes]; rw [hex]; omega
        · exact h.setQ x hr1 (by omega)
theorem ready_of_next {st : St} {i : Nat} (h : nextS st = some i) : readyB st (st.ws.getD i wt0).op = true := by
  have hc : ∀ k f i, cand st k f = some i → readyB st (st.ws.getD i wt0).op = true := by
    intro k f i h
    unfold cand at h
    split at h
    · split at h
      · next hr => injection h with h; subst h; exact hr
      · cases h
    · cases h
  unfold nextS at h
  split at h
  · next j hj => injection h with h; subst h; exact hc _ _ _ hj
  · split at h
    · next j hj => injection h with h; subst h; exact hc _ _ _ hj
    · split at h
      · next j hj => injection h with h; subst h; exact hc _ _ _ hj
      · exact hc _ _ _ h
theorem Bi.without {l : Int} {st : St} (h : Bi l st) (i : Nat) : Bi l (without st i) := h.sub (List.eraseIdx_sublist _ _) _ (Int.le_refl _) _ _ _
theorem Bi.answered {l : Int} {st : St} (h : Bi l st) (a : An) : Bi l (answered st a) := ⟨h.lim, h.b0, h.b1, h.z0, h.z1, h.w, h.n⟩
theorem Bi.step {l : Int} {st : St} (h : Bi l st) {i : Nat} (hi : nextS st = some i) : Bi l (stepS st i) := by
  obtain ⟨a, b, c, _⟩ := h.w _ (getD_mem (next_lt hi))
  refine ((h.without i).doS _ a c fun _ hk => ?_).answered _
  have hr := ready_of_next hi
  unfold readyB at hr
  rw [if_neg (by rw [hk]; decide)] at hr
  exact of_decide_eq_true hr
theorem Bi.settle {l : Int} {st : St} (h : Bi l st) : Bi l (settle st) := settle_ind (fun _ _ h hi => h.step hi) st h
theorem checkE_size {st : St} {x : Op} (h : checkE st x = 0) : x.kind = 1 → x.data.size ≤ 8192 := by
  unfold checkE at h
  intro hk
  by_cases hs : x.data.size ≤ 8192
  · exact hs
  · exfalso
    cases hb : badB x with
    | true => rw [hb, if_pos rfl] at h; cases h
    | false => rw [hb, if_neg (by simp), if_pos ⟨hk, by omega⟩] at h; cases h
theorem waits_yes {st : St} {x : Op} (h : waitsB st x = true) : emptyB x = false := by
  unfold waitsB at h
  cases he : emptyB x with
  | true => simp [he] at h
  | false => rfl
theorem waits_ready {st : St} {x : Op} (h : waitsB st x = false) (he : emptyB x = false) : readyB st x = true := by
  unfold waitsB at h
  simp [he] at h
  exact h.2
theorem cnt_append (a b : List Wt) (k f : Int) : cnt (a ++ b) k f = cnt a k f + cnt b k f := by simp [cnt, List.filter_append]
theorem qOf_qq {st : St} {x : Op} : qOf st x = qq st x.kind x.fin := rfl
theorem ready_size {st : St} {x : Op} (h : readyB st x = true) (hk : x.kind = 1) : (sizes (qOf st x) : Int) < st.limit := by
  unfold readyB at h
  rw [if_neg (by rw [hk]; decide)] at h
  exact of_decide_eq_true h
theorem Bi.onceR {l : Int} {st : St} (h : Bi l st) (hs : nextS st = none) (x : Op) (hd : x.data.size ≤ 9000) : Bi l (onceR st x).1 ∧ nextS (onceR st x).1 = none := by
  unfold Ytmnlojbfdpjjdaa.onceR
  split
  · exact ⟨h, hs⟩
  · next he =>
    have he' : checkE st x = 0 := by simpa using he
    split
    · exact ⟨h, hs⟩
    · next hw =>
      exact ⟨(h.doS x (opOk_of hd he') (checkE_size he') fun hm hk => ready_size (waits_ready (by simpa using hw) hm) hk).settle, settle_done _⟩
theorem Bi.askR {l : Int} {st : St} (h : Bi l st) (ht : 0 ≤ st.tks) (hs : nextS st = none) (x : Op) (hd : x.data.size ≤ 9000) : Bi l (askR st x).1 ∧ nextS (askR st x).1 = none := by
  unfold Ytmnlojbfdpjjdaa.askR
  split
  · exact ⟨h, hs⟩
  · next he =>
    have he' : checkE st x = 0 := by simpa using he
    split
    · next hw =>
      split
      · exact ⟨h, hs⟩
      · next hl =>
        refine ⟨Bi.settle ⟨h.lim, h.b0, h.b1, h.z0, h.z1, fun y hy => ?_, fun k f => ?_⟩, settle_done _⟩
        · rcases List.mem_append.1 hy with hy | hy
          · obtain ⟨a, b, c, d, e⟩ := h.w y hy
            exact ⟨a, b, c, d, by show y.tk ≤ st.tks + 1; omega⟩
          · rw [List.mem_singleton] at hy
            subst hy
            exact ⟨opOk_of hd he', waits_yes hw, checkE_size he', by show 0 ≤ st.tks + 1; omega, Int.le_refl _⟩
        · show cnt (st.ws ++ [_]) k f ≤ 16
          rw [cnt_append]
          have := h.n k f
          rw [likeN_cnt] at hl
          unfold cnt at hl this ⊢
          simp only [List.filter_cons, List.filter_nil]
          split
          · next hh =>
            obtain ⟨e1, e2⟩ := hit_eq hh
            simp only at e1 e2
            rw [← e1, ← e2]
            simp only [List.length_cons, List.length_nil]
            omega
          · simp only [List.length_nil]; omega
    · next hw =>
      have ht1 : Bi l (tick st) := h.sub (List.Sublist.refl _) _ (by omega) _ _ _
      exact ⟨((ht1.doS x (opOk_of hd he') (checkE_size he') fun hm hk => ready_size (st := st) (waits_ready (by simpa using hw) hm) hk).answered _).settle, settle_done _⟩
theorem Bi.flushS {l : Int} {st : St} (h : Bi l st) (hl : 1 ≤ l) (a : Int) : Bi l (flushS st a) := by
  unfold Ytmnlojbfdpjjdaa.flushS
  by_cases h0 : a = 0
  · simp only [if_pos h0]; exact ⟨h.lim, fun b hb => (by cases hb), h.b1, by simp only [sizes]; omega, h.z1, h.w, h.n⟩
  · simp only [if_neg h0]; exact ⟨h.lim, h.b0, fun b hb => (by cases hb), h.z0, by simp only [sizes]; omega, h.w, h.n⟩
theorem next_nil {st : St} (h : st.ws = []) : nextS st = none := by
  unfold nextS cand
  rw [h]
  rfl
theorem Bi.closeS {l : Int} {st : St} (h : Bi l st) (hl : 1 ≤ l) (a : Int) : Bi l (closeS st a) := by
  unfold Ytmnlojbfdpjjdaa.closeS
  by_cases h0 : a = 0
  · simp only [if_pos h0]; exact ⟨h.lim, fun b hb => (by cases hb), h.b1, by simp only [sizes]; omega, h.z1, fun y hy => (by cases hy), fun k f => Nat.zero_le _⟩
  · simp only [if_neg h0]; exact ⟨h.lim, h.b0, fun b hb => (by cases hb), h.z0, by simp only [sizes]; omega, fun y hy => (by cases hy), fun k f => Nat.zero_le _⟩
theorem Bi.doR {l : Int} {st : St} (h : Bi l st) (hl : 1 ≤ l) (ht : 0 ≤ st.tks) (hs : nextS st = none) (x : Ac) (hd : x.op.data.size ≤ 9000) : Bi l (doR st x).1 ∧ nextS (doR st x).1 = none := by
  unfold Ytmnlojbfdpjjdaa.doR
  split
  · exact h.askR ht hs x.op hd
  split
  · split
    · exact h.onceR hs _ (show (0 : Nat) ≤ 9000 by omega)
    · exact h.onceR hs _ hd
  split
  · simp only
    unfold cancelR
    split
    · exact ⟨h, hs⟩
    · exact ⟨(h.sub List.filter_sublist _ (Int.le_refl _) _ _ _ : Bi l (dropT st x.tk)).settle, settle_done _⟩
  split
  · simp only
    unfold flushR
    split
    · exact ⟨(h.flushS hl x.op.fin).settle, settle_done _⟩
    · exact ⟨h, hs⟩
  split
  · simp only
    unfold closeR
    split
    · exact ⟨h.closeS hl x.op.fin, next_nil rfl⟩
    · exact ⟨h, hs⟩
  split
  · exact ⟨⟨h.lim, h.b0, h.b1, h.z0, h.z1, h.w, h.n⟩, hs⟩
  split
  · split
    · exact h.onceR hs _ hd
    · exact ⟨h, hs⟩
  split
  · split
    · simp only
      unfold recvR
      split
      · exact ⟨(h.flushS hl x.op.fin).settle, settle_done _⟩
      · exact ⟨h, hs⟩
    · exact ⟨h, hs⟩
  · exact ⟨h, hs⟩
theorem Bi.new (l : Int) (_hl : 1 ≤ l) : Bi l (newSt l) ∧ nextS (newSt l) = none :=
  ⟨⟨rfl, fun b hb => (by cases hb), fun b hb => (by cases hb), by show ((0 : Nat) : Int) < l + 8192; omega, by show ((0 : Nat) : Int) < l + 8192; omega, fun y hy => (by cases hy), fun k f => Nat.zero_le _⟩, next_nil rfl⟩
/-- the tickets of a call -/
theorem settle_ws (st : St) : (settle st).ws.Sublist st.ws :=
  settle_ind (p := fun s => s.ws.Sublist st.ws) (fun s i h _ => by rw [stepS_ws]; exact (List.eraseIdx_sublist _ _).trans h) st (List.Sublist.refl _)
theorem settle_tks (st : St) : (settle st).tks = st.tks :=
  settle_ind (p := fun s => s.tks = st.tks) (fun s i h _ => by rw [← h]; exact (doS_rest (Ytmnlojbfdpjjdaa.without s i) _).1) st rfl
theorem onceR_ws (st : St) (x : Op) : (onceR st x).1.ws.Sublist st.ws ∧ (onceR st x).1.tks = st.tks := by
  unfold onceR
  split
  · exact ⟨List.Sublist.refl _, rfl⟩
  · split
    · exact ⟨List.Sublist.refl _, rfl⟩
    · refine ⟨?_, ?_⟩
      · have := settle_ws (doS st x).1
        rw [(doS_grows st x).1] at this
        exact this
      · show (settle (doS st x).1).tks = _
        rw [settle_tks, (doS_rest st x).1]
theorem askR_ws (st : St) (x : Op) : ((askR st x).2.2 = 0 ∧ (askR st x).2.1 = st.tks + 1 ∧ (askR st x).1.tks = st.tks + 1 ∧ (askR st x).1.ws.Sublist (st.ws ++ [⟨x, st.tks + 1⟩])) ∨ ((askR st x).2.2 ≠ 0 ∧ (askR st x).1 = st) := by
  unfold askR
  split
  · next h => exact .inr ⟨h, rfl⟩
  · split
    · split
      · exact .inr ⟨show (24 : Int) ≠ 0 by decide, rfl⟩
      · exact .inl ⟨rfl, rfl, settle_tks _, settle_ws _⟩
    · refine .inl ⟨rfl, rfl, ?_, ?_⟩
      · show (settle (askD st x)).tks = _
        rw [settle_tks]
        exact (doS_rest (tick st) x).1
      · show (settle (askD st x)).ws.Sublist _
        refine (settle_ws _).trans ?_
        show (doS (tick st) x).1.ws.Sublist _
        rw [(doS_grows (tick st) x).1]
        exact List.sublist_append_left _ _
/-- a call that asks with no error adds one that waits, at most; each other adds none -/
theorem doR_ws (st : St) (x : Ac) : (x.kind = 0 ∧ (doR st x).2.err = 0 ∧ (doR st x).2.num = st.tks + 1 ∧ (doR st x).1.tks = st.tks + 1 ∧ (doR st x).1.ws.Sublist (st.ws ++ [⟨x.op, st.tks + 1⟩])) ∨
    (¬ (x.kind = 0 ∧ (doR st x).2.err = 0) ∧ (doR st x).1.tks = st.tks ∧ (doR st x).1.ws.Sublist st.ws) := by
  have hrf : st.ws.Sublist st.ws := List.Sublist.refl _
  unfold doR
  split
  · next hk =>
    rcases askR_ws st x.op with ⟨a, b, c, d⟩ | ⟨a, b⟩
    · exact .inl ⟨hk, a, b, c, d⟩
    · exact .inr ⟨fun h => a h.2, by rw [b], by rw [b]; exact List.Sublist.refl _⟩
  next hk =>
  refine .inr ⟨fun h => hk h.1, ?_⟩
  split
  · split
    · exact (onceR_ws st _).symm
    · exact (onceR_ws st _).symm
  split
  · simp only
    unfold cancelR
    split
    · exact ⟨rfl, hrf⟩
    · exact ⟨settle_tks _, (settle_ws _).trans List.filter_sublist⟩
  split
  · simp only
    unfold flushR
    split
    · exact ⟨settle_tks _, settle_ws _⟩
    · exact ⟨rfl, hrf⟩
  split
  · simp only
    unfold closeR
    split
    · exact ⟨rfl, List.nil_sublist _⟩
    · exact ⟨rfl, hrf⟩
  split
  · exact ⟨rfl, hrf⟩
  split
  · split
    · exact (onceR_ws st _).symm
    · exact ⟨rfl, hrf⟩
  split
  · split
    · simp only
      unfold recvR
      split
      · exact ⟨settle_tks _, settle_ws _⟩
      · exact ⟨rfl, hrf⟩
    · exact ⟨rfl, hrf⟩
  · exact ⟨rfl, hrf⟩
end Go.Proofs.Ytmnlojbfdpjjdaa
