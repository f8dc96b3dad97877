/- The reference's pipe: a value over four rows that nobody writes to; nothing, size, end, New, Taken. -/
import Derived.Test.YtmnlojbfdpjjdaaD5
import Derived.Test.YtmnlojbfdpjjdaaB8
namespace Go.Proofs.Ytmnlojbfdpjjdaa
open Go.RowKit
variable {F : Nat → Prop}
/-- cells of the reference's waiter: its ticket first -/
def rwC (y : Wt) : List Value := [.int .i64 y.tk, .int .i64 y.op.kind, .int .i64 y.op.fin, .int .i64 y.op.count, .string y.op.data]
def rwsC (l : List Wt) : List Value := l.flatMap rwC
theorem rwsC_len (l : List Wt) : (rwsC l).length = l.length * 5 := by
  induction l with
  | nil => rfl
  | cons a l ih => simp only [rwsC, List.flatMap_cons, List.length_append, List.length_cons] at ih ⊢; simp only [rwC, List.length_cons, List.length_nil]; omega
def rpC (S : Sl) (st : St) : List Value := [.int .i64 st.limit, S.s0, S.s1, .bool st.c0, .bool st.c1, .int .i64 st.tks, S.sw, S.sa]
def rpV (S : Sl) (st : St) : Value := .agg #[.int .i64 st.limit, S.s0, S.s1, .bool st.c0, .bool st.c1, .int .i64 st.tks, S.sw, S.sa]
/-- F: blocks that the reference's strings do not lie in -/
def Okk (F : Nat → Prop) (w : World) (S : Sl) : Prop := (∀ k, F k → k < w.heap.size) ∧ (∀ k, S.s0.ownBlock = some k → ¬ F k) ∧ (∀ k, S.s1.ownBlock = some k → ¬ F k)
theorem Okk.to {w w' : World} {S : Sl} (h : Okk F w S) (hs : w.heap.size ≤ w'.heap.size) : Okk F w' S := ⟨fun k hk => Nat.lt_of_lt_of_le (h.1 k hk) hs, h.2.1, h.2.2⟩
theorem Okk.nil0 {w : World} {S : Sl} (h : Okk F w S) {a b : Value} : Okk F w ⟨.slice none 0 0, S.s1, a, b⟩ := ⟨h.1, fun k hk => (by cases hk), h.2.2⟩
theorem Okk.nil1 {w : World} {S : Sl} (h : Okk F w S) {a b : Value} : Okk F w ⟨S.s0, .slice none 0 0, a, b⟩ := ⟨h.1, h.2.1, fun k hk => (by cases hk)⟩
theorem Okk.new0 {w w' : World} {S : Sl} (h : Okk F w S) (hs : w.heap.size ≤ w'.heap.size) {v a b : Value} (hv : ∀ k, v.ownBlock = some k → w.heap.size ≤ k) : Okk F w' ⟨v, S.s1, a, b⟩ :=
  ⟨(h.to hs).1, fun k hk hf => absurd (h.1 k hf) (Nat.not_lt.2 (hv k hk)), h.2.2⟩
theorem Okk.new1 {w w' : World} {S : Sl} (h : Okk F w S) (hs : w.heap.size ≤ w'.heap.size) {v a b : Value} (hv : ∀ k, v.ownBlock = some k → w.heap.size ≤ k) : Okk F w' ⟨S.s0, v, a, b⟩ :=
  ⟨(h.to hs).1, h.2.1, fun k hk hf => absurd (h.1 k hf) (Nat.not_lt.2 (hv k hk))⟩
/-- The reference's pipe st, by the slices S. -/
structure Ref (F : Nat → Prop) (w : World) (S : Sl) (st : St) : Prop where
  r0 : Row w 9 1 S.s0 st.q0.length (strC st.q0)
  r1 : Row w 9 1 S.s1 st.q1.length (strC st.q1)
  rw_ : Row w 120 5 S.sw st.ws.length (rwsC st.ws)
  ra : Row w 115 4 S.sa st.ans.length (ansC st.ans)
  o : Okk F w S
theorem Ref.below {w w' : World} {S : Sl} {st : St} (h : Ref F w S st) (hb : Below w.heap.size w w') : Ref F w' S st := ⟨h.r0.below hb, h.r1.below hb, h.rw_.below hb, h.ra.below hb, h.o.to hb.size⟩
theorem Ref.open {w : World} {S : Sl} {st : St} (h : Ref F w S st) : ∃ a0 k0 a1 k1 aw kw aa ka, S = ⟨.slice a0 st.q0.length k0, .slice a1 st.q1.length k1, .slice aw st.ws.length kw, .slice aa st.ans.length ka⟩ := by
  obtain ⟨s0, s1, sw, sa⟩ := S
  obtain ⟨a0, k0, e0, _⟩ := h.r0.form
  obtain ⟨a1, k1, e1, _⟩ := h.r1.form
  obtain ⟨aw, kw, e2, _⟩ := h.rw_.form
  obtain ⟨aa, ka, e3, _⟩ := h.ra.form
  simp only at e0 e1 e2 e3
  subst e0 e1 e2 e3
  exact ⟨a0, k0, a1, k1, aw, kw, aa, ka, rfl⟩
theorem res60 {fn : Func} {p : Tmp} (h : fn.results = #[.cell p 60]) (tmps : Array Value) (w : World) (g : Nat) (c0 c1 c2 c3 c4 c5 c6 c7 : Value) (h4 : tmps.getD p undef = .pointer (some ⟨g, 0, none⟩)) (hB : Blk w g 60 [c0, c1, c2, c3, c4, c5, c6, c7]) :
    (results fn tmps).run Try.prog w = .ok (.agg #[c0, c1, c2, c3, c4, c5, c6, c7]) w := by
  have h4' : tmps[p]?.getD undef = .pointer (some ⟨g, 0, none⟩) := by simpa using h4
  have := run_loadVar_row (P := Try.prog) w g 60 60 #[c0, c1, c2, c3, c4, c5, c6, c7] (0, 0) _ hB Try.underlying60 rfl (by kernel_rfl)
  simp [results, h, h4', asAddr, this]
theorem res60_1 {fn : Func} {p u : Tmp} (h : fn.results = #[.cell p 60, .tmp u]) (tmps : Array Value) (w : World) (g : Nat) (c0 c1 c2 c3 c4 c5 c6 c7 x : Value) (h4 : tmps.getD p undef = .pointer (some ⟨g, 0, none⟩)) (h5 : tmps.getD u undef = x) (hB : Blk w g 60 [c0, c1, c2, c3, c4, c5, c6, c7]) :
    (results fn tmps).run Try.prog w = .ok (.tuple #[.agg #[c0, c1, c2, c3, c4, c5, c6, c7], x]) w := by
  have h4' : tmps[p]?.getD undef = .pointer (some ⟨g, 0, none⟩) := by simpa using h4
  have h5' : tmps[u]?.getD undef = x := by simpa using h5
  have := run_loadVar_row (P := Try.prog) w g 60 60 #[c0, c1, c2, c3, c4, c5, c6, c7] (0, 0) _ hB Try.underlying60 rfl (by kernel_rfl)
  simp [results, h, h4', h5', asAddr, this]
theorem res60_2 {fn : Func} {p u v : Tmp} (h : fn.results = #[.cell p 60, .tmp u, .tmp v]) (tmps : Array Value) (w : World) (g : Nat) (c0 c1 c2 c3 c4 c5 c6 c7 x y : Value) (h4 : tmps.getD p undef = .pointer (some ⟨g, 0, none⟩)) (h5 : tmps.getD u undef = x) (h6 : tmps.getD v undef = y) (hB : Blk w g 60 [c0, c1, c2, c3, c4, c5, c6, c7]) :
    (results fn tmps).run Try.prog w = .ok (.tuple #[.agg #[c0, c1, c2, c3, c4, c5, c6, c7], x, y]) w := by
  have h4' : tmps[p]?.getD undef = .pointer (some ⟨g, 0, none⟩) := by simpa using h4
  have h5' : tmps[u]?.getD undef = x := by simpa using h5
  have h6' : tmps[v]?.getD undef = y := by simpa using h6
  have := run_loadVar_row (P := Try.prog) w g 60 60 #[c0, c1, c2, c3, c4, c5, c6, c7] (0, 0) _ hB Try.underlying60 rfl (by kernel_rfl)
  simp [results, h, h4', h5', h6', asAddr, this]
theorem res60_3 {fn : Func} {p u v z : Tmp} (h : fn.results = #[.cell p 60, .tmp u, .tmp v, .tmp z]) (tmps : Array Value) (w : World) (g : Nat) (c0 c1 c2 c3 c4 c5 c6 c7 x y t : Value) (h4 : tmps.getD p undef = .pointer (some ⟨g, 0, none⟩)) (h5 : tmps.getD u undef = x) (h6 : tmps.getD v undef = y) (h7 : tmps.getD z undef = t) (hB : Blk w g 60 [c0, c1, c2, c3, c4, c5, c6, c7]) :
    (results fn tmps).run Try.prog w = .ok (.tuple #[.agg #[c0, c1, c2, c3, c4, c5, c6, c7], x, y, t]) w := by
  have h4' : tmps[p]?.getD undef = .pointer (some ⟨g, 0, none⟩) := by simpa using h4
  have h5' : tmps[u]?.getD undef = x := by simpa using h5
  have h6' : tmps[v]?.getD undef = y := by simpa using h6
  have h7' : tmps[z]?.getD undef = t := by simpa using h7
  have := run_loadVar_row (P := Try.prog) w g 60 60 #[c0, c1, c2, c3, c4, c5, c6, c7] (0, 0) _ hB Try.underlying60 rfl (by kernel_rfl)
  simp [results, h, h4', h5', h6', h7', asAddr, this]
theorem rnothing_any (x : Op) (hx : OpIn x) (w : World) : Calls Try.prog 79 #[opV x] w fun e w' => e = .returned (.bool (emptyB x)) ∧ Below w.heap.size w w' := by
  obtain ⟨k, f, c, d⟩ := x
  obtain ⟨hk, _⟩ := hx
  unfold opV emptyB
  simp only at hk
  rcases hk with rfl | rfl
  · rw [if_pos rfl]
    cases hc : c == 0
    all_goals
      go_enter Try.func79, Try.ntmps79
      go_wp2_with fail
      go_ret
      exact ⟨rfl, (Below.refl _ _).alloc (Nat.le_refl _) _⟩
  · rw [if_neg (by show ¬ (1 : Int) = 0; decide), str_empty]
    cases hc : d.toList.isEmpty
    all_goals
      go_enter Try.func79, Try.ntmps79
      go_wp2_with fail
      go_ret
      exact ⟨rfl, (Below.refl _ _).alloc (Nat.le_refl _) _⟩
theorem rsize_any (q : List ByteArray) (sv : Value) (w : World) (hr : Row w 9 1 sv q.length (strC q)) (hql : q.length ≤ 100000) (hqz : sizes q ≤ 1000000000000) :
    Calls Try.prog 82 #[sv] w fun e w' => e = .returned (.int .i64 (sizes q : Nat)) ∧ w = w' := by
  by_cases hn : 0 < q.length
  · obtain ⟨gb, off, cap, rfl, h1, h2, hgb, hcl, _⟩ := hr.open hn
    unfold maxLen at h2
    have HC := Lib.hid (show ∀ j, j < q.length → w.cell? ⟨gb, off + j, none⟩ = some (.string (q.getD j ByteArray.empty)) from fun j hj => by rw [hcl j (by omega), strC_get q j hj])
    clear hr hcl
    go_enter Try.func82, Try.ntmps82
    go_wp2_with fail
    go_loopw [3, 4] (fun n i wr => ∃ m : Nat, m ≤ q.length ∧ i = .int .i64 m ∧ n = .int .i64 (sizes (q.take m) : Nat) ∧ wr = w) (fun _ i _ => q.length - (intOf i).toNat)
    case atStart => exact ⟨0, by omega, rfl, rfl, rfl⟩
    case round =>
      obtain ⟨m, hm, rfl, rfl, rfl⟩ := hrel
      by_cases hlt : m < q.length
      · have hcm := HC.out m hlt
        have HS := Lib.hid (sizes_take q m hlt)
        have hle := sizes_take_le q (m + 1)
        have hle2 : (q.getD m ByteArray.empty).size + sizes (q.take m) ≤ 1000000000000 := by have := HS.out; omega
        generalize q.getD m ByteArray.empty = s at *
        generalize sizes (q.take m) = n at *
        clear hle
        go_wp2_with fail
        exact ⟨⟨m + 1, by omega, rfl, by rw [HS.out]; first | rfl | go_num, trivial⟩, by simp [intOf]; omega⟩
      · obtain rfl : m = q.length := by omega
        rw [List.take_length]
        go_wp2_with fail
        go_ret
        exact ⟨rfl, rfl⟩
  · have hq0 : q = [] := List.eq_nil_of_length_eq_zero (by omega)
    subst hq0
    obtain ⟨a, cap, rfl, h1, h2⟩ := hr.form
    clear hr
    go_enter Try.func82, Try.ntmps82
    go_wp2_with fail
    go_loopw [3, 4] (fun n i wr => i = .int .i64 0 ∧ n = .int .i64 0 ∧ wr = w) (fun _ i _ => 0)
    case atStart => exact ⟨rfl, rfl, rfl⟩
    case round =>
      obtain ⟨rfl, rfl, rfl⟩ := hrel
      go_wp2_with fail
      go_ret
      exact ⟨rfl, rfl⟩
theorem rend_any (a : Int) (S : Sl) (st : St) (w : World) (hR : Ref F w S st) :
    Calls Try.prog 70 #[rpV S st, .int .i64 a] w fun e w' => e = .returned (.int .i64 (openE st a)) ∧ Below w.heap.size w w' := by
  obtain ⟨a0, k0, a1, k1, aw, kw, aa, ka, rfl⟩ := hR.open
  unfold rpV openE
  clear hR
  simp only
  generalize st.c0 = c0 at *
  generalize st.c1 = c1 at *
  by_cases h0 : a = 0
  · subst h0
    cases c0
    all_goals
      go_enter Try.func70, Try.ntmps70
      go_wp2_with fail
      go_ret
      exact ⟨rfl, (Below.refl _ _).alloc (Nat.le_refl _) _⟩
  · by_cases h1 : a = 1
    · subst h1
      cases c1
      all_goals
        go_enter Try.func70, Try.ntmps70
        go_wp2_with fail
        go_ret
        exact ⟨rfl, (Below.refl _ _).alloc (Nat.le_refl _) _⟩
    · rw [if_neg h0, if_neg h1]
      have e0 : (a != 0) = true := by rw [bne_iff_ne]; exact h0
      have e1 : (a != 1) = true := by rw [bne_iff_ne]; exact h1
      clear h0 h1
      go_enter Try.func70, Try.ntmps70
      go_wp2_with fail
      go_ret
      exact ⟨rfl, (Below.refl _ _).alloc (Nat.le_refl _) _⟩
theorem rnew_no (l : Int) (h : l < 1 ∨ 1048576 < l) (w : World) : Calls Try.prog 22 #[.int .i64 l] w fun e w' => e = .returned (.tuple #[rpV nilSl (newSt 0), .int .i64 1]) ∧ Below w.heap.size w w' := by
  unfold rpV nilSl newSt
  by_cases h1 : l < 1
  · clear h
    go_enter Try.func22, Try.ntmps22
    go_wp2_with fail
    exact bodyPost_ret (res60_1 rfl _ _ w.heap.size _ _ _ _ _ _ _ _ _ rfl rfl (blk_at rfl 60 [_, _, _, _, _, _, _, _])) rfl ⟨rfl, (Below.refl _ _).alloc (Nat.le_refl _) _⟩
  · have h2 : 1048576 < l := h.resolve_left h1
    clear h
    go_enter Try.func22, Try.ntmps22
    go_wp2_with fail
    exact bodyPost_ret (res60_1 rfl _ _ w.heap.size _ _ _ _ _ _ _ _ _ rfl rfl (blk_at rfl 60 [_, _, _, _, _, _, _, _])) rfl ⟨rfl, (Below.refl _ _).alloc (Nat.le_refl _) _⟩
theorem rnew_any (l : Int) (h1 : 1 ≤ l) (h2 : l ≤ 1048576) (w : World) : Calls Try.prog 22 #[.int .i64 l] w fun e w' => e = .returned (.tuple #[rpV nilSl (newSt l), .int .i64 0]) ∧ Below w.heap.size w w' := by
  unfold rpV nilSl newSt
  have h3 : ¬ l < 1 := by omega
  have h4 : ¬ 1048576 < l := by omega
  go_enter Try.func22, Try.ntmps22
  go_wp2_with fail
  exact bodyPost_ret (res60_1 rfl _ _ w.heap.size _ _ _ _ _ _ _ _ _ rfl rfl (blk_at rfl 60 [_, _, _, _, _, _, _, _])) rfl ⟨rfl, (Below.refl _ _).alloc (Nat.le_refl _) _⟩
theorem rtaken_any (S : Sl) (st : St) (w : World) (hR : Ref F w S st) :
    Calls Try.prog 49 #[rpV S st] w fun e w' => e = .returned (.tuple #[rpV ⟨S.s0, S.s1, S.sw, .slice none 0 0⟩ (taken st), S.sa]) ∧ Below w.heap.size w w' := by
  obtain ⟨a0, k0, a1, k1, aw, kw, aa, ka, rfl⟩ := hR.open
  unfold rpV taken
  clear hR
  go_enter Try.func49, Try.ntmps49
  go_wp2_with fail
  exact bodyPost_ret (res60_1 rfl _ _ (w.heap.size + 1) _ _ _ _ _ _ _ _ _ rfl rfl (blk_at (by simp) 60 [_, _, _, _, _, _, _, _])) rfl ⟨rfl, ((Below.refl _ _).alloc (Nat.le_refl _) _).alloc (by simp) _⟩
theorem Ref.new (w : World) (l : Int) (hF : ∀ k, F k → k < w.heap.size) : Ref F w nilSl (newSt l) := ⟨Row.nil _ _ _, Row.nil _ _ _, Row.nil _ _ _, Row.nil _ _ _, hF, fun k hk => (by cases hk), fun k hk => (by cases hk)⟩
theorem Ref.taken {w : World} {S : Sl} {st : St} (h : Ref F w S st) : Ref F w ⟨S.s0, S.s1, S.sw, .slice none 0 0⟩ (taken st) := ⟨h.r0, h.r1, h.rw_, Row.nil _ _ _, h.o⟩
end Go.Proofs.Ytmnlojbfdpjjdaa
