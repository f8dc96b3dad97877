/- A pipe behind few acts: its lists are short; the contracts under that bound; what a call of the law makes of the plain state. -/
import Derived.Test.YtmnlojbfdpjjdaaE1
import Derived.Test.YtmnlojbfdpjjdaaD1
namespace Go.Proofs.Ytmnlojbfdpjjdaa
open Go.RowKit
/-- behind n acts of at most 9000 bytes each -/
structure Gd (n : Nat) (st : St) : Prop where
  q : st.q0.length + st.q1.length + st.ws.length ≤ n
  a : st.ans.length + st.ws.length ≤ n
  z : sizes st.q0 + sizes st.q1 + sizes (st.ws.map (·.op.data)) ≤ 9000 * n
  t0 : 0 ≤ st.tks
  t1 : st.tks ≤ n
  w : WOk st
theorem Gd.mono {n m : Nat} {st : St} (h : Gd n st) (hm : n ≤ m) : Gd m st :=
  ⟨Nat.le_trans h.q hm, Nat.le_trans h.a hm, Nat.le_trans h.z (by omega), h.t0, by have := h.t1; omega, h.w⟩
theorem Gd.sm {n : Nat} {st : St} (h : Gd n st) (hn : n ≤ 1000) : Sm st := by
  have := h.q; have := h.a; have := h.z
  exact ⟨by omega, by omega, by omega⟩
theorem doS_rest (st : St) (x : Op) : (doS st x).1.tks = st.tks ∧ (doS st x).1.limit = st.limit ∧ (doS st x).1.c0 = st.c0 ∧ (doS st x).1.c1 = st.c1 := by
  unfold doS setQ
  repeat' split
  all_goals exact ⟨rfl, rfl, rfl, rfl⟩
theorem Gd.doS {n : Nat} {st : St} (h : Gd n st) (x : Op) (hd : x.data.size ≤ 9000) : Gd (n + 1) (doS st x).1 := by
  obtain ⟨g1, g2, g3, g4⟩ := doS_grows st x
  obtain ⟨r1, _⟩ := doS_rest st x
  have := h.q; have := h.a; have := h.z; have := h.t0; have := h.t1
  refine ⟨by rw [g1]; omega, by rw [g1, g2]; omega, by rw [g1]; omega, by rw [r1]; omega, by rw [r1]; omega, fun y hy => h.w y (by rw [← g1]; exact hy)⟩
theorem Gd.step {n : Nat} {st : St} (h : Gd n st) {i : Nat} (hi : i < st.ws.length) : Gd n (stepS st i) := by
  have hl : (st.ws.eraseIdx i).length = st.ws.length - 1 := by rw [List.length_eraseIdx, if_pos hi]
  have hz := sizes_erase st.ws i hi
  obtain ⟨g1, g2, g3, g4⟩ := doS_grows (Ytmnlojbfdpjjdaa.without st i) (st.ws.getD i wt0).op
  obtain ⟨r1, _⟩ := doS_rest (Ytmnlojbfdpjjdaa.without st i) (st.ws.getD i wt0).op
  have := h.q; have := h.a; have := h.z
  have e0 : (Ytmnlojbfdpjjdaa.without st i).q0 = st.q0 := rfl
  have e1 : (Ytmnlojbfdpjjdaa.without st i).q1 = st.q1 := rfl
  have e2 : (Ytmnlojbfdpjjdaa.without st i).ws = st.ws.eraseIdx i := rfl
  have e3 : (Ytmnlojbfdpjjdaa.without st i).ans = st.ans := rfl
  rw [e0, e1] at g3 g4
  have s0 : (stepS st i).q0 = (Ytmnlojbfdpjjdaa.doS (Ytmnlojbfdpjjdaa.without st i) (st.ws.getD i wt0).op).1.q0 := rfl
  have s1 : (stepS st i).q1 = (Ytmnlojbfdpjjdaa.doS (Ytmnlojbfdpjjdaa.without st i) (st.ws.getD i wt0).op).1.q1 := rfl
  have s3 : (stepS st i).tks = st.tks := r1
  have s2 : (stepS st i).ans.length = st.ans.length + 1 := by
    show ((Ytmnlojbfdpjjdaa.doS (Ytmnlojbfdpjjdaa.without st i) (st.ws.getD i wt0).op).1.ans ++ [_]).length = _
    rw [g2, e3]; simp
  refine ⟨?_, ?_, ?_, by rw [s3]; exact h.t0, by rw [s3]; exact h.t1, h.w.step i⟩
  · rw [stepS_ws, s0, s1]; omega
  · rw [stepS_ws, s2]; omega
  · rw [stepS_ws, s0, s1]; omega
theorem cand_lt {st : St} {k f : Int} {i : Nat} (h : cand st k f = some i) : i < st.ws.length := by
  unfold cand at h
  split at h
  · next j hj =>
    split at h
    · injection h with h; subst h; exact (find_hit hj).1
    · cases h
  · cases h
theorem next_lt {st : St} {i : Nat} (h : nextS st = some i) : i < st.ws.length := by
  unfold nextS at h
  split at h
  · next j hj => injection h with h; subst h; exact cand_lt hj
  · split at h
    · next j hj => injection h with h; subst h; exact cand_lt hj
    · split at h
      · next j hj => injection h with h; subst h; exact cand_lt hj
      · exact cand_lt h
theorem settleS_ind {p : St → Prop} (hp : ∀ st i, p st → nextS st = some i → p (stepS st i)) : ∀ n st, p st → p (settleS n st) := by
  intro n
  induction n with
  | zero => intro st h; exact h
  | succ n ih =>
    intro st h
    unfold settleS
    split
    · next i hi => exact ih _ (hp st i h hi)
    · exact h
theorem settle_ind {p : St → Prop} (hp : ∀ st i, p st → nextS st = some i → p (stepS st i)) (st : St) (h : p st) : p (settle st) := settleS_ind hp _ st h
theorem Gd.settle {n : Nat} {st : St} (h : Gd n st) : Gd n (settle st) := settle_ind (fun _ _ h hi => h.step (next_lt hi)) st h
theorem Gd.dropT {n : Nat} {st : St} (h : Gd n st) (t : Int) : Gd n (dropT st t) := by
  have hl : (keepT t st.ws).length ≤ st.ws.length := List.length_filter_le _ _
  have hz := sizes_sub (List.Sublist.map (·.op.data) (List.filter_sublist (p := fun y => !tkB t y) (l := st.ws)))
  have := h.q; have := h.a; have := h.z
  exact ⟨by show st.q0.length + st.q1.length + (keepT t st.ws).length ≤ _; omega, by show st.ans.length + (keepT t st.ws).length ≤ _; omega, by show sizes st.q0 + sizes st.q1 + sizes ((keepT t st.ws).map (·.op.data)) ≤ _; unfold keepT; omega, h.t0, h.t1, h.w.dropT t⟩
theorem Gd.flushS {n : Nat} {st : St} (h : Gd n st) (a : Int) : Gd n (flushS st a) := by
  have := h.q; have := h.a; have := h.z
  unfold Ytmnlojbfdpjjdaa.flushS
  by_cases h0 : a = 0
  · simp only [if_pos h0]; exact ⟨by simp only [List.length_nil]; omega, by simp only; omega, by simp only [sizes]; omega, h.t0, h.t1, h.w⟩
  · simp only [if_neg h0]; exact ⟨by simp only [List.length_nil]; omega, by simp only; omega, by simp only [sizes]; omega, h.t0, h.t1, h.w⟩
theorem Gd.closeS {n : Nat} {st : St} (h : Gd n st) (a : Int) : Gd n (closeS st a) := by
  have := h.q; have := h.a; have := h.z
  unfold Ytmnlojbfdpjjdaa.closeS
  by_cases h0 : a = 0
  · simp only [if_pos h0]; exact ⟨by simp only [List.length_nil]; omega, by simp only [List.length_append, List.length_map, List.length_nil]; omega, by simp only [List.map_nil, sizes]; omega, h.t0, h.t1, fun y hy => by cases hy⟩
  · simp only [if_neg h0]; exact ⟨by simp only [List.length_nil]; omega, by simp only [List.length_append, List.length_map, List.length_nil]; omega, by simp only [List.map_nil, sizes]; omega, h.t0, h.t1, fun y hy => by cases hy⟩
theorem Gd.taken {n : Nat} {st : St} (h : Gd n st) : Gd n (taken st) :=
  ⟨h.q, by have := h.a; show 0 + st.ws.length ≤ n; omega, h.z, h.t0, h.t1, h.w⟩
theorem Gd.tick {n : Nat} {st : St} (h : Gd n st) : Gd (n + 1) (tick st) := by
  have := h.q; have := h.a; have := h.z; have := h.t0; have := h.t1
  exact ⟨by show st.q0.length + st.q1.length + st.ws.length ≤ _; omega, by show st.ans.length + st.ws.length ≤ _; omega, by show sizes st.q0 + sizes st.q1 + sizes (st.ws.map (·.op.data)) ≤ _; omega, by show 0 ≤ st.tks + 1; omega, by show st.tks + 1 ≤ _; omega, h.w⟩
theorem Gd.askD {n : Nat} {st : St} (h : Gd n st) (x : Op) (hd : x.data.size ≤ 9000) : Gd (n + 1) (askD st x) := by
  obtain ⟨g1, g2, g3, g4⟩ := doS_grows (Ytmnlojbfdpjjdaa.tick st) x
  obtain ⟨r1, _⟩ := doS_rest (Ytmnlojbfdpjjdaa.tick st) x
  have := h.q; have := h.a; have := h.z; have := h.t0; have := h.t1
  have e0 : (Ytmnlojbfdpjjdaa.tick st).q0 = st.q0 := rfl
  have e1 : (Ytmnlojbfdpjjdaa.tick st).q1 = st.q1 := rfl
  have e2 : (Ytmnlojbfdpjjdaa.tick st).ws = st.ws := rfl
  have e3 : (Ytmnlojbfdpjjdaa.tick st).ans = st.ans := rfl
  have e4 : (Ytmnlojbfdpjjdaa.tick st).tks = st.tks + 1 := rfl
  rw [e0, e1] at g3 g4
  rw [e2] at g1
  rw [e3] at g2
  rw [e4] at r1
  unfold Ytmnlojbfdpjjdaa.askD answered
  refine ⟨by simp only; rw [g1]; omega, by simp only [List.length_append, List.length_cons, List.length_nil]; rw [g1, g2]; omega, by simp only; rw [g1]; omega, by simp only; rw [r1]; omega, by simp only; rw [r1]; omega, fun y hy => h.w y (by simp only at hy; rw [g1] at hy; exact hy)⟩
theorem Gd.askW {n : Nat} {st : St} (h : Gd n st) (x : Op) (hd : x.data.size ≤ 9000) (hx : OpOk x) : Gd (n + 1) (askW st x) := by
  have := h.q; have := h.a; have := h.z; have := h.t0; have := h.t1
  unfold Ytmnlojbfdpjjdaa.askW
  refine ⟨by simp only [List.length_append, List.length_cons, List.length_nil]; omega, by simp only [List.length_append, List.length_cons, List.length_nil]; omega, by simp only [List.map_append, List.map_cons, List.map_nil, sizes_append, sizes]; omega, by simp only; omega, by simp only; omega, fun y hy => ?_⟩
  simp only [List.mem_append, List.mem_singleton] at hy
  rcases hy with hy | rfl
  · exact h.w y hy
  · exact hx
theorem Sm.askW' {n : Nat} {st : St} (h : Gd n st) (hn : n ≤ 1000) (x : Op) (hd : x.data.size ≤ 9000) : Sm (askW st x) := by
  have := h.q; have := h.a; have := h.z
  unfold Ytmnlojbfdpjjdaa.askW
  exact ⟨by simp only [List.length_append, List.length_cons, List.length_nil]; omega, by simp only [List.length_append, List.length_cons, List.length_nil]; omega, by simp only [List.map_append, List.map_cons, List.map_nil, sizes_append, sizes]; omega⟩
theorem opOk_of {st : St} {x : Op} (hd : x.data.size ≤ 9000) (he : checkE st x = 0) : OpOk x := ⟨(checkE_ok he).1, (checkE_ok he).2, by omega⟩
section
variable {n : Nat} {st : St} (h : Gd n st) (hn : n ≤ 900) (g : Nat) (S : Sl) (w : World) (hP : PipeAt w g S st)
include h hn hP
theorem Ask_gd (x : Op) (hd : x.data.size ≤ 9000) :
    Calls Try.prog 31 #[.pointer (some ⟨g, 0, none⟩), opV x] w fun e w' => e = .returned (.tuple #[.int .i64 (askR st x).2.1, .int .i64 (askR st x).2.2]) ∧ ∃ S', PipeAt w' g S' (askR st x).1 ∧ Turn g S w S' w' :=
  Ask_any x (by omega) g S st w hP (h.sm (by omega)) h.t0 (by have := h.t1; omega) (Sm.askW' h (by omega) x hd) (fun he => (h.askW x hd (opOk_of hd he)).w) ((h.askD x hd).sm (by omega)) (h.askD x hd).w
theorem Write_gd (a : Int) (d : ByteArray) (hd : d.size ≤ 9000) :
    Calls Try.prog 13 #[.pointer (some ⟨g, 0, none⟩), .int .i64 a, .string d] w fun e w' => e = .returned (.tuple #[.int .i64 (onceR st ⟨1, a, 0, d⟩).2.1, .int .i64 (onceR st ⟨1, a, 0, d⟩).2.2.2]) ∧ ∃ S', PipeAt w' g S' (onceR st ⟨1, a, 0, d⟩).1 ∧ Turn g S w S' w' :=
  Write_any a d (by omega) g S st w hP (h.sm (by omega)) ((h.doS ⟨1, a, 0, d⟩ hd).sm (by omega)) h.w
theorem Read_gd (a c : Int) :
    Calls Try.prog 16 #[.pointer (some ⟨g, 0, none⟩), .int .i64 a, .int .i64 c] w fun e w' => e = .returned (.tuple #[.string (onceR st ⟨0, a, c, ⟨#[]⟩⟩).2.2.1, .int .i64 (onceR st ⟨0, a, c, ⟨#[]⟩⟩).2.2.2]) ∧ ∃ S', PipeAt w' g S' (onceR st ⟨0, a, c, ⟨#[]⟩⟩).1 ∧ Turn g S w S' w' :=
  Read_any a c g S st w hP (h.sm (by omega)) ((h.doS ⟨0, a, c, ⟨#[]⟩⟩ (show (0 : Nat) ≤ 9000 by omega)).sm (by omega)) h.w
theorem Send_gd (a : Int) (d : ByteArray) (hd : d.size ≤ 9000) :
    Calls Try.prog 101 #[.agg #[.pointer (some ⟨g, 0, none⟩), .int .i64 a], .string d] w fun e w' => e = .returned (.int .i64 (onceR st ⟨1, a, 0, d⟩).2.2.2) ∧ ∃ S', PipeAt w' g S' (onceR st ⟨1, a, 0, d⟩).1 ∧ Turn g S w S' w' :=
  Send_any a d (by omega) g S st w hP (h.sm (by omega)) ((h.doS ⟨1, a, 0, d⟩ hd).sm (by omega)) h.w
end
/-- a call's result -/
structure Re where
  num : Int
  txt : ByteArray
  err : Int
  ans : List An
/-- what a call of the law does -/
def doR (st : St) (x : Ac) : St × Re :=
  if x.kind = 0 then ((askR st x.op).1, ⟨(askR st x.op).2.1, ⟨#[]⟩, (askR st x.op).2.2, []⟩)
  else if x.kind = 1 then
    if x.op.kind = 0 then ((onceR st ⟨0, x.op.fin, x.op.count, ⟨#[]⟩⟩).1, ⟨0, (onceR st ⟨0, x.op.fin, x.op.count, ⟨#[]⟩⟩).2.2.1, (onceR st ⟨0, x.op.fin, x.op.count, ⟨#[]⟩⟩).2.2.2, []⟩)
    else ((onceR st ⟨1, x.op.fin, 0, x.op.data⟩).1, ⟨(onceR st ⟨1, x.op.fin, 0, x.op.data⟩).2.1, ⟨#[]⟩, (onceR st ⟨1, x.op.fin, 0, x.op.data⟩).2.2.2, []⟩)
  else if x.kind = 2 then ((cancelR st x.tk).1, ⟨0, ⟨#[]⟩, (cancelR st x.tk).2, []⟩)
  else if x.kind = 3 then ((flushR st x.op.fin).1, ⟨0, ⟨#[]⟩, (flushR st x.op.fin).2, []⟩)
  else if x.kind = 4 then ((closeR st x.op.fin).1, ⟨0, ⟨#[]⟩, (closeR st x.op.fin).2, []⟩)
  else if x.kind = 5 then (taken st, ⟨0, ⟨#[]⟩, 0, st.ans⟩)
  else if x.kind = 6 then
    if x.op.fin = 0 ∨ x.op.fin = 1 then ((onceR st ⟨1, x.op.fin, 0, x.op.data⟩).1, ⟨0, ⟨#[]⟩, (onceR st ⟨1, x.op.fin, 0, x.op.data⟩).2.2.2, []⟩) else (st, ⟨0, ⟨#[]⟩, 30, []⟩)
  else if x.kind = 7 then
    if x.op.fin = 0 ∨ x.op.fin = 1 then ((recvR st x.op.fin).1, ⟨0, (recvR st x.op.fin).2.1, (recvR st x.op.fin).2.2, []⟩) else (st, ⟨0, ⟨#[]⟩, 30, []⟩)
  else (st, ⟨0, ⟨#[]⟩, 0, []⟩)
theorem Gd.askR {n : Nat} {st : St} (h : Gd n st) (x : Op) (hd : x.data.size ≤ 9000) : Gd (n + 1) (askR st x).1 := by
  unfold Ytmnlojbfdpjjdaa.askR
  split
  · exact h.mono (by omega)
  · next he =>
    have he' : checkE st x = 0 := by simpa using he
    split
    · split
      · exact h.mono (by omega)
      · exact (h.askW x hd (opOk_of hd he')).settle
    · exact (h.askD x hd).settle
theorem Gd.onceR {n : Nat} {st : St} (h : Gd n st) (x : Op) (hd : x.data.size ≤ 9000) : Gd (n + 1) (onceR st x).1 := by
  unfold Ytmnlojbfdpjjdaa.onceR
  split
  · exact h.mono (by omega)
  · split
    · exact h.mono (by omega)
    · exact (h.doS x hd).settle
theorem Gd.doR {n : Nat} {st : St} (h : Gd n st) (x : Ac) (hd : x.op.data.size ≤ 9000) : Gd (n + 1) (doR st x).1 := by
  unfold Ytmnlojbfdpjjdaa.doR
  split
  · exact h.askR x.op hd
  split
  · split
    · exact h.onceR _ (show (0 : Nat) ≤ 9000 by omega)
    · exact h.onceR _ hd
  split
  · simp only
    unfold Ytmnlojbfdpjjdaa.cancelR
    split
    · exact h.mono (by omega)
    · exact ((h.dropT x.tk).settle).mono (by omega)
  split
  · simp only
    unfold Ytmnlojbfdpjjdaa.flushR
    split
    · exact ((h.flushS x.op.fin).settle).mono (by omega)
    · exact h.mono (by omega)
  split
  · simp only
    unfold Ytmnlojbfdpjjdaa.closeR
    split
    · exact (h.closeS x.op.fin).mono (by omega)
    · exact h.mono (by omega)
  split
  · exact h.taken.mono (by omega)
  split
  · split
    · exact h.onceR _ hd
    · exact h.mono (by omega)
  split
  · split
    · simp only
      unfold Ytmnlojbfdpjjdaa.recvR
      split
      · exact ((h.flushS x.op.fin).settle).mono (by omega)
      · exact h.mono (by omega)
    · exact h.mono (by omega)
  · exact h.mono (by omega)
theorem Gd.new (l : Int) : Gd 0 (newSt l) := ⟨Nat.le_refl _, Nat.le_refl _, Nat.le_refl _, Int.le_refl 0, Int.le_refl 0, fun y hy => by cases hy⟩
/-- the pipe behind a call from a world in which blocks from k0 on were new; those below k1 are not the pipe's -/
structure Out (w : World) (g : Nat) (S : Sl) (k1 : Nat) (S' : Sl) (st' : St) (v : World) : Prop where
  pipe : PipeAt v g S' st'
  turn : Turn g S w S' v
  own : ∀ b, w.heap.size ≤ b → b < k1 → ¬ S'.has g b
  lt : k1 ≤ v.heap.size
theorem Out.of {w W v : World} {g : Nat} {S S' : Sl} {st st' : St} (hP : PipeAt w g S st) (hb : Below w.heap.size w W) (hp : PipeAt v g S' st') (ht : Turn g S W S' v) : Out w g S W.heap.size S' st' v :=
  ⟨hp, (Turn.of_below hb).trans ht, fun b h1 h2 hh => by
    rcases ht.mine b hh with h3 | h3
    · have := hP.lt h3; omega
    · omega, ht.size⟩
theorem Turn.setFar {g : Nat} {S S' : Sl} {w v : World} (h : Turn g S w S' v) {p : Addr} (hp : w.heap.size ≤ p.block) (u : Value) : Turn g S w S' (v.setCell p u) :=
  ⟨h.os, h.tape, h.output, by have := h.size; simpa [World.setCell] using this, fun k hk hn => (Below.heap_setCell v p u k (by omega)).trans (h.block k hk hn), h.mine⟩
theorem Out.set {w v : World} {g k1 : Nat} {S S' : Sl} {st' : St} (h : Out w g S k1 S' st' v) {b i : Nat} (h1 : w.heap.size ≤ b) (h2 : b < k1) (u : Value) : Out w g S k1 S' st' (v.setCell ⟨b, i, none⟩ u) :=
  ⟨h.pipe.keep fun k hk => Below.heap_setCell v _ u k (fun e => h.own b h1 h2 ((show k = b from e) ▸ hk)), h.turn.setFar h1 u, h.own, by have := h.lt; simpa [World.setCell] using this⟩
end Go.Proofs.Ytmnlojbfdpjjdaa
