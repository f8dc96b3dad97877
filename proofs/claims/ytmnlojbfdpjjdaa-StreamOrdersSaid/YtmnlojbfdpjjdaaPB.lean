/- StreamServes: the memory of the law's loops under stores and appends. -/
import Derived.Test.YtmnlojbfdpjjdaaPA
import Derived.Test.YtmnlojbfdpjjdaaP9
namespace Go.Proofs.Ytmnlojbfdpjjdaa
open Go.RowKit
section
variable {κ α : Type} {k : TypeId} {KC : Ke κ k} {E : El α} {w w' : World} {b n m : Nat} {fm : κ → Option α}
theorem MapIs.obj (h : MapIs KC E w b n fm m) : ∃ es c, w.heap[b]? = some (.map es c) := by
  obtain ⟨D, ⟨es, c, h1, _⟩, _⟩ := h
  exact ⟨es, c, h1⟩
theorem MapIs.neRow (h : MapIs KC E w b n fm m) {e : TypeId} {size l : Nat} {v : Value} {xs : List Value} (hr : Row w e size v l xs) : v.ownBlock ≠ some b := by
  obtain ⟨es, c, h1⟩ := h.obj
  rcases hr.2 with ⟨rfl, _⟩ | ⟨g, off, cap, cs, rfl, hh, _⟩
  · simp [Value.ownBlock]
  · intro he
    have : g = b := by simpa [Value.ownBlock] using he
    subst this
    rw [hh] at h1
    injection h1 with h1
    cases h1
theorem MapIs.neBlk (h : MapIs KC E w b n fm m) {g : Nat} {t : TypeId} {cs : List Value} (hr : Blk w g t cs) : g ≠ b := by
  obtain ⟨es, c, h1⟩ := h.obj
  rintro rfl
  unfold Blk at hr
  rw [hr] at h1
  injection h1 with h1
  cases h1
theorem MapIs.grown (h : MapIs KC E w b n fm m) {o : Option Nat} (hg : w.grownBy w' o) (ho : some b ≠ o) : MapIs KC E w' b n fm m := h.keep (hg.block b h.lt ho)
end
theorem Row.grownMap {w w' : World} {e : TypeId} {size n : Nat} {v : Value} {xs : List Value} (h : Row w e size v n xs) {κ α : Type} {k : TypeId} {KC : Ke κ k} {E : El α} {b nn m : Nat} {fm : κ → Option α} (hm : MapIs KC E w b nn fm m) (hg : w.grownBy w' (some b)) : Row w' e size v n xs :=
  h.grown hg fun k hk e => hm.neRow h (by rw [hk]; exact e.symm)
theorem Blk.grownMap {w w' : World} {g : Nat} {t : TypeId} {cs : List Value} (h : Blk w g t cs) {κ α : Type} {k : TypeId} {KC : Ke κ k} {E : El α} {b nn m : Nat} {fm : κ → Option α} (hm : MapIs KC E w b nn fm m) (hg : w.grownBy w' (some b)) : Blk w' g t cs :=
  h.grown hg fun e => hm.neBlk h (by injection e)
theorem grown_low {a w w' : World} {b : Nat} (h : Below a.heap.size a w) (hg : w.grownBy w' (some b)) (hb : a.heap.size ≤ b) : Below a.heap.size a w' :=
  ⟨hg.os.trans h.os, hg.tape.trans h.tape, hg.output.trans h.output, Nat.le_trans h.size hg.size, fun k hk => (hg.block k (Nat.lt_of_lt_of_le hk h.size) (fun e => by
    have e1 : k = b := by injection e
    omega)).trans (h.block k hk)⟩
section
variable {w v v' : World} {mb gb g n c d : Nat} {S : Sl} {st : St} {f : Int → Option Op} {q : Int → Option Bool} {sv : Value} {As : List An}
theorem Ms.more (h : Ms w mb gb g n S st f c q d sv As v) {n' : Nat} (hn : n ≤ n') : Ms w mb gb g n' S st f c q d sv As v :=
  ⟨h.pipe, h.own, h.low, h.map.mono hn, h.gone.mono hn, h.row, h.rown, h.mb0, h.gb0, h.ne⟩
theorem Ms.storeA (h : Ms w mb gb g n S st f c q d sv As v) {f' : Int → Option Op} {c' : Nat} (hm : Asked v' mb (n + 1) f' c') (hg : v.grownBy v' (some mb)) : Ms w mb gb g (n + 1) S st f' c' q d sv As v' :=
  ⟨h.pipe.keep fun k hk => hg.block k (h.pipe.lt hk) (fun e => (h.own k hk).2.1 (by injection e)), h.own, grown_low h.low hg h.mb0, hm, (h.gone.grown hg (fun e => h.ne (by injection e with e; exact e.symm))).mono (Nat.le_succ n), h.row.grownMap h.map hg, h.rown, h.mb0, h.gb0, h.ne⟩
theorem Ms.storeG (h : Ms w mb gb g n S st f c q d sv As v) {q' : Int → Option Bool} {d' : Nat} (hm : MapIs intK boolE v' gb (n + 1) q' d') (hg : v.grownBy v' (some gb)) : Ms w mb gb g (n + 1) S st f c q' d' sv As v' :=
  ⟨h.pipe.keep fun k hk => hg.block k (h.pipe.lt hk) (fun e => (h.own k hk).2.2 (by injection e)), h.own, grown_low h.low hg h.gb0, (MapIs.grown h.map hg (fun e => h.ne (by injection e))).mono (Nat.le_succ n), hm, h.row.grownMap h.gone hg, h.rown, h.mb0, h.gb0, h.ne⟩
/-- the slice of answers has grown -/
theorem Ms.grow (h : Ms w mb gb g n S st f c q d sv As v) {sv' : Value} {As' : List An} (hr : Row v' 51 4 sv' As'.length (ansC As')) (hg : v.grownBy v' sv.ownBlock) (ho : sv'.ownBlock = sv.ownBlock ∨ ∀ k, sv'.ownBlock = some k → v.heap.size ≤ k) : Ms w mb gb g n S st f c q d sv' As' v' := by
  refine ⟨h.pipe.keep fun k hk => hg.block k (h.pipe.lt hk) (fun e => (h.rown k e.symm).2 hk), h.own, ⟨hg.os.trans h.low.os, hg.tape.trans h.low.tape, hg.output.trans h.low.output, Nat.le_trans h.low.size hg.size, fun k hk => (hg.block k (Nat.lt_of_lt_of_le hk h.low.size) (fun e => by
    have := (h.rown k e.symm).1
    omega)).trans (h.low.block k hk)⟩, MapIs.grown h.map hg (fun e => MapIs.neRow h.map h.row e.symm), h.gone.grown hg (fun e => h.gone.neRow h.row e.symm), hr, fun k hk => ?_, h.mb0, h.gb0, h.ne⟩
  rcases ho with ho | ho
  · exact h.rown k (ho ▸ hk)
  · have h1 := ho k hk
    have h2 := h.low.size
    exact ⟨by omega, fun hh => by have := h.pipe.lt hh; omega⟩
end
/-- the memory of the second loop: all that was asked, what is gone, the last ticket of each key, the answers, the pipe -/
structure Mt (w : World) (mb gb lb g n : Nat) (S : Sl) (st : St) (f : Int → Option Op) (c : Nat) (q : Int → Option Bool) (d : Nat) (lf : Bool × Bool → Option Int) (sv : Value) (As : List An) (v : World) : Prop where
  ms : Ms w mb gb g n S st f c q d sv As v
  last : ∃ m, MapIs pairK numE v lb n lf m
  lb0 : w.heap.size ≤ lb
  nl1 : mb ≠ lb
  nl2 : gb ≠ lb
  nl3 : ¬ S.has g lb
section
variable {w v v' : World} {mb gb lb g n c d : Nat} {S : Sl} {st : St} {f : Int → Option Op} {q : Int → Option Bool} {sv : Value} {As : List An} {lf : Bool × Bool → Option Int}
theorem Mt.below (h : Mt w mb gb lb g n S st f c q d lf sv As v) (hb : Below v.heap.size v v') : Mt w mb gb lb g n S st f c q d lf sv As v' :=
  ⟨h.ms.below hb, h.last.imp fun _ hm => hm.below hb, h.lb0, h.nl1, h.nl2, h.nl3⟩
theorem Mt.more (h : Mt w mb gb lb g n S st f c q d lf sv As v) {n' : Nat} (hn : n ≤ n') : Mt w mb gb lb g n' S st f c q d lf sv As v :=
  ⟨h.ms.more hn, h.last.imp fun _ hm => hm.mono hn, h.lb0, h.nl1, h.nl2, h.nl3⟩
theorem Mt.storeG (h : Mt w mb gb lb g n S st f c q d lf sv As v) {q' : Int → Option Bool} {d' : Nat} (hm : MapIs intK boolE v' gb (n + 1) q' d') (hg : v.grownBy v' (some gb)) : Mt w mb gb lb g (n + 1) S st f c q' d' lf sv As v' :=
  ⟨h.ms.storeG hm hg, h.last.imp fun _ hl => (hl.grown hg (fun e => h.nl2 (by injection e with e; exact e.symm))).mono (Nat.le_succ n), h.lb0, h.nl1, h.nl2, h.nl3⟩
theorem Mt.storeL (h : Mt w mb gb lb g n S st f c q d lf sv As v) {lf' : Bool × Bool → Option Int} {m' : Nat} (hm : MapIs pairK numE v' lb (n + 1) lf' m') (hg : v.grownBy v' (some lb)) : Mt w mb gb lb g (n + 1) S st f c q d lf' sv As v' := by
  obtain ⟨m0, hl⟩ := h.last
  have hs := h.ms
  exact ⟨⟨hs.pipe.keep fun k hk => hg.block k (hs.pipe.lt hk) (fun e => h.nl3 (by injection e with e; exact e ▸ hk)), hs.own, grown_low hs.low hg h.lb0, (MapIs.grown hs.map hg (fun e => h.nl1 (by injection e))).mono (Nat.le_succ n), (hs.gone.grown hg (fun e => h.nl2 (by injection e))).mono (Nat.le_succ n), hs.row.grownMap hl hg, hs.rown, hs.mb0, hs.gb0, hs.ne⟩, ⟨m', hm⟩, h.lb0, h.nl1, h.nl2, h.nl3⟩
end
/-- nothing is appended to answers -/
theorem run_append_zero {w : World} (a : Option Addr) (n cap : Nat) (hle : n ≤ cap) (a2 : Option Addr) (c2 : Nat) : (Builtin.append_ #[45, 45] 45 #[.slice a n cap, .slice a2 0 c2]).run Try.prog w = .ok (.slice a n cap) w := by
  obtain ⟨i0, hi, _, _, _⟩ := info_parts Try.info51
  refine run_append_nothing w 45 45 45 51 i0 Try.underlying45 hi a n cap hle _ ?_
  cases a2 with
  | none => exact Src.ofNil w Try.underlying45 c2
  | some a2 => exact Src.ofSlice w Try.underlying45 a2 0 c2 [] (by simp) (fun j u hu => by simp at hu) (fun u hu => by cases hu)
theorem ansC_append (a b : List An) : ansC (a ++ b) = ansC a ++ ansC b := by unfold ansC; simp
theorem ansC_one (l : List An) : ∀ u ∈ ansC l, u.oneCell' = true := by
  intro u hu
  unfold ansC at hu
  obtain ⟨a, _, ha⟩ := List.mem_flatMap.1 hu
  simp only [anC, List.mem_cons, List.not_mem_nil, or_false] at ha
  rcases ha with rfl | rfl | rfl | rfl <;> rfl
/-- answers are appended to answers -/
theorem run_append_answers {w : World} {v : Value} {As Bs : List An} (h : Row w 51 4 v As.length (ansC As)) {v2 : Value} (h2 : Row w 51 4 v2 Bs.length (ansC Bs)) (hl : As.length + Bs.length ≤ 100000) :
    ∃ v' w', (Builtin.append_ #[45, 45] 45 #[v, v2]).run Try.prog w = .ok v' w' ∧ Row w' 51 4 v' (As ++ Bs).length (ansC (As ++ Bs)) ∧ w.grownBy w' v.ownBlock ∧ (v'.ownBlock = v.ownBlock ∨ ∀ k, v'.ownBlock = some k → w.heap.size ≤ k) := by
  obtain ⟨i0, hi, hz0, hz1, hz2⟩ := info_parts Try.info51
  obtain ⟨v', w', h3, h4, h5, h6⟩ := run_append_rows 45 45 51 i0 _ 4 40 Try.underlying45 hi hz0 hz1 hz2 rfl (by decide) v As.length (ansC As) h v2 Bs.length (ansC Bs) h2 (ansC_one Bs) (by unfold maxLen; omega) (by omega)
  exact ⟨v', w', h3, by rw [ansC_append, List.length_append]; exact h4, h5, h6⟩
theorem ansC_get (l : List An) (m : Nat) (hm : m < l.length) (i : Nat) (hi : i < 4) : (ansC l)[m * 4 + i]? = (anC (l.getD m anZ))[i]? := by
  have h := ansC_append (l.take m) (l.drop m)
  rw [List.take_append_drop] at h
  rw [h, List.getElem?_append_right (by rw [ansC_len, List.length_take]; omega), ansC_len, List.length_take, Nat.min_eq_left (Nat.le_of_lt hm)]
  rw [show m * 4 + i - m * 4 = i by omega, List.drop_eq_getElem_cons hm]
  unfold ansC
  rw [List.flatMap_cons, List.getElem?_append_left (by simp [anC]; omega), List.getD_eq_getElem?_getD, List.getElem?_eq_getElem hm]
  rfl
theorem an_cells {w : World} {gb off m : Nat} {l : List An} (h : ∀ j, j < l.length * 4 → w.cell? ⟨gb, off + j, none⟩ = (ansC l)[j]?) (hm : m < l.length) (y : An) (hy : y = l.getD m anZ) :
    w.cell? ⟨gb, off + m * 4, none⟩ = some (.int .i64 y.tk) ∧ w.cell? ⟨gb, off + m * 4 + 1, none⟩ = some (.int .i64 y.cnt) ∧ w.cell? ⟨gb, off + m * 4 + 2, none⟩ = some (.string y.data) ∧ w.cell? ⟨gb, off + m * 4 + 3, none⟩ = some (.int .i64 y.err) := by
  subst hy
  have hg := fun i (hi : i < 4) => (h (m * 4 + i) (by omega)).trans (ansC_get l m hm i hi)
  simp only [← Nat.add_assoc] at hg
  exact ⟨hg 0 (by omega), hg 1 (by omega), hg 2 (by omega), hg 3 (by omega)⟩
end Go.Proofs.Ytmnlojbfdpjjdaa
