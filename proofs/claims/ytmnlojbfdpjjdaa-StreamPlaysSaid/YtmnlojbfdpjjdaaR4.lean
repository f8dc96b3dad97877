/- An append of one row to another, at a step of a region that draws its order. -/
import Derived.Test.YtmnlojbfdpjjdaaR3
import Derived.Deep.AppendLies
namespace Go.Proofs.Ytmnlojbfdpjjdaa
open Go.RowKit
variable {F : Nat → Prop}
section
variable {P : Program} {w : World}
/-- a row of nothing at a block of no cells -/
theorem Row.empty {g : Nat} {e size : Nat} (h : Blk w g e []) : Row w e size (.slice (some ⟨g, 0, none⟩) 0 0) 0 [] :=
  ⟨by simp, .inr ⟨g, 0, 0, #[], rfl, h, Nat.le_refl _, by unfold maxLen; omega, by simp, fun j hj => by simp at hj⟩⟩
/-- a row of one element, alone in its block -/
theorem Row.one {g : Nat} {e size : Nat} {cs : List Value} (h : Blk w g e cs) (hl : cs.length = size) : Row w e size (.slice (some ⟨g, 0, none⟩) 1 1) 1 cs :=
  ⟨by omega, .inr ⟨g, 0, 1, cs.toArray, rfl, h, Nat.le_refl _, by unfold maxLen; omega, by simp; omega, fun j hj => by simp⟩⟩
theorem run_append_rows (t ty e : TypeId) (i : TypeInfo) (z : Value) (size bytes : Nat) (ht : P.underlying t = some (.slice e)) (hi : P.info? e = some i) (hz : i.zero = some z)
    (hsize : i.size = size) (hby : i.bytes = bytes) (hzs : z.cells.size = size) (hsz : 0 < size)
    (v : Value) (n : Nat) (xs : List Value) (hrow : Row w e size v n xs) (u : Value) (m : Nat) (ys : List Value) (hsrc : Row w e size u m ys) (h1 : ∀ c ∈ ys, c.oneCell' = true)
    (h63 : n + m ≤ maxLen) (hbytes : (n + m) * bytes ≤ 140737488355328) :
    ∃ v' w', (Builtin.append_ #[t, t] ty #[v, u]).run P w = .ok v' w' ∧ Row w' e size v' (n + m) (xs ++ ys) ∧ w.grownBy w' v.ownBlock ∧ (v'.ownBlock = v.ownBlock ∨ ∀ k, v'.ownBlock = some k → w.heap.size ≤ k) := by
  rcases hsrc.2 with ⟨rfl, rfl⟩ | ⟨g, off, cap, cs, rfl, hh, k1, k2, k3, k4⟩
  · have hy : ys = [] := List.eq_nil_of_length_eq_zero (by simpa using hsrc.1)
    subst hy
    refine ⟨v, w, ?_, by simpa using hrow, ⟨rfl, rfl, rfl, Nat.le_refl _, fun _ _ _ => rfl⟩, .inl rfl⟩
    obtain ⟨a, c, rfl, hc, _⟩ := hrow.form
    cases a with
    | none =>
      rcases hrow.2 with ⟨h0, rfl⟩ | ⟨g, off, cap, cs, h0, _⟩
      · injection h0 with _ _ h0
        subst h0
        simp [Builtin.append_, run_underlying ht, sizeOf, typeInfo, hi, Builtin.lenOf, Builtin.firstCells]
      · cases h0
    | some a => simp [Builtin.append_, run_underlying ht, sizeOf, typeInfo, hi, Builtin.lenOf, Builtin.firstCells, hc, storeCells]
  · refine run_append_row t ty e i z size bytes ht hi hz hsize hby hzs hsz v n xs hrow ⟨g, off, none⟩ m cap ys hsrc.1 (fun j c hj => ?_) h1 h63 hbytes
    have hjl : j < m * size := by rw [← hsrc.1]; exact (List.getElem?_eq_some_iff.1 hj).1
    rw [Addr.add_lit, cell_of_row w g _ cs e (0, 0) hh, k4 j hjl, hj]
/-- blocks from B on -/
def Frsh (B : Nat) (v : Value) : Prop := ∀ k, v.ownBlock = some k → B ≤ k
theorem Frsh.at_ {B g : Nat} {n c : Nat} (h : B ≤ g) : Frsh B (.slice (some ⟨g, 0, none⟩) n c) := by
  intro k hk
  have : g = k := by simpa [Value.ownBlock] using hk
  omega
theorem step_append_rows {ops : Array Oper} {o : Oper} {a : Act} {K : Act → World → Prop} {Q : Exit → Act → World → Prop} {E : Prop} (hgd : o.guard = none) (s x : Operand) (t : TypeId)
    (ho : o.op = .call { callee := .builtin .append, args := #[s, x], argTypes := #[t, t] })
    (e : TypeId) (i : TypeInfo) (z : Value) (size bytes : Nat) (ht : P.underlying t = some (.slice e)) (hi : P.info? e = some i) (hz : i.zero = some z)
    (hsize : i.size = size) (hby : i.bytes = bytes) (hzs : z.cells.size = size) (hsz : 0 < size)
    {v : Value} (hs : a.eval s = v) {u : Value} (hx : a.eval x = u) (n : Nat) (xs : List Value) (hrow : Row w e size v n xs) (m : Nat) (ys : List Value) (hsrc : Row w e size u m ys) (h1 : ∀ c ∈ ys, c.oneCell' = true)
    (h63 : n + m ≤ maxLen) (hbytes : (n + m) * bytes ≤ 140737488355328)
    {w0 : World} (hb : Below w0.heap.size w0 w) (hf : Frsh w0.heap.size v)
    (h : ∀ A C w', Row w' e size (.slice A (n + m) C) (n + m) (xs ++ ys) → Frsh w0.heap.size (.slice A (n + m) C) → Below w0.heap.size w0 w' → w.grownBy w' v.ownBlock → K (a.put o.dst (.slice A (n + m) C)) w') :
    if Region.wanted o (yielded ops a.tmps) = true then Oper.wp P o a w K Q else E := by
  have hw : Region.wanted o (yielded ops a.tmps) = true := by simp [Region.wanted, hgd]
  rw [if_pos hw]
  obtain ⟨v', w', hrun, h2, h3, h4⟩ := run_append_rows (P := P) (w := w) t o.type e i z size bytes ht hi hz hsize hby hzs hsz v n xs hrow u m ys hsrc h1 h63 hbytes
  obtain ⟨A, C, rfl, _, _⟩ := h2.form
  unfold Oper.wp execOp
  simp only [ho, resolve, invoke, builtin, Sem.run_bind, Sem.run_pure, Result.andThen_ok, List.map_toArray, List.map_cons, List.map_nil, hs, hx, hrun]
  refine h A C w' h2 (fun k hk => ?_) (hb.grown h3 hb.size hf) h3
  rcases h4 with h4 | h4
  · exact hf k (h4 ▸ hk)
  · exact Nat.le_trans hb.size (h4 k hk)
/-- the same in a plain region -/
theorem list_append_rows {ops : Array Oper} {rest : List Oper} {o : Oper} {a : Act} {Q : Exit → Act → World → Prop} (hgd : o.guard = none) (s x : Operand) (t : TypeId)
    (ho : o.op = .call { callee := .builtin .append, args := #[s, x], argTypes := #[t, t] })
    (e : TypeId) (i : TypeInfo) (z : Value) (size bytes : Nat) (ht : P.underlying t = some (.slice e)) (hi : P.info? e = some i) (hz : i.zero = some z)
    (hsize : i.size = size) (hby : i.bytes = bytes) (hzs : z.cells.size = size) (hsz : 0 < size)
    {v : Value} (hs : a.eval s = v) {u : Value} (hx : a.eval x = u) (n : Nat) (xs : List Value) (hrow : Row w e size v n xs) (m : Nat) (ys : List Value) (hsrc : Row w e size u m ys) (h1 : ∀ c ∈ ys, c.oneCell' = true)
    (h63 : n + m ≤ maxLen) (hbytes : (n + m) * bytes ≤ 140737488355328)
    {w0 : World} (hb : Below w0.heap.size w0 w) (hf : Frsh w0.heap.size v)
    (h : ∀ A C w', Row w' e size (.slice A (n + m) C) (n + m) (xs ++ ys) → Frsh w0.heap.size (.slice A (n + m) C) → Below w0.heap.size w0 w' → w.grownBy w' v.ownBlock → wpList P ops Q rest (a.put o.dst (.slice A (n + m) C)) w') : wpList P ops Q (o :: rest) a w :=
  wpList_plain hgd fun K hK => by
    obtain ⟨v', w', hrun, h2, h3, h4⟩ := run_append_rows (P := P) (w := w) t o.type e i z size bytes ht hi hz hsize hby hzs hsz v n xs hrow u m ys hsrc h1 h63 hbytes
    obtain ⟨A, C, rfl, _, _⟩ := h2.form
    unfold Oper.wp execOp
    simp only [ho, resolve, invoke, builtin, Sem.run_bind, Sem.run_pure, Result.andThen_ok, List.map_toArray, List.map_cons, List.map_nil, hs, hx, hrun]
    refine hK _ _ (h A C w' h2 (fun k hk => ?_) (hb.grown h3 hb.size hf) h3)
    rcases h4 with h4 | h4
    · exact hf k (h4 ▸ hk)
    · exact Nat.le_trans hb.size (h4 k hk)
end
theorem strC_one (l : List ByteArray) : ∀ c ∈ strC l, c.oneCell' = true := by
  intro c hc
  obtain ⟨s, _, rfl⟩ := List.mem_map.1 hc
  rfl
theorem ansC_one (l : List An) : ∀ c ∈ ansC l, c.oneCell' = true := by
  intro c hc
  obtain ⟨s, _, hs⟩ := List.mem_flatMap.1 hc
  simp only [anC, List.mem_cons, List.not_mem_nil, or_false] at hs
  rcases hs with rfl | rfl | rfl | rfl <;> rfl
theorem rwsC_one (l : List Wt) : ∀ c ∈ rwsC l, c.oneCell' = true := by
  intro c hc
  obtain ⟨s, _, hs⟩ := List.mem_flatMap.1 hc
  simp only [rwC, List.mem_cons, List.not_mem_nil, or_false] at hs
  rcases hs with rfl | rfl | rfl | rfl | rfl <;> rfl
theorem ansC_append (a b : List An) : ansC (a ++ b) = ansC a ++ ansC b := by simp [ansC]
theorem rwsC_append (a b : List Wt) : rwsC (a ++ b) = rwsC a ++ rwsC b := by simp [rwsC]
theorem Try.info115 : (Try.prog.info? 115).map (fun i => (i.zero, i.size, i.bytes)) = some (some (.agg #[.int .i64 0, .int .i64 0, .string ⟨#[]⟩, .int .i64 0]), 4, 40) := by kernel_rfl
theorem Try.info120 : (Try.prog.info? 120).map (fun i => (i.zero, i.size, i.bytes)) = some (some (.agg #[.int .i64 0, .int .i64 0, .int .i64 0, .int .i64 0, .string ⟨#[]⟩]), 5, 48) := by kernel_rfl
end Go.Proofs.Ytmnlojbfdpjjdaa
