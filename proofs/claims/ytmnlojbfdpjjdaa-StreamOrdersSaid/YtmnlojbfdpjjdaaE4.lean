/- A map of the call's own, as a function of its keys; the laws at the operations: a look-up, with and without the second value, a store, its length. The conditions stand in each theorem. -/
import Derived.Test.YtmnlojbfdpjjdaaE2
import Derived.Maps.OwnSet
namespace Go.Proofs.Ytmnlojbfdpjjdaa
open Go.RowKit
/-- how an element reads -/
structure El (α : Type) where
  val : α → Value
  dat : α → DataW Unit
  rd : Value → Option (DataW Unit × List MemPlace)
  reads : ∀ x, rd (val x) = some (dat x, [])
  inv : ∀ v x ps, rd v = some (dat x, ps) → v = val x
  zero : α
/-- how a key reads, of the type k; ok: which are keys -/
structure Ke (κ : Type) (k : TypeId) where
  val : κ → Value
  lit : κ → Lit
  ok : κ → Prop
  read : ∀ x, ok x → keyOf Try.prog k (val x) = some (lit x)
  inj : ∀ x y, lit x = lit y → x = y
  law : Maps.Keyed Try.prog k
/-- block b is the map f, of m entries (of at most n) -/
def MapIs {κ α : Type} {k : TypeId} (KC : Ke κ k) (E : El α) (w : World) (b n : Nat) (f : κ → Option α) (m : Nat) : Prop :=
  ∃ D, w.ownsMap Try.prog k E.rd b n D ∧ Maps.size D = m ∧ ∀ x, KC.ok x → Maps.has D (KC.lit x) = (f x).isSome ∧ D.atKey (KC.lit x) (E.dat E.zero) = E.dat ((f x).getD E.zero)
section
variable {κ α : Type} [DecidableEq κ] {k : TypeId} {KC : Ke κ k} {E : El α} {w w' : World} {b n m : Nat} {f : κ → Option α}
/-- f with a at x -/
def upd (f : κ → Option α) (x : κ) (a : α) : κ → Option α := fun y => if y = x then some a else f y
omit [DecidableEq κ] in
theorem MapIs.made (KC : Ke κ k) (E : El α) (w : World) : MapIs KC E (w.alloc (.map #[] 0)) w.heap.size 0 (fun _ => none) 0 :=
  ⟨.map [], World.ownsMap_made w Try.prog k E.rd, rfl, fun _ _ => ⟨rfl, rfl⟩⟩
omit [DecidableEq κ] in
theorem MapIs.lt (h : MapIs KC E w b n f m) : b < w.heap.size := h.choose_spec.1.lt
omit [DecidableEq κ] in
theorem MapIs.mono (h : MapIs KC E w b n f m) {n' : Nat} (hn : n ≤ n') : MapIs KC E w b n' f m := by
  obtain ⟨D, h1, h2⟩ := h
  exact ⟨D, h1.mono hn, h2⟩
omit [DecidableEq κ] in
theorem MapIs.keep (h : MapIs KC E w b n f m) (hk : w'.heap[b]? = w.heap[b]?) : MapIs KC E w' b n f m := by
  obtain ⟨D, ⟨es, c, h1, h2⟩, h3⟩ := h
  exact ⟨D, ⟨es, c, hk.trans h1, h2⟩, h3⟩
omit [DecidableEq κ] in
theorem MapIs.below (h : MapIs KC E w b n f m) (hb : Below w.heap.size w w') : MapIs KC E w' b n f m := h.keep (hb.block b h.lt)
omit [DecidableEq κ] in
theorem MapIs.far (h : MapIs KC E w b n f m) {p : Addr} (hp : b ≠ p.block) (u : Value) : MapIs KC E (w.setCell p u) b n f m := h.keep (Below.heap_setCell w p u b hp)
omit [DecidableEq κ] in
theorem MapIs.alloc (h : MapIs KC E w b n f m) (o : Obj) : MapIs KC E (w.alloc o) b n f m := h.keep (Below.heap_alloc w o b h.lt)
omit [DecidableEq κ] in
theorem MapIs.turn {g : Nat} {S S' : Sl} (h : MapIs KC E w b n f m) (ht : Turn g S w S' w') (hn : ¬ S.has g b) : MapIs KC E w' b n f m := h.keep (ht.block b h.lt hn)
omit [DecidableEq κ] in
theorem MapIs.look {t e : TypeId} (h : MapIs KC E w b n f m) (ht : Try.prog.underlying t = some (.map k e)) (hz : (zeroValue e).run Try.prog w = .ok (E.val E.zero) w) {x : κ} (hx : KC.ok x) :
    (Instr.lookup t (.map (some b)) (KC.val x) true).run Try.prog w = .ok (.tuple #[E.val ((f x).getD E.zero), .bool (f x).isSome]) w := by
  obtain ⟨D, h1, h2, h3⟩ := h
  obtain ⟨v, ps, hr, hv⟩ := h1.look_ok KC.law ht hz (E.reads E.zero) (KC.read x hx)
  rw [(h3 x hx).2] at hv
  rw [hr, (h3 x hx).1, E.inv _ _ _ hv]
omit [DecidableEq κ] in
theorem MapIs.look1 {t e : TypeId} (h : MapIs KC E w b n f m) (ht : Try.prog.underlying t = some (.map k e)) (hz : (zeroValue e).run Try.prog w = .ok (E.val E.zero) w) {x : κ} (hx : KC.ok x) :
    (Instr.lookup t (.map (some b)) (KC.val x) false).run Try.prog w = .ok (E.val ((f x).getD E.zero)) w := by
  obtain ⟨D, h1, h2, h3⟩ := h
  obtain ⟨v, ps, hr, hv⟩ := h1.lookup KC.law ht hz (E.reads E.zero) (KC.read x hx)
  rw [(h3 x hx).2] at hv
  rw [hr, E.inv _ _ _ hv]
theorem MapIs.store {t e : TypeId} (h : MapIs KC E w b n f m) (ht : Try.prog.underlying t = some (.map k e)) (hn : n < maxLen) {x : κ} (hx : KC.ok x) (a : α) :
    ∃ w', (Instr.mapUpdate t (.map (some b)) (KC.val x) (E.val a)).run Try.prog w = .ok () w' ∧ MapIs KC E w' b (n + 1) (upd f x a) (if (f x).isSome then m else m + 1) ∧ w.grownBy w' (some b) := by
  obtain ⟨D, h1, h2, h3⟩ := h
  obtain ⟨w1, hr, ho, hg⟩ := h1.update KC.law ht hn (KC.read x hx) (E.reads a)
  have hk := KC.law.key (KC.read x hx)
  refine ⟨w1, hr, ⟨_, ho, ?_, fun y hy => ?_⟩, hg⟩
  · rw [Maps.size_put (h1.tidy KC.law), h2, (h3 x hx).1]
  · unfold upd
    by_cases hyx : y = x
    · subst hyx
      rw [Maps.has_put_same h1.isMap hk, Maps.atKey_put_same h1.isMap hk, if_pos rfl]
      exact ⟨rfl, rfl⟩
    · have hl : KC.lit y ≠ KC.lit x := fun e => hyx (KC.inj _ _ e)
      rw [Maps.has_put_other hl, Maps.atKey_put_other hl, if_neg hyx]
      exact h3 y hy
omit [DecidableEq κ] in
theorem wp_look {ops : Array Oper} {rest : List Oper} {o : Oper} {a : Act} {Q : Exit → Act → World → Prop} (hg : o.guard = none) (mo xo : Operand) (t : TypeId) (hop : o.op = Op.lookup t mo xo true) (e : TypeId)
    (h : MapIs KC E w b n f m) (ht : Try.prog.underlying t = some (.map k e)) (hz : (zeroValue e).run Try.prog w = .ok (E.val E.zero) w) (x : κ) (hx : KC.ok x) (hm : a.eval mo = .map (some b)) (hxo : a.eval xo = KC.val x)
    (hK : wpList Try.prog ops Q rest (a.put o.dst (.tuple #[E.val ((f x).getD E.zero), .bool (f x).isSome])) w) : wpList Try.prog ops Q (o :: rest) a w := by
  refine wpList_plain hg fun K' hK' => ?_
  have hrun := h.look ht hz hx
  unfold Oper.wp
  simp [execOp, hop, hm, hxo, hrun, Result.andThen]
  exact hK' _ _ hK
omit [DecidableEq κ] in
theorem wp_look1 {ops : Array Oper} {rest : List Oper} {o : Oper} {a : Act} {Q : Exit → Act → World → Prop} (hg : o.guard = none) (mo xo : Operand) (t : TypeId) (hop : o.op = Op.lookup t mo xo false) (e : TypeId)
    (h : MapIs KC E w b n f m) (ht : Try.prog.underlying t = some (.map k e)) (hz : (zeroValue e).run Try.prog w = .ok (E.val E.zero) w) (x : κ) (hx : KC.ok x) (hm : a.eval mo = .map (some b)) (hxo : a.eval xo = KC.val x)
    (hK : wpList Try.prog ops Q rest (a.put o.dst (E.val ((f x).getD E.zero))) w) : wpList Try.prog ops Q (o :: rest) a w := by
  refine wpList_plain hg fun K' hK' => ?_
  have hrun := h.look1 ht hz hx
  unfold Oper.wp
  simp [execOp, hop, hm, hxo, hrun, Result.andThen]
  exact hK' _ _ hK
theorem wp_store {ops : Array Oper} {rest : List Oper} {o : Oper} {a : Act} {Q : Exit → Act → World → Prop} (hg : o.guard = none) (mo xo vo : Operand) (t : TypeId) (hop : o.op = Op.mapUpdate t mo xo vo) (e : TypeId)
    (h : MapIs KC E w b n f m) (ht : Try.prog.underlying t = some (.map k e)) (hn : n < maxLen) (x : κ) (hx : KC.ok x) (v : α) (hm : a.eval mo = .map (some b)) (hxo : a.eval xo = KC.val x) (hvo : a.eval vo = E.val v)
    (hK : ∀ w', MapIs KC E w' b (n + 1) (upd f x v) (if (f x).isSome then m else m + 1) → w.grownBy w' (some b) → wpList Try.prog ops Q rest (a.put o.dst undef) w') : wpList Try.prog ops Q (o :: rest) a w := by
  refine wpList_plain hg fun K' hK' => ?_
  obtain ⟨w1, hrun, h1, h2⟩ := h.store ht hn hx v
  unfold Oper.wp
  simp [execOp, hop, hm, hxo, hvo, hrun, Result.andThen]
  exact hK' _ _ (hK w1 h1 h2)
omit [DecidableEq κ] in
theorem wp_maplen {ops : Array Oper} {rest : List Oper} {o : Oper} {a : Act} {Q : Exit → Act → World → Prop} (hg : o.guard = none) (mo : Operand) (t : TypeId) (hop : o.op = Op.call { callee := Callee.builtin Builtin.len, args := #[mo], argTypes := #[t] }) (e : TypeId)
    (h : MapIs KC E w b n f m) (ht : Try.prog.underlying t = some (.map k e)) (hm : a.eval mo = .map (some b))
    (hK : wpList Try.prog ops Q rest (a.put o.dst (.int .i64 m)) w) : wpList Try.prog ops Q (o :: rest) a w := by
  obtain ⟨D, h1, h2, _⟩ := h
  subst h2
  exact wpList_len_own w hg mo t hop k e ht E.rd b n D hm h1 hK
end
/-- operations as elements -/
def op0 : Op := ⟨0, 0, 0, ⟨#[]⟩⟩
def opDat (x : Op) : DataW Unit := .agg [.lit (.int .i64 x.kind), .lit (.int .i64 x.fin), .lit (.int .i64 x.count), .lit (.string x.data.data.toList)]
def opRd : Value → Option (DataW Unit × List MemPlace)
  | .agg cs => match cs.toList with
    | [.int .i64 a, .int .i64 b, .int .i64 c, .string d] => some (opDat ⟨a, b, c, d⟩, [])
    | _ => none
  | _ => none
theorem opRd_inv (v : Value) (x : Op) (ps : List MemPlace) (h : opRd v = some (opDat x, ps)) : v = opV x := by
  unfold opRd at h
  split at h
  · next cs =>
    split at h
    · next a b c d hcs =>
      have hd : opDat ⟨a, b, c, d⟩ = opDat x := by injection h with h; injection h
      unfold opDat at hd
      simp only [DataW.agg.injEq, List.cons.injEq, DataW.lit.injEq, Lit.int.injEq, Lit.string.injEq, true_and, and_true] at hd
      obtain ⟨h1, h2, h3, h4⟩ := hd
      obtain ⟨xk, xf, xc, xd⟩ := x
      simp only at h1 h2 h3 h4
      have h5 : d = xd := by
        cases d with | mk d => cases xd with | mk xd => exact congrArg ByteArray.mk (Array.toList_inj.1 h4)
      subst h1 h2 h3 h5
      unfold opV
      have := congrArg List.toArray hcs
      simp only [Array.toArray_toList] at this
      rw [this]
    · cases h
  · cases h
def opE : El Op := ⟨opV, opDat, opRd, fun _ => rfl, opRd_inv, op0⟩
theorem key3_inj (x y : Int) (h : Lit.int .i64 x = Lit.int .i64 y) : x = y := by injection h
def intK : Ke Int 3 := ⟨fun x => .int .i64 x, fun x => .int .i64 x, fun x => (Lit.int .i64 x).wf = true, fun _ hx => Maps.keyOf_int_mk Try.underlying3 hx, key3_inj, Maps.int_keyed Try.underlying3⟩
/-- block b: the map of what was asked -/
def Asked (w : World) (b n : Nat) (f : Int → Option Op) (m : Nat) : Prop := MapIs intK opE w b n f m
theorem zero42 (w : World) : (zeroValue 42).run Try.prog w = .ok (opE.val opE.zero) w := by kernel_rfl
end Go.Proofs.Ytmnlojbfdpjjdaa
