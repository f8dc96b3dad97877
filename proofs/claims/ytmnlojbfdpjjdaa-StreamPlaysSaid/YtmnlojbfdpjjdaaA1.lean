/- Words for memory: a block known whole; a row of a slice at whatever place of its block; what an append, a cut and a store make of it. Conditions stand in each theorem. -/
import Derived.Test.YtmnlojbfdpjjdaaRows
import Derived.WalkKit
import Derived.WalkLawsBesides
import Derived.WalkSpells
import Derived.Maps.AppendAt
import Derived.ArgAppend
import Derived.Handy
import Derived.Lib.Hide
import Derived.Lib.SliceRun
namespace Go.Proofs.Ytmnlojbfdpjjdaa
open Go.RowKit

/-- Block g is just the cells cs, of element type t, none frozen. -/
def Blk (w : World) (g : Nat) (t : TypeId) (cs : List Value) : Prop := w.heap[g]? = some (.cells cs.toArray t (0, 0))
section
variable {w w' : World} {g : Nat} {t : TypeId} {cs : List Value}
theorem Blk.cell (h : Blk w g t cs) (i : Nat) : w.cell? ⟨g, i, none⟩ = cs[i]? := by
  rw [cell_of_row w g i cs.toArray t (0, 0) h]; simp
theorem Blk.frozen (h : Blk w g t cs) (i : Nat) : w.frozen? ⟨g, i, none⟩ = false := by
  unfold Blk at h; simp [World.frozen?, h]
theorem Blk.set_ (h : Blk w g t cs) (i : Nat) (u : Value) : Blk (w.setCell ⟨g, i, none⟩ u) g t (cs.set i u) := by
  unfold Blk at h ⊢
  simp [World.setCell, Array.getElem?_modify, h]
theorem Blk.far (h : Blk w g t cs) {p : Addr} (hp : g ≠ p.block) (u : Value) : Blk (w.setCell p u) g t cs := (Below.heap_setCell w p u g hp).trans h
theorem Blk.lt (h : Blk w g t cs) : g < w.heap.size := (Array.getElem?_eq_some_iff.1 h).1
theorem Blk.alloc (h : Blk w g t cs) (o : Obj) : Blk (w.alloc o) g t cs := (Below.heap_alloc w o g h.lt).trans h
theorem Blk.below {B : Nat} (h : Blk w g t cs) (hb : Below B w w') (hg : g < B) : Blk w' g t cs := (hb.block g hg).trans h
theorem Blk.grown {row : Option Nat} (h : Blk w g t cs) (hb : w.grownBy w' row) (hg : some g ≠ row) : Blk w' g t cs := (hb.block g h.lt hg).trans h
theorem Blk.new (w : World) (t : TypeId) (cs : List Value) : Blk (w.alloc (.cells cs.toArray t)) w.heap.size t cs := heap_alloc_new w _
theorem Blk.lies (h : Blk w g t cs) : ∀ j u, cs[j]? = some u → w.cell? ((⟨g, 0, none⟩ : Addr).add j) = some u := by
  intro j u hu
  have e : (⟨g, 0, none⟩ : Addr).add j = ⟨g, j, none⟩ := by unfold Addr.add; split <;> simp_all
  rw [e, h.cell]; exact hu
theorem Blk.uniq {t' : TypeId} {cs' : List Value} (h : Blk w g t cs) (h' : Blk w g t' cs') : t = t' := by
  unfold Blk at h h'; rw [h] at h'; injection h' with h'; injection h'
end
theorem keepBlk {w w' : World} {g : Nat} {t : TypeId} {cs : List Value} (hb : Below w.heap.size w w') (h : Blk w g t cs) : Blk w' g t cs := h.below hb h.lt
theorem keepBelow {a w w' : World} (h : Below a.heap.size a w) (hb : Below w.heap.size w w') : Below a.heap.size a w' := h.trans (hb.mono h.size)
theorem blk_at {W : World} {g : Nat} (h : W.heap.size = g) (t : TypeId) (cs : List Value) : Blk (W.alloc (.cells cs.toArray t)) g t cs := by subst h; exact Blk.new W t cs

/-- A row's place: the slice value v of n elements of size cells each, in a block of element type e that may be written; or nil. -/
def Row (w : World) (e : TypeId) (size : Nat) (v : Value) (n : Nat) (xs : List Value) : Prop :=
  xs.length = n * size ∧ ((v = .slice none 0 0 ∧ n = 0) ∨
    ∃ g off cap cs, v = .slice (some ⟨g, off, none⟩) n cap ∧ w.heap[g]? = some (.cells cs e (0, 0)) ∧ n ≤ cap ∧ cap ≤ maxLen ∧ off + cap * size ≤ cs.size ∧ ∀ j, j < n * size → cs[off + j]? = xs[j]?)
section
variable {w w' : World} {e : TypeId} {size n : Nat} {v : Value} {xs : List Value}
theorem Row.nil (w : World) (e : TypeId) (size : Nat) : Row w e size (.slice none 0 0) 0 [] := ⟨by simp, .inl ⟨rfl, rfl⟩⟩
theorem Row.len (h : Row w e size v n xs) : xs.length = n * size := h.1
theorem Row.form (h : Row w e size v n xs) : ∃ a cap, v = .slice a n cap ∧ n ≤ cap ∧ cap ≤ maxLen := by
  rcases h.2 with ⟨rfl, rfl⟩ | ⟨g, off, cap, cs, rfl, _, h1, h2, _⟩
  · exact ⟨none, 0, rfl, Nat.le_refl _, by unfold maxLen; omega⟩
  · exact ⟨_, cap, rfl, h1, h2⟩
theorem Row.lt (h : Row w e size v n xs) {k : Nat} (hk : v.ownBlock = some k) : k < w.heap.size := by
  rcases h.2 with ⟨rfl, rfl⟩ | ⟨g, off, cap, cs, rfl, hh, _⟩
  · cases hk
  · have : g = k := by simpa [Value.ownBlock] using hk
    subst this
    exact (Array.getElem?_eq_some_iff.1 hh).1
theorem Row.keep (h : Row w e size v n xs) (hk : ∀ k, v.ownBlock = some k → w'.heap[k]? = w.heap[k]?) : Row w' e size v n xs := by
  refine ⟨h.1, ?_⟩
  rcases h.2 with ⟨rfl, rfl⟩ | ⟨g, off, cap, cs, rfl, hh, h1⟩
  · exact .inl ⟨rfl, rfl⟩
  · exact .inr ⟨g, off, cap, cs, rfl, (hk g rfl).trans hh, h1⟩
theorem Row.below (h : Row w e size v n xs) (hb : Below w.heap.size w w') : Row w' e size v n xs := h.keep fun k hk => hb.block k (h.lt hk)
theorem Row.grown (h : Row w e size v n xs) {row : Option Nat} (hb : w.grownBy w' row) (hr : ∀ k, v.ownBlock = some k → row ≠ some k) : Row w' e size v n xs := h.keep fun k hk => hb.block k (h.lt hk) (hr k hk).symm
theorem Row.set_ (h : Row w e size v n xs) {p : Addr} (hp : v.ownBlock ≠ some p.block) (u : Value) : Row (w.setCell p u) e size v n xs :=
  h.keep fun k hk => Below.heap_setCell w p u k (fun e => hp (by rw [hk, e]))
theorem Row.ne {t : TypeId} {cs : List Value} {g : Nat} (h : Row w e size v n xs) (hg : Blk w g t cs) (hne : e ≠ t) : v.ownBlock ≠ some g := by
  rcases h.2 with ⟨rfl, _⟩ | ⟨g', off, cap, cur, rfl, hh, _⟩
  · simp [Value.ownBlock]
  · intro he
    have : g' = g := by simpa [Value.ownBlock] using he
    subst this
    unfold Blk at hg
    rw [hh] at hg
    injection hg with hg
    injection hg with _ ht
    exact hne ht
theorem Row.ne2 {e' : TypeId} {size' n' : Nat} {v' : Value} {xs' : List Value} (h : Row w e size v n xs) (h' : Row w e' size' v' n' xs') (hne : e ≠ e') {k : Nat} (hk : v.ownBlock = some k) : v'.ownBlock ≠ some k := by
  rcases h.2 with ⟨rfl, _⟩ | ⟨g, off, cap, cs, rfl, hh, _⟩
  · cases hk
  · rcases h'.2 with ⟨rfl, _⟩ | ⟨g', off', cap', cs', rfl, hh', _⟩
    · simp [Value.ownBlock]
    · intro he
      have e1 : g = k := by simpa [Value.ownBlock] using hk
      have e2 : g' = k := by simpa [Value.ownBlock] using he
      subst e1 e2
      rw [hh] at hh'
      injection hh' with hh'
      injection hh' with _ ht
      exact hne ht
/-- the cells of a row that is not nil -/
theorem Row.open (h : Row w e size v n xs) (hn : 0 < n) : ∃ g off cap, v = .slice (some ⟨g, off, none⟩) n cap ∧ n ≤ cap ∧ cap ≤ maxLen ∧ g < w.heap.size ∧ (∀ j, j < n * size → w.cell? ⟨g, off + j, none⟩ = xs[j]?) ∧ (∀ j, w.frozen? ⟨g, off + j, none⟩ = false) := by
  rcases h.2 with ⟨rfl, rfl⟩ | ⟨g, off, cap, cs, rfl, hh, h1, h2, h3, h4⟩
  · omega
  · exact ⟨g, off, cap, rfl, h1, h2, (Array.getElem?_eq_some_iff.1 hh).1, fun j hj => by rw [cell_of_row w g _ cs e (0, 0) hh]; exact h4 j hj, fun j => by simp [World.frozen?, hh]⟩
theorem row_of_own {base : Nat} (h : w.ownsRow base e size v n xs) : Row w e size v n xs := by
  refine ⟨h.1, ?_⟩
  rcases h.2 with ⟨rfl, rfl⟩ | ⟨g, cap, cur, rfl, _, hh, h1, h2, h3, h4⟩
  · exact .inl ⟨rfl, rfl⟩
  · refine .inr ⟨g, 0, cap, cur, rfl, hh, h1, h2, by omega, fun j hj => ?_⟩
    rw [← h4, List.getElem?_take_of_lt hj, Nat.zero_add]
    simp
end
theorem setCells_blk (b : Nat) (e : TypeId) : ∀ (vs : List Value) (o : Nat) (w : World) (cs : Array Value), w.heap[b]? = some (.cells cs e (0, 0)) → o + vs.length ≤ cs.size →
    ∃ cs', (w.setCells b o vs).heap[b]? = some (.cells cs' e (0, 0)) ∧ cs'.size = cs.size ∧ ∀ j, cs'[j]? = if o ≤ j ∧ j < o + vs.length then vs[j - o]? else cs[j]? := by
  intro vs
  induction vs with
  | nil => intro o w cs h _; exact ⟨cs, h, rfl, fun j => by rw [if_neg (by simp only [List.length_nil]; omega)]⟩
  | cons v vs ih =>
    intro o w cs h hl
    have hs : (w.setCell ⟨b, o, none⟩ v).heap[b]? = some (.cells (cs.setIfInBounds o v) e (0, 0)) := by
      simp [World.setCell, Array.getElem?_modify, h]
    obtain ⟨cs', h1, h2, h3⟩ := ih (o + 1) _ _ hs (by simp at hl ⊢; omega)
    refine ⟨cs', h1, by rw [h2]; simp, fun j => ?_⟩
    rw [h3 j]
    simp only [List.length_cons] at hl ⊢
    by_cases e1 : o + 1 ≤ j ∧ j < o + 1 + vs.length
    · rw [if_pos e1, if_pos (by omega), show j - o = (j - (o + 1)) + 1 by omega, List.getElem?_cons_succ]
    · rw [if_neg e1, Array.getElem?_setIfInBounds]
      by_cases e2 : o = j
      · subst e2
        rw [if_pos rfl, if_pos (by omega), if_pos (by omega), Nat.sub_self]; rfl
      · rw [if_neg e2, if_neg (by omega)]
theorem setCells_grown (w : World) (b o : Nat) (vs : List Value) : w.grownBy (w.setCells b o vs) (some b) := by
  have hk : ∀ (vs : List Value) (o : Nat) (w : World), w.grownBy (w.setCells b o vs) (some b) := by
    intro vs
    induction vs with
    | nil => intro o w; exact ⟨rfl, rfl, rfl, Nat.le_refl _, fun _ _ _ => rfl⟩
    | cons v vs ih =>
      intro o w
      have h := ih (o + 1) (w.setCell ⟨b, o, none⟩ v)
      exact ⟨h.os, h.tape, h.output, Nat.le_trans (Nat.le_of_eq (by simp [World.setCell])) h.size, fun k hk hne => (h.block k (by simpa [World.setCell] using hk) hne).trans (Below.heap_setCell w _ v k (fun e => hne (by rw [e])))⟩
  exact hk vs o w
section
variable {P : Program} {w : World}
/-- AN APPEND TO A ROW: some value whose row holds both; nothing but the row has turned. -/
theorem run_append_row (t ty e : TypeId) (i : TypeInfo) (z : Value) (size bytes : Nat) (ht : P.underlying t = some (.slice e)) (hi : P.info? e = some i) (hz : i.zero = some z)
    (hsize : i.size = size) (hby : i.bytes = bytes) (hzs : z.cells.size = size) (hsz : 0 < size)
    (v : Value) (n : Nat) (xs : List Value) (hrow : Row w e size v n xs)
    (a : Addr) (m c : Nat) (news : List Value) (hl : news.length = m * size) (hnews : ∀ j u, news[j]? = some u → w.cell? (a.add j) = some u) (h1 : ∀ u ∈ news, u.oneCell' = true)
    (h63 : n + m ≤ maxLen) (hbytes : (n + m) * bytes ≤ 140737488355328) :
    ∃ v' w', (Builtin.append_ #[t, t] ty #[v, .slice (some a) m c]).run P w = .ok v' w' ∧ Row w' e size v' (n + m) (xs ++ news) ∧ w.grownBy w' v.ownBlock ∧ (v'.ownBlock = v.ownBlock ∨ ∀ k, v'.ownBlock = some k → w.heap.size ≤ k) := by
  rcases hrow.2 with ⟨rfl, rfl⟩ | ⟨g, off, cap, cs, rfl, hh, k1, k2, k3, k4⟩
  · have hx : xs = [] := List.eq_nil_of_length_eq_zero (by simpa using hrow.1)
    subst hx
    obtain ⟨v', w', r1, r2, r3, _, r5⟩ := run_append_own_at (P := P) w 0 t ty e i z size bytes ht hi hz hsize hby hzs hsz (.slice none 0 0) 0 [] ⟨by simp, .inl ⟨rfl, rfl⟩⟩ a m c news hl hnews h1 h63 hbytes (Nat.zero_le _)
    refine ⟨v', w', r1, row_of_own r2, r3, ?_⟩
    rcases r5 with r5 | r5
    · exact .inl r5
    · refine .inr fun k hk => ?_
      rw [r5] at hk; injection hk with hk; omega
  · by_cases hr : n + m ≤ cap
    · have hcell : ∀ j, j < news.length → off + n * i.size + j < cs.size := fun j hj => by
        rw [hl] at hj
        rw [hsize]
        have : (n + m) * size ≤ cap * size := Nat.mul_le_mul_right _ hr
        rw [Nat.add_mul] at this
        omega
      have hrun := run_append_room_cells (P := P) w t ty e i ht hi g off n cap a m c news (by rw [hsize]; exact hl) hnews h1 hr
        (fun j hj => by rw [cell_of_row w g _ cs e (0, 0) hh]; simp [hcell j hj]) (fun j hj => by simp [World.frozen?, hh])
      obtain ⟨cs', c1, c2, c3⟩ := setCells_blk g e news (off + n * i.size) w cs hh (by
        rw [hl, hsize]
        have : (n + m) * size ≤ cap * size := Nat.mul_le_mul_right _ hr
        rw [Nat.add_mul] at this
        omega)
      refine ⟨_, _, hrun, ⟨by rw [List.length_append, hrow.1, hl, Nat.add_mul], .inr ⟨g, off, cap, cs', rfl, c1, hr, k2, by rw [c2]; exact k3, fun j hj => ?_⟩⟩, setCells_grown w g _ news, .inl rfl⟩
      rw [c3, hl, hsize]
      rw [Nat.add_mul] at hj
      by_cases hjn : j < n * size
      · rw [if_neg (by omega), k4 j hjn, List.getElem?_append_left (by rw [hrow.1]; exact hjn)]
      · rw [if_pos (by omega), List.getElem?_append_right (by rw [hrow.1]; omega), hrow.1]
        congr 1
        omega
    · obtain ⟨v', w', r1, r2, r3⟩ := run_append_arg_grows (P := P) w t ty e i z size bytes ht hi hz hsize hby hzs hsz ⟨g, off, none⟩ n cap xs hrow.1 (fun j u hj => by
        have hjl : j < n * size := by rw [← hrow.1]; exact (List.getElem?_eq_some_iff.1 hj).1
        rw [Addr.add_lit, cell_of_row w g _ cs e (0, 0) hh, k4 j hjl, hj]) a m c news hl hnews (by omega) h63 hbytes
      refine ⟨v', w', r1, row_of_own r2, ⟨r3.os, r3.tape, r3.output, r3.size, fun k hk _ => r3.block k hk (by simp)⟩, .inr fun k hk => ?_⟩
      rcases r2.2 with ⟨rfl, hn0⟩ | ⟨g', cap', cur, rfl, hb, _⟩
      · cases hk
      · have : g' = k := by simpa [Value.ownBlock] using hk
        omega
end
section
variable {w : World} {e : TypeId} {size n : Nat}
/-- the first element of a row cut off: its value -/
def cutV (g off n cap : Nat) : Value := if cap = 1 then .slice (some ⟨g, off, none⟩) (n - 1) (cap - 1) else .slice (some ⟨g, off + 1, none⟩) (n - 1) (cap - 1)
theorem Row.cut {g off cap : Nat} {x : Value} {xs : List Value} (h : Row w e 1 (.slice (some ⟨g, off, none⟩) n cap) n (x :: xs)) : Row w e 1 (cutV g off n cap) (n - 1) xs := by
  have hl := h.1
  simp only [List.length_cons, Nat.mul_one] at hl
  refine ⟨by omega, .inr ?_⟩
  rcases h.2 with ⟨hv, hn⟩ | ⟨g', off', cap', cs, hv, hh, h1, h2, h3, h4⟩
  · cases hv
  · injection hv with ha _ hc
    injection ha with ha
    injection ha with ha hb
    subst ha hb hc
    unfold cutV
    by_cases hc : cap = 1
    · rw [if_pos hc]
      refine ⟨g, off, cap - 1, cs, rfl, hh, by omega, by omega, by omega, fun j hj => by omega⟩
    · rw [if_neg hc]
      refine ⟨g, off + 1, cap - 1, cs, rfl, hh, by omega, by omega, by omega, fun j hj => ?_⟩
      have := h4 (j + 1) (by omega)
      rw [List.getElem?_cons_succ] at this
      rw [← this]
      congr 1
      omega
theorem cutV_own (g off n cap : Nat) : (cutV g off n cap).ownBlock = some g := by unfold cutV; split <;> rfl
theorem Row.put {g off cap : Nat} {x : Value} {xs : List Value} (h : Row w e 1 (.slice (some ⟨g, off, none⟩) n cap) n (x :: xs)) (u : Value) : Row (w.setCell ⟨g, off, none⟩ u) e 1 (.slice (some ⟨g, off, none⟩) n cap) n (u :: xs) := by
  refine ⟨h.1, .inr ?_⟩
  rcases h.2 with ⟨hv, hn⟩ | ⟨g', off', cap', cs, hv, hh, h1, h2, h3, h4⟩
  · cases hv
  · injection hv with ha _ hc
    injection ha with ha
    injection ha with ha hb
    subst ha hb hc
    refine ⟨g, off, cap, cs.setIfInBounds off u, rfl, by simp [World.setCell, Array.getElem?_modify, hh], h1, h2, by simpa using h3, fun j hj => ?_⟩
    have hl := h.1
    simp only [List.length_cons, Nat.mul_one] at hl
    rw [Array.getElem?_setIfInBounds]
    by_cases ej : j = 0
    · subst ej
      rw [if_pos (by omega), if_pos (by omega)]; rfl
    · have := h4 j hj
      rw [if_neg (by omega), this]
      obtain ⟨k, rfl⟩ : ∃ k, j = k + 1 := ⟨j - 1, by omega⟩
      rfl
end
end Go.Proofs.Ytmnlojbfdpjjdaa
