/- StreamOrders: the memory of the law's loops. -/
import Derived.Test.YtmnlojbfdpjjdaaO1
import Derived.Test.YtmnlojbfdpjjdaaPB
namespace Go.Proofs.Ytmnlojbfdpjjdaa
open Go.RowKit
/-- two texts, by the end -/
def G2 (a b : List UInt8) (e : Int) : List UInt8 := if e = 0 then a else if e = 1 then b else []
theorem bl_append (a b : ByteArray) : bl (a ++ b) = bl a ++ bl b := by unfold bl; simp
theorem bl_inj {a b : ByteArray} (h : bl a = bl b) : a = b := by
  cases a with | mk a => cases b with | mk b => exact congrArg ByteArray.mk (Array.toList_inj.1 h)
theorem bl_cat (l : List ByteArray) : bl (cat l) = bys l := by
  have hf : ∀ l : List ByteArray, (Lib.join (l.map (·.data.toList)) []) = (l.map (·.data.toList)).flatten := by
    intro l
    cases l with
    | nil => rfl
    | cons a l =>
      rw [List.map_cons, Lib.join_cons, Lib.joinTail, List.flatten_cons]
      congr 1
      congr 1
      exact List.map_id' _
  show (Lib.join (l.map (·.data.toList)) []).toArray.toList = _
  rw [hf]
  rfl
theorem Ra_take_len (f : Int → Option Op) (l : List An) (j : Nat) (e : Int) : (Ra f (l.take j) e).length ≤ (Ra f l e).length := by
  have h : Ra f l e = Ra f (l.take j) e ++ Ra f (l.drop j) e := by
    unfold Ra
    rw [← List.flatten_append, ← List.map_append, List.take_append_drop]
  rw [h, List.length_append]
  omega
theorem Wa_take_len (f : Int → Option Op) (l : List An) (j : Nat) (e : Int) : (Wa f (l.take j) e).length ≤ (Wa f l e).length := by
  have h : Wa f l e = Wa f (l.take j) e ++ Wa f (l.drop j) e := by
    unfold Wa
    rw [← List.flatten_append, ← List.map_append, List.take_append_drop]
  rw [h, List.length_append]
  omega
structure Mo (w : World) (mb gb pb g n : Nat) (S : Sl) (st : St) (f : Int → Option Op) (g0 g1 p0 p1 : ByteArray) (v : World) : Prop where
  mm : Mm w mb g n S st f v
  got : Blk v gb 40 [.string g0, .string g1]
  put : Blk v pb 40 [.string p0, .string p1]
  gb0 : w.heap.size ≤ gb
  pb0 : w.heap.size ≤ pb
  ne : gb ≠ pb
  ng : ¬ S.has g gb
  np : ¬ S.has g pb
section
variable {w v v' : World} {mb gb pb g n n' : Nat} {S S' : Sl} {st st' : St} {f f' : Int → Option Op} {g0 g1 p0 p1 : ByteArray}
theorem Mo.neG (h : Mo w mb gb pb g n S st f g0 g1 p0 p1 v) : mb ≠ gb := by obtain ⟨m, hm⟩ := h.mm.map; exact fun e => MapIs.neBlk hm h.got e.symm
theorem Mo.neP (h : Mo w mb gb pb g n S st f g0 g1 p0 p1 v) : mb ≠ pb := by obtain ⟨m, hm⟩ := h.mm.map; exact fun e => MapIs.neBlk hm h.put e.symm
theorem Mo.below (h : Mo w mb gb pb g n S st f g0 g1 p0 p1 v) (hb : Below v.heap.size v v') : Mo w mb gb pb g n S st f g0 g1 p0 p1 v' :=
  ⟨h.mm.below hb, keepBlk hb h.got, keepBlk hb h.put, h.gb0, h.pb0, h.ne, h.ng, h.np⟩
theorem Mo.turn (h : Mo w mb gb pb g n S st f g0 g1 p0 p1 v) (ht : Turn g S v S' v') (hp : PipeAt v' g S' st') : Mo w mb gb pb g n S' st' f g0 g1 p0 p1 v' :=
  ⟨h.mm.turn ht hp, ht.blk h.got h.ng, ht.blk h.put h.np, h.gb0, h.pb0, h.ne,
   fun hh => by
    rcases ht.mine gb hh with h1 | h1
    · exact h.ng h1
    · have := h.got.lt; omega,
   fun hh => by
    rcases ht.mine pb hh with h1 | h1
    · exact h.np h1
    · have := h.put.lt; omega⟩
theorem Mo.more (h : Mo w mb gb pb g n S st f g0 g1 p0 p1 v) (hn : n ≤ n') : Mo w mb gb pb g n' S st f g0 g1 p0 p1 v := ⟨h.mm.more hn, h.got, h.put, h.gb0, h.pb0, h.ne, h.ng, h.np⟩
theorem Mo.store (h : Mo w mb gb pb g n S st f g0 g1 p0 p1 v) {m : Nat} (hm : Asked v' mb n' f' m) (hg : v.grownBy v' (some mb)) : Mo w mb gb pb g n' S st f' g0 g1 p0 p1 v' := by
  obtain ⟨m0, hm0⟩ := h.mm.map
  exact ⟨h.mm.store hm hg, h.got.grownMap hm0 hg, h.put.grownMap hm0 hg, h.gb0, h.pb0, h.ne, h.ng, h.np⟩
theorem Mo.setG0 (h : Mo w mb gb pb g n S st f g0 g1 p0 p1 v) (t : ByteArray) : Mo w mb gb pb g n S st f t g1 p0 p1 (v.setCell ⟨gb, 0, none⟩ (.string t)) :=
  ⟨h.mm.set h.gb0 h.ng h.neG _, h.got.set_ 0 _, h.put.far (p := ⟨gb, 0, none⟩) (Ne.symm h.ne) _, h.gb0, h.pb0, h.ne, h.ng, h.np⟩
theorem Mo.setG1 (h : Mo w mb gb pb g n S st f g0 g1 p0 p1 v) (t : ByteArray) : Mo w mb gb pb g n S st f g0 t p0 p1 (v.setCell ⟨gb, 1, none⟩ (.string t)) :=
  ⟨h.mm.set h.gb0 h.ng h.neG _, h.got.set_ 1 _, h.put.far (p := ⟨gb, 1, none⟩) (Ne.symm h.ne) _, h.gb0, h.pb0, h.ne, h.ng, h.np⟩
theorem Mo.setP0 (h : Mo w mb gb pb g n S st f g0 g1 p0 p1 v) (t : ByteArray) : Mo w mb gb pb g n S st f g0 g1 t p1 (v.setCell ⟨pb, 0, none⟩ (.string t)) :=
  ⟨h.mm.set h.pb0 h.np h.neP _, h.got.far (p := ⟨pb, 0, none⟩) h.ne _, h.put.set_ 0 _, h.gb0, h.pb0, h.ne, h.ng, h.np⟩
theorem Mo.setP1 (h : Mo w mb gb pb g n S st f g0 g1 p0 p1 v) (t : ByteArray) : Mo w mb gb pb g n S st f g0 g1 p0 t (v.setCell ⟨pb, 1, none⟩ (.string t)) :=
  ⟨h.mm.set h.pb0 h.np h.neP _, h.got.far (p := ⟨pb, 1, none⟩) h.ne _, h.put.set_ 1 _, h.gb0, h.pb0, h.ne, h.ng, h.np⟩
/-- a row that is not the pipe's has grown -/
theorem Mo.grow (h : Mo w mb gb pb g n S st f g0 g1 p0 p1 v) {o : Option Nat} (hg : v.grownBy v' o) (ho : ∀ k, o = some k → w.heap.size ≤ k ∧ k ≠ mb ∧ ¬ S.has g k ∧ k ≠ gb ∧ k ≠ pb) : Mo w mb gb pb g n S st f g0 g1 p0 p1 v' := by
  have hm := h.mm
  refine ⟨⟨hm.pipe.keep fun k hk => hg.block k (hm.pipe.lt hk) (fun e => (ho k e.symm).2.2.1 hk), hm.own, ⟨hg.os.trans hm.low.os, hg.tape.trans hm.low.tape, hg.output.trans hm.low.output, Nat.le_trans hm.low.size hg.size, fun k hk => (hg.block k (Nat.lt_of_lt_of_le hk hm.low.size) (fun e => by
    have := (ho k e.symm).1
    omega)).trans (hm.low.block k hk)⟩, hm.map.imp fun _ hq => MapIs.grown hq hg (fun e => (ho mb e.symm).2.1 rfl), hm.mb0⟩, h.got.grown hg (fun e => (ho gb e.symm).2.2.2.1 rfl), h.put.grown hg (fun e => (ho pb e.symm).2.2.2.2 rfl), h.gb0, h.pb0, h.ne, h.ng, h.np⟩
end
/-- the answers appended to nothing -/
theorem take_append {w V v9 : World} {mb gb pb g n : Nat} {S : Sl} {st : St} {f : Int → Option Op} {h0 h1 s0 s1 : ByteArray} {ra : Option Addr} {rc : Nat} (hM : Mo w mb gb pb g n S st f h0 h1 s0 s1 V) (hR : Row V 51 4 (.slice ra 0 rc) ([] : List An).length (ansC []))
    (hA : ∀ k, (Value.slice ra 0 rc).ownBlock = some k → w.heap.size ≤ k ∧ k ≠ mb ∧ ¬ S.has g k ∧ k ≠ gb ∧ k ≠ pb) (hl : st.ans.length ≤ 100000) {v2 : Value}
    (hR2 : Row v9 51 4 v2 st.ans.length (ansC st.ans)) (hP : PipeAt v9 g ⟨S.s0, S.s1, S.sw, .slice none 0 0⟩ (taken st)) (hT : Turn g S V ⟨S.s0, S.s1, S.sw, .slice none 0 0⟩ v9) :
    ∃ sa sc w', (Builtin.append_ #[45, 45] 45 #[.slice ra 0 rc, v2]).run Try.prog v9 = .ok (.slice sa st.ans.length sc) w' ∧ Mo w mb gb pb g n ⟨S.s0, S.s1, S.sw, .slice none 0 0⟩ (taken st) f h0 h1 s0 s1 w' ∧ Row w' 51 4 (.slice sa st.ans.length sc) st.ans.length (ansC st.ans) ∧ V.heap.size ≤ w'.heap.size ∧ (∀ k cs t, Blk V k t cs → ¬ S.has g k → (Value.slice ra 0 rc).ownBlock ≠ some k → Blk w' k t cs) := by
  have hR9 : Row v9 51 4 (.slice ra 0 rc) ([] : List An).length (ansC []) := hR.keep fun k hk => hT.block k (hR.lt hk) (hA k hk).2.2.1
  obtain ⟨v', w', h3, h4, h5, _⟩ := run_append_answers hR9 hR2 (by simp; omega)
  rw [List.nil_append] at h4
  obtain ⟨sa, sc, rfl, _⟩ := h4.form
  refine ⟨sa, sc, w', h3, (hM.turn hT hP).grow h5 fun k hk => ?_, h4, Nat.le_trans hT.size h5.size, fun k cs t hb hn ho => (hT.blk hb hn).grown h5 (fun e => ho e.symm)⟩
  obtain ⟨a, b, c, d, e⟩ := hA k hk
  refine ⟨a, b, fun hh => c ?_, d, e⟩
  rcases hh with h | h | h | h | h
  · exact .inl h
  · exact .inr (.inl h)
  · exact .inr (.inr (.inl h))
  · exact .inr (.inr (.inr (.inl h)))
  · cases h
theorem Ra_nil (f : Int → Option Op) (e : Int) : Ra f [] e = [] := rfl
theorem Wa_nil (f : Int → Option Op) (e : Int) : Wa f [] e = [] := rfl
theorem take_an {l : List An} {j : Nat} (hj : j < l.length) {a : An} (ha : a = l.getD j anZ) : l.take (j + 1) = l.take j ++ [a] := by
  rw [List.take_succ_eq_append_getElem hj, ha, List.getD_eq_getElem?_getD, List.getElem?_eq_getElem hj]; rfl
theorem mem_an {l : List An} {j : Nat} (hj : j < l.length) {a : An} (ha : a = l.getD j anZ) : a ∈ l := by
  rw [ha, List.getD_eq_getElem?_getD, List.getElem?_eq_getElem hj]; exact List.getElem_mem hj
end Go.Proofs.Ytmnlojbfdpjjdaa
