/- StreamBounds: the law's walk. -/
import Derived.Test.YtmnlojbfdpjjdaaN2
import Derived.Test.YtmnlojbfdpjjdaaE3
import Derived.Test.YtmnlojbfdpjjdaaD6
import Derived.Test.YtmnlojbfdpjjdaaC1
import Derived.Carry
import Derived.OwnWalk
namespace Go.Proofs.Ytmnlojbfdpjjdaa
open Go.RowKit
/-- the memory of a law's loop: the pipe, the map of what was asked; all that was there ahead is as it was -/
structure Mm (w : World) (mb g n : Nat) (S : Sl) (st : St) (f : Int → Option Op) (v : World) : Prop where
  pipe : PipeAt v g S st
  own : ∀ k, S.has g k → w.heap.size ≤ k ∧ k ≠ mb
  low : Below w.heap.size w v
  map : ∃ m, Asked v mb n f m
  mb0 : w.heap.size ≤ mb
theorem Mm.lt {w v : World} {mb g n : Nat} {S : Sl} {st : St} {f : Int → Option Op} (h : Mm w mb g n S st f v) : mb < v.heap.size := by obtain ⟨m, hm⟩ := h.map; exact MapIs.lt hm
theorem Mm.below {w v v' : World} {mb g n : Nat} {S : Sl} {st : St} {f : Int → Option Op} (h : Mm w mb g n S st f v) (hb : Below v.heap.size v v') : Mm w mb g n S st f v' :=
  ⟨h.pipe.below hb, h.own, keepBelow h.low hb, h.map.imp fun _ hm => MapIs.below hm hb, h.mb0⟩
theorem Mm.set {w v : World} {mb g n : Nat} {S : Sl} {st : St} {f : Int → Option Op} (h : Mm w mb g n S st f v) {b i : Nat} (hb : w.heap.size ≤ b) (hn : ¬ S.has g b) (hm : mb ≠ b) (u : Value) : Mm w mb g n S st f (v.setCell ⟨b, i, none⟩ u) :=
  ⟨h.pipe.keep fun k hk => Below.heap_setCell v _ u k (fun e => hn ((show k = b from e) ▸ hk)), h.own, h.low.setCell (p := ⟨b, i, none⟩) hb u, h.map.imp fun _ hm' => MapIs.far hm' (p := ⟨b, i, none⟩) hm u, h.mb0⟩
theorem Mm.turn {w v v' : World} {mb g n : Nat} {S S' : Sl} {st st' : St} {f : Int → Option Op} (h : Mm w mb g n S st f v) (ht : Turn g S v S' v') (hp : PipeAt v' g S' st') : Mm w mb g n S' st' f v' := by
  have hmb : ¬ S.has g mb := fun hh => (h.own mb hh).2 rfl
  refine ⟨hp, fun k hk => ?_, ⟨ht.os.trans h.low.os, ht.tape.trans h.low.tape, ht.output.trans h.low.output, Nat.le_trans h.low.size ht.size, fun k hk => (ht.block k (Nat.lt_of_lt_of_le hk h.low.size) (fun hh => by have := (h.own k hh).1; omega)).trans (h.low.block k hk)⟩, h.map.imp fun _ hm => MapIs.turn hm ht hmb, h.mb0⟩
  rcases ht.mine k hk with h1 | h1
  · exact h.own k h1
  · have := h.lt; have := h.low.size; exact ⟨by omega, by omega⟩
theorem Mm.store {w v v' : World} {mb g n n' : Nat} {S : Sl} {st : St} {f f' : Int → Option Op} {m : Nat} (h : Mm w mb g n S st f v) (hm : Asked v' mb n' f' m) (hg : v.grownBy v' (some mb)) : Mm w mb g n' S st f' v' :=
  ⟨h.pipe.keep fun k hk => hg.block k (h.pipe.lt hk) (fun e => (h.own k hk).2 (by injection e)), h.own, ⟨hg.os.trans h.low.os, hg.tape.trans h.low.tape, hg.output.trans h.low.output, Nat.le_trans h.low.size hg.size, fun k hk => (hg.block k (Nat.lt_of_lt_of_le hk h.low.size) (fun e => by
    have e1 : k = mb := by injection e
    have := h.mb0
    omega)).trans (h.low.block k hk)⟩, ⟨m, hm⟩, h.mb0⟩
theorem Mm.more {w v : World} {mb g n n' : Nat} {S : Sl} {st : St} {f : Int → Option Op} (h : Mm w mb g n S st f v) (hn : n ≤ n') : Mm w mb g n' S st f v := ⟨h.pipe, h.own, h.low, h.map.imp fun _ hm => MapIs.mono hm hn, h.mb0⟩
theorem wp_asked {w : World} {b n m : Nat} {f : Int → Option Op} {ops : Array Oper} {rest : List Oper} {o : Oper} {a : Act} {Q : Exit → Act → World → Prop} (hg : o.guard = none) (mo xo : Operand) (hop : o.op = Op.lookup 39 mo xo true)
    (h : Asked w b n f m) (t : Int) (ht : (Lit.int .i64 t).wf = true) (k' f' c' : Int) (d' : ByteArray) (hf : f t = some ⟨k', f', c', d'⟩) (hm : a.eval mo = .map (some b)) (hxo : a.eval xo = .int .i64 t)
    (hK : wpList Try.prog ops Q rest (a.put o.dst (.tuple #[.agg #[.int .i64 k', .int .i64 f', .int .i64 c', .string d'], .bool true])) w) : wpList Try.prog ops Q (o :: rest) a w := by
  refine wp_look (KC := intK) (E := opE) hg mo xo 39 hop 42 h Try.underlying39 (zero42 w) t ht hm hxo ?_
  rw [hf]
  exact hK
theorem cnt_le (l : List Wt) (k f : Int) : cnt l k f ≤ l.length := List.length_filter_le _ _
theorem cnt_step {l : List Wt} {j : Nat} (hjl : j < l.length) {y : Wt} (hy : y = l.getD j wt0) (hin : OpIn y.op) : ∃ n00 n01 n10 n11 : Nat, (cnt (l.take j) 0 0 = n00 ∧ cnt (l.take j) 0 1 = n01 ∧ cnt (l.take j) 1 0 = n10 ∧ cnt (l.take j) 1 1 = n11) ∧ (n00 ≤ j ∧ n01 ≤ j ∧ n10 ≤ j ∧ n11 ≤ j) ∧
    ((y.op.kind = 0 ∧ y.op.fin = 0 ∧ cnt (l.take (j + 1)) 0 0 = n00 + 1 ∧ cnt (l.take (j + 1)) 0 1 = n01 ∧ cnt (l.take (j + 1)) 1 0 = n10 ∧ cnt (l.take (j + 1)) 1 1 = n11) ∨
     (y.op.kind = 0 ∧ y.op.fin = 1 ∧ cnt (l.take (j + 1)) 0 0 = n00 ∧ cnt (l.take (j + 1)) 0 1 = n01 + 1 ∧ cnt (l.take (j + 1)) 1 0 = n10 ∧ cnt (l.take (j + 1)) 1 1 = n11) ∨
     (y.op.kind = 1 ∧ y.op.fin = 0 ∧ cnt (l.take (j + 1)) 0 0 = n00 ∧ cnt (l.take (j + 1)) 0 1 = n01 ∧ cnt (l.take (j + 1)) 1 0 = n10 + 1 ∧ cnt (l.take (j + 1)) 1 1 = n11) ∨
     (y.op.kind = 1 ∧ y.op.fin = 1 ∧ cnt (l.take (j + 1)) 0 0 = n00 ∧ cnt (l.take (j + 1)) 0 1 = n01 ∧ cnt (l.take (j + 1)) 1 0 = n10 ∧ cnt (l.take (j + 1)) 1 1 = n11 + 1)) := by
  have e00 := cnt_take l 0 0 j hjl
  have e01 := cnt_take l 0 1 j hjl
  have e10 := cnt_take l 1 0 j hjl
  have e11 := cnt_take l 1 1 j hjl
  rw [← hy] at e00 e01 e10 e11
  have l00 := Nat.le_trans (cnt_le (l.take j) 0 0) (List.length_take_le _ _)
  have l01 := Nat.le_trans (cnt_le (l.take j) 0 1) (List.length_take_le _ _)
  have l10 := Nat.le_trans (cnt_le (l.take j) 1 0) (List.length_take_le _ _)
  have l11 := Nat.le_trans (cnt_le (l.take j) 1 1) (List.length_take_le _ _)
  refine ⟨_, _, _, _, ⟨rfl, rfl, rfl, rfl⟩, ⟨l00, l01, l10, l11⟩, ?_⟩
  obtain ⟨hk, hf⟩ := hin
  rcases hk with hk | hk <;> rcases hf with hf | hf <;> rw [hk, hf] at e00 e01 e10 e11 <;> simp only [Int.reduceEq, and_true, and_false, and_self, if_true, if_false, Nat.add_zero] at e00 e01 e10 e11
  · exact .inl ⟨hk, hf, e00, e01, e10, e11⟩
  · exact .inr (.inl ⟨hk, hf, e00, e01, e10, e11⟩)
  · exact .inr (.inr (.inl ⟨hk, hf, e00, e01, e10, e11⟩))
  · exact .inr (.inr (.inr ⟨hk, hf, e00, e01, e10, e11⟩))
theorem tkC_at (l : List Wt) (j : Nat) (hj : j < l.length) : (tkC l)[j]? = some (.int .i64 (l.getD j wt0).tk) := by
  unfold tkC; rw [List.getElem?_map, List.getD_eq_getElem?_getD, List.getElem?_eq_getElem hj]; rfl
theorem few_parts {l : List Ac} (h : fewB l = true) : l.length ≤ 60 ∧ ∀ x ∈ l, x.op.data.size ≤ 9000 := by
  unfold fewB at h
  simp only [Bool.and_eq_true, decide_eq_true_eq, Bool.not_eq_true', List.any_eq_false] at h
  refine ⟨h.1, fun x hx => ?_⟩
  have := h.2 x hx
  unfold longA at this
  simp at this
  exact this
theorem getA_mem {l : List Ac} {i : Nat} (hi : i < l.length) : l.getD i ac0 ∈ l := by
  rw [List.getD_eq_getElem?_getD, List.getElem?_eq_getElem hi]
  exact List.getElem_mem hi
set_option maxRecDepth 100000 in
set_option maxHeartbeats 1600000 in
theorem bounds_no (lim : Int) (sv : Value) (l : List Ac) (hf : fewB l = false) (w : World) (hr : Acts w sv l) : Calls Try.prog 8 #[.int .i64 lim, sv] w fun e w' => e = .returned (.bool true) ∧ Below w.heap.size w w' := by
  have CA := Lib.hid (fun W => awake_any W)
  have CF := Lib.hid (fun W (hb : Below w.heap.size w W) => few_any l sv W (hr.below hb))
  rw [hf] at CF
  clear hr hf
  go_enter Try.func8, Try.ntmps8
  go_wp2_with (first
    | (go_at_call 9; refine (CA.out _).mono ?_; rintro e v1 ⟨rfl, hb1⟩; have B1 := Lib.hid hb1; clear hb1)
    | (go_at_call 17; refine (CF.out _ ?_).mono ?_; exact B1.out; rintro e v2 ⟨rfl, hb2⟩; have B2 := Lib.hid (keepBelow B1.out hb2); clear hb2))
  go_ret
  exact ⟨rfl, B2.out⟩
set_option maxRecDepth 100000 in
set_option maxHeartbeats 1600000 in
theorem bounds_bad (lim : Int) (sv : Value) (l : List Ac) (hf : fewB l = true) (hl : lim < 1 ∨ 1048576 < lim) (w : World) (hr : Acts w sv l) : Calls Try.prog 8 #[.int .i64 lim, sv] w fun e w' => e = .returned (.bool true) ∧ Below w.heap.size w w' := by
  have CA := Lib.hid (fun W => awake_any W)
  have CF := Lib.hid (fun W (hb : Below w.heap.size w W) => few_any l sv W (hr.below hb))
  rw [hf] at CF
  have CN := Lib.hid (fun W => New_no lim hl W)
  clear hr hf hl
  go_enter Try.func8, Try.ntmps8
  go_wp2_with (first
    | (go_at_call 9; refine (CA.out _).mono ?_; rintro e v1 ⟨rfl, hb1⟩; have B1 := Lib.hid hb1; clear hb1)
    | (go_at_call 17; refine (CF.out _ ?_).mono ?_; exact B1.out; rintro e v2 ⟨rfl, hb2⟩; have B2 := Lib.hid (keepBelow B1.out hb2); clear hb2)
    | (go_at_call 12; refine (CN.out _).mono ?_; rintro e v3 ⟨rfl, rfl⟩))
  go_ret
  exact ⟨rfl, B2.out⟩
set_option maxRecDepth 100000 in
set_option maxHeartbeats 3200000 in
theorem bounds_ok (lim : Int) (sv : Value) (l : List Ac) (hf : fewB l = true) (hl1 : 1 ≤ lim) (hl2 : lim ≤ 1048576) (w : World) (hr : Acts w sv l) : Calls Try.prog 8 #[.int .i64 lim, sv] w fun e w' => e = .returned (.bool true) ∧ Below w.heap.size w w' := by
  have CA := Lib.hid (fun W => awake_any W)
  have CF := Lib.hid (fun W (hb : Below w.heap.size w W) => few_any l sv W (hr.below hb))
  rw [hf] at CF
  have CN := Lib.hid (fun W => New_any lim hl1 hl2 W)
  obtain ⟨hlen, hdat⟩ := few_parts hf
  have HDAT := Lib.hid hdat
  have HR := Lib.hid hr
  obtain ⟨aa, ca, hsv, hca⟩ := hr.form
  have HSV := Lib.hid hsv
  rw [hsv] at CF
  rw [hsv]
  have hmm := @run_makeMap Try.prog
  clear hr hf hdat hsv
  go_enter Try.func8, Try.ntmps8
  go_upto_region 9 with (first
    | (go_at_call 9; refine (CA.out _).mono ?_; rintro e v1 ⟨rfl, hb1⟩; have B1 := Lib.hid hb1; clear hb1)
    | (go_at_call 17; refine (CF.out _ ?_).mono ?_; exact B1.out; rintro e v2 ⟨rfl, hb2⟩; have B2 := Lib.hid (keepBelow B1.out hb2); clear hb2)
    | (go_at_call 12; refine (CN.out _).mono ?_; rintro e v3 ⟨rfl, P3, hb3⟩; have HP3 := Lib.hid P3; have B3 := Lib.hid (keepBelow B2.out hb3); clear hb3 P3))
  obtain ⟨g, hg⟩ : ∃ g, g = v2.heap.size := ⟨_, rfl⟩
  obtain ⟨mb, hmb⟩ : ∃ mb, mb = v3.heap.size := ⟨_, rfl⟩
  have MM0 : Hid (Mm w mb g 0 nilSl (newSt lim) (fun _ => none) (v3.alloc (.map #[] 0))) := by
    rw [hg, hmb]
    refine Lib.hid ⟨HP3.out.below ((Below.refl _ _).alloc (Nat.le_refl _) _), fun k hk => ?_, B3.out.alloc (by have := B3.out.size; omega) _, ⟨0, MapIs.made intK opE v3⟩, B3.out.size⟩
    rcases hk with rfl | h | h | h | h
    · exact ⟨B2.out.size, by have := HP3.out.blk.lt; omega⟩
    all_goals cases h
  rw [← hg, ← hmb]
  obtain ⟨V0, hV0⟩ : ∃ V0, V0 = v3.alloc (.map #[] 0) := ⟨_, rfl⟩
  rw [← hV0] at MM0
  rw [← hV0]
  clear hg hmb hV0 hmm
  have HLEN := Lib.hid hlen
  by_cases hn : 0 < l.length
  · obtain ⟨ab, off, cap, hab, hablt, hacs⟩ : ∃ ab off cap, Value.slice aa l.length ca = .slice (some ⟨ab, off, none⟩) l.length cap ∧ ab < w.heap.size ∧ ∀ i, i < l.length → AcAt w ab (off + i * 6) (l.getD i ac0) := by
      rw [← HSV.out]
      rcases HR.out with ⟨h0, _⟩ | ⟨b, off, cap, h1, _, _, h4, h5⟩
      · rw [h0] at hn; exact absurd hn (by decide)
      · exact ⟨b, off, cap, h1, h4, h5⟩
    rw [hab]
    have HACS := Lib.hid hacs
    clear hab hacs
    go_wp2_with fail
    go_loopg [39] l.length (fun k i wr => ∃ (m : Nat) (S : Sl) (st : St) (f : Int → Option Op), m + k = l.length ∧ i = .int .i64 m ∧ Mm w mb g m S st f wr ∧ Gd m st ∧ Bi lim st ∧ nextS st = none ∧ Tk f st)
    case atStart => exact ⟨0, nilSl, newSt lim, _, by omega, rfl, MM0.out, Gd.new lim, (Bi.new lim hl1).1, (Bi.new lim hl1).2, fun y hy => by cases hy⟩
    case round =>
      obtain ⟨m, S, st, f, hm, rfl, hM, hG, hB, hN, hT⟩ := hrel
      have HM := Lib.hid hm
      have MM := Lib.hid hM
      have GG := Lib.hid hG
      have BB := Lib.hid hB
      have NN := Lib.hid hN
      have TT := Lib.hid hT
      clear hm hM hG hB hN hT
      by_cases hlt : m < l.length
      · obtain ⟨x, hx⟩ : ∃ x, x = l.getD m ac0 := ⟨_, rfl⟩
        have hA := (HACS.out m hlt).below MM.out.low hablt
        rw [← hx] at hA
        obtain ⟨c0, c1, c2, c3, c4, c5⟩ := hA
        have hd : x.op.data.size ≤ 9000 := by rw [hx]; exact HDAT.out _ (getA_mem hlt)
        have CD := Lib.hid (fun W (hb : Below wr.heap.size wr W) => Do_any x hd GG.out (by have := HLEN.out; have := HM.out; omega) g S W (MM.out.pipe.below hb))
        have BB2 := Lib.hid (BB.out.doR hl1 GG.out.t0 NN.out x hd)
        have GG2 := Lib.hid (GG.out.doR x hd)
        have TT2 := Lib.hid (TT.out.doR BB.out x)
        have WS2 := Lib.hid (doR_ws st x)
        have hablt' : ab < wr.heap.size := Nat.lt_of_lt_of_le hablt MM.out.low.size
        clear hx hd
        obtain ⟨k, t, ⟨ok, of_, oc, od⟩⟩ := x
        simp only at c0 c1 c2 c3 c4 c5
        unfold acV at CD
        simp only at CD
        generalize doR st ⟨k, t, ⟨ok, of_, oc, od⟩⟩ = r at *
        obtain ⟨st', ⟨num, txt, er, an⟩⟩ := r
        simp only at CD BB2 GG2 TT2 WS2
        go_upto_region 13 with (go_at_call 18; refine (CD.out _ ?_).mono ?_; exact (Below.refl _ _).alloc (Nat.le_refl _) _; rintro e v4 ⟨rv, S4, rfl, R4, A4, P4, T4⟩; obtain ⟨ra, rc, rfl, _⟩ := R4.form; have M4 := Lib.hid ((MM.out.below ((Below.refl _ _).alloc (Nat.le_refl _) _)).turn T4 P4); have K4 := Lib.hid (T4.blk (Blk.new wr 44 [.int .i64 k, .int .i64 t, .int .i64 ok, .int .i64 of_, .int .i64 oc, .string od]) (fun hh => by have := MM.out.pipe.lt hh; omega)); clear P4 T4 R4 A4; have q0 : v4.cell? ⟨wr.heap.size, 0, none⟩ = some (.int .i64 k) := K4.out.cell 0; have q2 : v4.cell? ⟨wr.heap.size, 2, none⟩ = some (.int .i64 ok) := K4.out.cell 2; have q3 : v4.cell? ⟨wr.heap.size, 3, none⟩ = some (.int .i64 of_) := K4.out.cell 3; have q4 : v4.cell? ⟨wr.heap.size, 4, none⟩ = some (.int .i64 oc) := K4.out.cell 4; have q5 : v4.cell? ⟨wr.heap.size, 5, none⟩ = some (.string od) := K4.out.cell 5)
        obtain ⟨ab2, hab2⟩ : ∃ b2, b2 = wr.heap.size := ⟨_, rfl⟩
        obtain ⟨rb, hrb⟩ : ∃ rb, rb = v4.heap.size := ⟨_, rfl⟩
        obtain ⟨V5, hV5⟩ : ∃ V5, V5 = v4.alloc (.cells #[.int .i64 num, .string txt, .int .i64 er, .slice ra an.length rc] 47) := ⟨_, rfl⟩
        have hb5 : Below v4.heap.size v4 V5 := by rw [hV5]; exact (Below.refl _ _).alloc (Nat.le_refl _) _
        have K5 := Lib.hid (keepBlk hb5 K4.out)
        have L5 : Hid (Blk V5 rb 47 [.int .i64 num, .string txt, .int .i64 er, .slice ra an.length rc]) := by rw [hV5, hrb]; exact Lib.hid (Blk.new v4 47 [_, _, _, _])
        have M5 := Lib.hid (M4.out.below hb5)
        rw [← hab2] at K5 K4 q0 q2 q3 q4 q5
        rw [← hV5, ← hab2, ← hrb]
        clear hV5 hb5 q0 q2 q3 q4 q5 K4 M4 hab2 hrb c0 c1 c2 c3 c4 c5
        have q0 : V5.cell? ⟨ab2, 0, none⟩ = some (.int .i64 k) := K5.out.cell 0
        have q2 : V5.cell? ⟨ab2, 2, none⟩ = some (.int .i64 ok) := K5.out.cell 2
        have q3 : V5.cell? ⟨ab2, 3, none⟩ = some (.int .i64 of_) := K5.out.cell 3
        have q4 : V5.cell? ⟨ab2, 4, none⟩ = some (.int .i64 oc) := K5.out.cell 4
        have q5 : V5.cell? ⟨ab2, 5, none⟩ = some (.string od) := K5.out.cell 5
        have p0 : V5.cell? ⟨rb, 0, none⟩ = some (.int .i64 num) := L5.out.cell 0
        have p2 : V5.cell? ⟨rb, 2, none⟩ = some (.int .i64 er) := L5.out.cell 2
        go_cut [53] (fun c wx => c = .bool (decide (k = 0 ∧ er = 0)) ∧ wx = V5)
        case first =>
          by_cases hk : k = 0
          · subst hk
            by_cases he : er = 0
            · subst he
              go_wp2_with fail
              go_meet
              exact ⟨rfl, rfl⟩
            · have he1 : (er == 0) = false := by rw [beq_eq_false_iff_ne]; exact he
              have HD : Hid (decide ((0 : Int) = 0 ∧ er = 0) = false) := Lib.hid (decide_eq_false fun h => he h.2)
              clear he
              go_wp2_with fail
              go_meet
              exact ⟨by rw [HD.out], rfl⟩
          · have hk1 : (k == 0) = false := by rw [beq_eq_false_iff_ne]; exact hk
            have HD : Hid (decide (k = 0 ∧ er = 0) = false) := Lib.hid (decide_eq_false fun h => hk h.1)
            clear hk
            go_wp2_with fail
            go_meet
            exact ⟨by rw [HD.out], rfl⟩
        case rest =>
          obtain ⟨rfl, rfl⟩ := hcut
          go_upto_if 53 with fail
          go_cut [] (fun wx => Mm w mb g (m + 1) S4 st' (askF f ⟨k, t, ⟨ok, of_, oc, od⟩⟩ ⟨num, txt, er, an⟩) wx)
          case first =>
            by_cases hask : k = 0 ∧ er = 0
            · obtain ⟨rfl, rfl⟩ := hask
              obtain ⟨cm, hmap⟩ := M5.out.map
              have HMAP := Lib.hid hmap
              have hnum : num = st.tks + 1 := by
                rcases WS2.out with ⟨_, _, h, _⟩ | ⟨h, _⟩
                · exact h
                · exact absurd ⟨rfl, rfl⟩ h
              have hwf : (Lit.int .i64 num).wf = true := WalkArith.wf_i64 (by have := GG.out.t0; have := GG.out.t1; have := HM.out; have := HLEN.out; omega)
              have hml : m < maxLen := by have := HM.out; have := HLEN.out; unfold maxLen; omega
              have HA : Hid (askF f ⟨0, t, ⟨ok, of_, oc, od⟩⟩ ⟨num, txt, 0, an⟩ = upd f num ⟨ok, of_, oc, od⟩) := Lib.hid (by unfold askF; rw [if_pos ⟨rfl, rfl⟩])
              rw [show decide ((0 : Int) = 0 ∧ (0 : Int) = 0) = true from rfl]
              clear hmap hnum
              go_wp2_with (at_mapUpdate; refine wp_store (KC := intK) (E := opE) rfl _ _ _ 39 rfl 42 HMAP.out Try.underlying39 hml num hwf ⟨ok, of_, oc, od⟩ rfl rfl rfl ?_; intro w6 hm6 hg6)
              go_meet
              rw [HA.out]
              exact M5.out.store hm6 hg6
            · have HD : Hid (decide (k = 0 ∧ er = 0) = false) := Lib.hid (decide_eq_false hask)
              have HA : Hid (askF f ⟨k, t, ⟨ok, of_, oc, od⟩⟩ ⟨num, txt, er, an⟩ = f) := Lib.hid (by unfold askF; rw [if_neg hask])
              rw [HD.out]
              clear hask
              go_wp2_with fail
              go_meet
              rw [HA.out]
              exact M5.out.more (Nat.le_succ _)
          case rest =>
            have M6 := Lib.hid hcut
            clear hcut q0 q2 q3 q4 q5 p0 p2
            generalize askF f ⟨k, t, ⟨ok, of_, oc, od⟩⟩ ⟨num, txt, er, an⟩ = f2 at *
            clear K5 L5 M5
            obtain ⟨W6, hW6⟩ : ∃ W6, W6 = wc.alloc (.cells #[.int .i64 0, .int .i64 0, .int .i64 0, .int .i64 0] 79) := ⟨_, rfl⟩
            obtain ⟨wb, hwb⟩ : ∃ wb, wb = wc.heap.size := ⟨_, rfl⟩
            have hb6 : Below wc.heap.size wc W6 := by rw [hW6]; exact (Below.refl _ _).alloc (Nat.le_refl _) _
            have M7 := Lib.hid (M6.out.below hb6)
            have K7 : Hid (Blk W6 wb 79 [.int .i64 0, .int .i64 0, .int .i64 0, .int .i64 0]) := by rw [hW6, hwb]; exact Lib.hid (Blk.new wc 79 [_, _, _, _])
            have hwb1 : w.heap.size ≤ wb := by rw [hwb]; exact M6.out.low.size
            have hwb2 : ¬ S4.has g wb := fun hh => by have := M6.out.pipe.lt hh; omega
            have hwb3 : mb ≠ wb := by have := M6.out.lt; omega
            have CW := Lib.hid (Waiting_any g S4 st' W6 M7.out.pipe (GG2.out.sm (by have := HM.out; have := HLEN.out; omega)))
            have hwlen : st'.ws.length ≤ 61 := by have := GG2.out.q; have := HM.out; have := HLEN.out; omega
            clear hb6
            go_upto_region 16 with fail
            rw [← hW6, ← hwb]
            clear hW6 hwb
            go_wp2_with (go_at_call 26; refine (CW.out).mono ?_; rintro e v8 ⟨tv, rfl, R8, hb8, ho8⟩; obtain ⟨ta, tc, rfl, ht1, ht2⟩ := R8.form; unfold maxLen at ht2; have M8 := Lib.hid (M7.out.below hb8); have K8 := Lib.hid (keepBlk hb8 K7.out); have R8' := Lib.hid R8; have HO8 : Hid ((Value.slice ta st'.ws.length tc).ownBlock ≠ some wb) := Lib.hid (fun e => by have := ho8 _ e; have := K7.out.lt; omega); clear R8 hb8 ho8)
            obtain ⟨gko, hgko⟩ : ∃ x, x = gk := ⟨_, rfl⟩
            go_loopg [62] st'.ws.length (fun k i wr2 => ∃ (j : Nat), j + k = st'.ws.length ∧ i = .int .i64 j ∧ Mm w mb g (m + 1) S4 st' f2 wr2 ∧ Row wr2 3 1 (.slice ta st'.ws.length tc) st'.ws.length (tkC st'.ws) ∧ Blk wr2 wb 79 [.int .i64 (cnt (st'.ws.take j) 0 0 : Nat), .int .i64 (cnt (st'.ws.take j) 0 1 : Nat), .int .i64 (cnt (st'.ws.take j) 1 0 : Nat), .int .i64 (cnt (st'.ws.take j) 1 1 : Nat)])
            case atStart => exact ⟨0, by omega, rfl, M8.out, R8'.out, K8.out⟩
            case round =>
              obtain ⟨j, hj, rfl, hM9, hR9, hK9⟩ := hrel
              have HJ := Lib.hid hj
              have M9 := Lib.hid hM9
              have R9 := Lib.hid hR9
              clear hj hM9 hR9
              by_cases hjl : j < st'.ws.length
              · obtain ⟨y, hy⟩ : ∃ y, y = st'.ws.getD j wt0 := ⟨_, rfl⟩
                have hmem : y ∈ st'.ws := by rw [hy]; exact getD_mem hjl
                obtain ⟨⟨hin, _⟩, _, _, hy1, hy2⟩ := BB2.out.1.w y hmem
                have HF2 := Lib.hid (TT2.out y hmem)
                have htks := GG2.out.t1
                obtain ⟨gb, off2, cap2, hta, _, _, _, hcl, _⟩ := R9.out.open (by omega)
                obtain ⟨rfl, rfl⟩ : ta = some ⟨gb, off2, none⟩ ∧ tc = cap2 := by
                  injection hta with h1 _ h3
                  exact ⟨h1, h3⟩
                have hct := (hcl j (by omega)).trans (tkC_at _ j hjl)
                rw [← hy] at hct
                obtain ⟨cm2, hmap2⟩ := M9.out.map
                have HMAP2 := Lib.hid hmap2
                have hwf2 : (Lit.int .i64 y.tk).wf = true := WalkArith.wf_i64 (by have := HM.out; have := HLEN.out; omega)
                obtain ⟨n00, n01, n10, n11, ⟨h00, h01, h10, h11⟩, ⟨m00, m01, m10, m11⟩, hor⟩ := cnt_step hjl hy hin
                rw [h00, h01, h10, h11] at hK9
                have K9 := Lib.hid hK9
                have hwbl := hK9.lt
                obtain ⟨⟨yk, yf, yc, yd⟩, yt⟩ := y
                simp only at hct hwf2 HF2 hor
                clear hy hmem hmap2 hcl hta hy1 hy2 htks hin h00 h01 h10 h11 hK9
                rcases hor with ⟨rfl, rfl, e00, e01, e10, e11⟩ | ⟨rfl, rfl, e00, e01, e10, e11⟩ | ⟨rfl, rfl, e00, e01, e10, e11⟩ | ⟨rfl, rfl, e00, e01, e10, e11⟩
                all_goals
                  have E00 := Lib.hid e00
                  have E01 := Lib.hid e01
                  have E10 := Lib.hid e10
                  have E11 := Lib.hid e11
                  clear e00 e01 e10 e11
                · have z0 : wr.cell? ⟨wb, 0, none⟩ = some (.int .i64 n00) := K9.out.cell 0
                  have hfz := K9.out.frozen 0
                  go_upto_region 22 with (at_lookup; refine wp_asked rfl _ _ rfl HMAP2.out yt hwf2 0 0 yc yd HF2.out rfl rfl ?_)
                  go_region
                  go_wp2_with fail
                  go_roundg (gk - 1)
                  case measure => have := HJ.out; omega
                  case rel =>
                    refine ⟨j + 1, by have := HJ.out; omega, by go_num, (M9.out.set hwb1 hwb2 hwb3 _).below (((Below.refl _ _).alloc (Nat.le_refl _) _).drew), (R9.out.set_ HO8.out _).below (((Below.refl _ _).alloc (Nat.le_refl _) _).drew), ?_⟩
                    rw [E00.out, E01.out, E10.out, E11.out]
                    exact keepBlk (((Below.refl _ _).alloc (Nat.le_refl _) _).drew) (K9.out.set_ 0 _)
                · have z1 : wr.cell? ⟨wb, 1, none⟩ = some (.int .i64 n01) := K9.out.cell 1
                  have hfz := K9.out.frozen 1
                  go_upto_region 22 with (at_lookup; refine wp_asked rfl _ _ rfl HMAP2.out yt hwf2 0 1 yc yd HF2.out rfl rfl ?_)
                  go_region
                  go_wp2_with fail
                  go_roundg (gk - 1)
                  case measure => have := HJ.out; omega
                  case rel =>
                    refine ⟨j + 1, by have := HJ.out; omega, by go_num, (M9.out.set hwb1 hwb2 hwb3 _).below (((Below.refl _ _).alloc (Nat.le_refl _) _).drew), (R9.out.set_ HO8.out _).below (((Below.refl _ _).alloc (Nat.le_refl _) _).drew), ?_⟩
                    rw [E00.out, E01.out, E10.out, E11.out]
                    exact keepBlk (((Below.refl _ _).alloc (Nat.le_refl _) _).drew) (K9.out.set_ 1 _)
                · have z2 : wr.cell? ⟨wb, 2, none⟩ = some (.int .i64 n10) := K9.out.cell 2
                  have hfz := K9.out.frozen 2
                  go_upto_region 22 with (at_lookup; refine wp_asked rfl _ _ rfl HMAP2.out yt hwf2 1 0 yc yd HF2.out rfl rfl ?_)
                  go_region
                  go_wp2_with fail
                  go_roundg (gk - 1)
                  case measure => have := HJ.out; omega
                  case rel =>
                    refine ⟨j + 1, by have := HJ.out; omega, by go_num, (M9.out.set hwb1 hwb2 hwb3 _).below (((Below.refl _ _).alloc (Nat.le_refl _) _).drew), (R9.out.set_ HO8.out _).below (((Below.refl _ _).alloc (Nat.le_refl _) _).drew), ?_⟩
                    rw [E00.out, E01.out, E10.out, E11.out]
                    exact keepBlk (((Below.refl _ _).alloc (Nat.le_refl _) _).drew) (K9.out.set_ 2 _)
                · have z3 : wr.cell? ⟨wb, 3, none⟩ = some (.int .i64 n11) := K9.out.cell 3
                  have hfz := K9.out.frozen 3
                  go_upto_region 22 with (at_lookup; refine wp_asked rfl _ _ rfl HMAP2.out yt hwf2 1 1 yc yd HF2.out rfl rfl ?_)
                  go_region
                  go_wp2_with fail
                  go_roundg (gk - 1)
                  case measure => have := HJ.out; omega
                  case rel =>
                    refine ⟨j + 1, by have := HJ.out; omega, by go_num, (M9.out.set hwb1 hwb2 hwb3 _).below (((Below.refl _ _).alloc (Nat.le_refl _) _).drew), (R9.out.set_ HO8.out _).below (((Below.refl _ _).alloc (Nat.le_refl _) _).drew), ?_⟩
                    rw [E00.out, E01.out, E10.out, E11.out]
                    exact keepBlk (((Below.refl _ _).alloc (Nat.le_refl _) _).drew) (K9.out.set_ 3 _)
              · obtain rfl : j = st'.ws.length := by have := HJ.out; omega
                rw [List.take_length] at hK9
                have l00 := BB2.out.1.n 0 0
                have l01 := BB2.out.1.n 0 1
                have l10 := BB2.out.1.n 1 0
                have l11 := BB2.out.1.n 1 1
                obtain ⟨n00, h00⟩ : ∃ n, cnt st'.ws 0 0 = n := ⟨_, rfl⟩
                obtain ⟨n01, h01⟩ : ∃ n, cnt st'.ws 0 1 = n := ⟨_, rfl⟩
                obtain ⟨n10, h10⟩ : ∃ n, cnt st'.ws 1 0 = n := ⟨_, rfl⟩
                obtain ⟨n11, h11⟩ : ∃ n, cnt st'.ws 1 1 = n := ⟨_, rfl⟩
                rw [h00, h01, h10, h11] at hK9
                rw [h00] at l00
                rw [h01] at l01
                rw [h10] at l10
                rw [h11] at l11
                have K9 := Lib.hid hK9
                clear hK9 R9 R8' K8 M8 HJ
                go_wp2_with fail
                go_loopg [85] 2 (fun k i wr3 => ∃ (q : Nat), q + k = 2 ∧ i = .int .i64 q ∧ Mm w mb g (m + 1) S4 st' f2 wr3 ∧ Blk wr3 wb 79 [.int .i64 n00, .int .i64 n01, .int .i64 n10, .int .i64 n11])
                case atStart => exact ⟨0, rfl, rfl, M9.out, K9.out⟩
                case round =>
                  obtain ⟨q, hq, rfl, hM10, hK10⟩ := hrel
                  have HQ := Lib.hid hq
                  have M10 := Lib.hid hM10
                  have K10 := Lib.hid hK10
                  clear hq hM10 hK10
                  rcases (show q = 0 ∨ q = 1 ∨ q = 2 by have := HQ.out; omega) with rfl | rfl | rfl
                  · obtain ⟨hp, hz⟩ := BB2.out.1.qAt hl1 0
                    obtain ⟨ho1, ho2⟩ := end_ok BB2.out.1 BB2.out.2 0 (by decide)
                    have CB := Lib.hid (fun W (hb : Below wr.heap.size wr W) => Blocks_any 0 g S4 st' W (M10.out.pipe.below hb) (GG2.out.sm (by have := HM.out; have := HLEN.out; omega)))
                    have hql : (qAt st' 0).length ≤ 100000 := by have := GG2.out.q; have := HM.out; have := HLEN.out; unfold qAt; split; omega; split; omega; exact Nat.zero_le _
                    have hqz : sizes (qAt st' 0) ≤ 1000000000000 := by omega
                    have CJ := Lib.hid (fun sv W (h : Row W 9 1 sv (qAt st' 0).length (strC (qAt st' 0))) => join_any sv (qAt st' 0) W h hql hqz)
                    have CC := Lib.hid (fun sv W (h : Row W 9 1 sv (qAt st' 0).length (strC (qAt st' 0))) => contains_none (qAt st' 0) sv W h hql hp)
                    obtain ⟨D, hD⟩ : ∃ D, D = cat (qAt st' 0) := ⟨_, rfl⟩
                    have hDs : D.size = sizes (qAt st' 0) := by rw [hD]; exact join_len _
                    rw [← hD] at CJ
                    rw [h00, ← hDs] at ho1
                    rw [show (1 : Int) - 0 = 1 from rfl, h11, ← hDs] at ho2
                    rw [← hDs] at hz
                    generalize qAt st' 0 = qs at *
                    have tok1 : True := trivial
                    have T0 := Lib.hid (Below.refl wr.heap.size wr)
                    have hD0 : decide (lim + 8192 ≤ (D.size : Int)) = false := decide_eq_false (by omega)
                    have hD00 : ¬ (lim + 8192 ≤ (D.size : Int)) := by omega
                    have hD1 : D.size ≤ 2000000 := by omega
                    clear hp hz hql hqz hD hDs
                    go_upto_region 30 with (first
                      | (go_at_call 21; have _t := tok1; refine (CB.out _ T0.out).mono ?_; rintro e v11 ⟨bv, rfl, R11, hb11, _⟩; have HR11 := Lib.hid R11; have T1 := Lib.hid hb11; clear tok1 R11 hb11)
                      | (go_at_call 20; refine (CJ.out _ _ HR11.out).mono ?_; rintro e v12 ⟨rfl, hb12⟩; have T2 := Lib.hid (keepBelow T1.out hb12); have tok2 : True := trivial; clear hb12)
                      | (go_at_call 21; have _t := tok2; refine (CB.out _ T2.out).mono ?_; rintro e v13 ⟨bw, rfl, R13, hb13, _⟩; have HR13 := Lib.hid R13; have T3 := Lib.hid (keepBelow T2.out hb13); clear tok2 R13 hb13)
                      | (go_at_call 30; refine (CC.out _ _ HR13.out).mono ?_; rintro e v14 ⟨rfl, rfl⟩))
                    have K14 := Lib.hid (keepBlk T3.out K10.out)
                    have M14 := Lib.hid (M10.out.below T3.out)
                    have x0 : v13.cell? ⟨wb, 0, none⟩ = some (.int .i64 n00) := K14.out.cell 0
                    have x1 : v13.cell? ⟨wb, 2, none⟩ = some (.int .i64 n10) := K14.out.cell 2
                    have x2 : v13.cell? ⟨wb, 3, none⟩ = some (.int .i64 n11) := K14.out.cell 3
                    have d1 : decide ((16 : Int) < n00) = false := decide_eq_false (by omega)
                    have d2 : decide ((16 : Int) < n10) = false := decide_eq_false (by omega)
                    have hwbl := K14.out.lt
                    by_cases ha : 0 < n00
                    · have hD2 : D = ByteArray.empty := by
                        have h0 : D.size = 0 := ho1 ha
                        exact ByteArray.size_eq_zero_iff.1 h0
                      have hc0 : n11 = 0 := by
                        by_cases hb : 0 < n11
                        · exfalso
                          have h1 := ho1 ha
                          have h2 := ho2 hb
                          omega
                        · omega
                      have d3 : decide (0 < n00) = true := decide_eq_true ha
                      clear ho1 ho2 d2
                      subst hD2 hc0
                      have d2 : decide ((16 : Int) < n10) = false := decide_eq_false (by omega)
                      go_wp2_with fail
                      go_roundg (gk - 1)
                      case measure => have := HQ.out; omega
                      case rel => exact ⟨1, by have := HQ.out; omega, rfl, M14.out, K14.out⟩
                    · have ha0 : n00 = 0 := by omega
                      clear d1
                      by_cases hb : 0 < n11
                      · have d5 : decide (0 < n11) = true := decide_eq_true hb
                        have d6 : decide ((D.size : Int) < lim) = false := decide_eq_false (by have := ho2 hb; omega)
                        clear ho1 ho2 ha
                        subst ha0
                        go_wp2_with fail
                        go_roundg (gk - 1)
                        case measure => have := HQ.out; omega
                        case rel => exact ⟨1, by have := HQ.out; omega, rfl, M14.out, K14.out⟩
                      · have hc0 : n11 = 0 := by omega
                        clear ho1 ho2 ha hb
                        subst ha0 hc0
                        go_wp2_with fail
                        go_roundg (gk - 1)
                        case measure => have := HQ.out; omega
                        case rel => exact ⟨1, by have := HQ.out; omega, rfl, M14.out, K14.out⟩
                  · obtain ⟨hp, hz⟩ := BB2.out.1.qAt hl1 1
                    obtain ⟨ho1, ho2⟩ := end_ok BB2.out.1 BB2.out.2 1 (by decide)
                    have CB := Lib.hid (fun W (hb : Below wr.heap.size wr W) => Blocks_any 1 g S4 st' W (M10.out.pipe.below hb) (GG2.out.sm (by have := HM.out; have := HLEN.out; omega)))
                    have hql : (qAt st' 1).length ≤ 100000 := by have := GG2.out.q; have := HM.out; have := HLEN.out; unfold qAt; split; omega; split; omega; exact Nat.zero_le _
                    have hqz : sizes (qAt st' 1) ≤ 1000000000000 := by omega
                    have CJ := Lib.hid (fun sv W (h : Row W 9 1 sv (qAt st' 1).length (strC (qAt st' 1))) => join_any sv (qAt st' 1) W h hql hqz)
                    have CC := Lib.hid (fun sv W (h : Row W 9 1 sv (qAt st' 1).length (strC (qAt st' 1))) => contains_none (qAt st' 1) sv W h hql hp)
                    obtain ⟨D, hD⟩ : ∃ D, D = cat (qAt st' 1) := ⟨_, rfl⟩
                    have hDs : D.size = sizes (qAt st' 1) := by rw [hD]; exact join_len _
                    rw [← hD] at CJ
                    rw [h01, ← hDs] at ho1
                    rw [show (1 : Int) - 1 = 0 from rfl, h10, ← hDs] at ho2
                    rw [← hDs] at hz
                    generalize qAt st' 1 = qs at *
                    have tok1 : True := trivial
                    have T0 := Lib.hid (Below.refl wr.heap.size wr)
                    have hD0 : decide (lim + 8192 ≤ (D.size : Int)) = false := decide_eq_false (by omega)
                    have hD00 : ¬ (lim + 8192 ≤ (D.size : Int)) := by omega
                    have hD1 : D.size ≤ 2000000 := by omega
                    clear hp hz hql hqz hD hDs
                    go_upto_region 30 with (first
                      | (go_at_call 21; have _t := tok1; refine (CB.out _ T0.out).mono ?_; rintro e v11 ⟨bv, rfl, R11, hb11, _⟩; have HR11 := Lib.hid R11; have T1 := Lib.hid hb11; clear tok1 R11 hb11)
                      | (go_at_call 20; refine (CJ.out _ _ HR11.out).mono ?_; rintro e v12 ⟨rfl, hb12⟩; have T2 := Lib.hid (keepBelow T1.out hb12); have tok2 : True := trivial; clear hb12)
                      | (go_at_call 21; have _t := tok2; refine (CB.out _ T2.out).mono ?_; rintro e v13 ⟨bw, rfl, R13, hb13, _⟩; have HR13 := Lib.hid R13; have T3 := Lib.hid (keepBelow T2.out hb13); clear tok2 R13 hb13)
                      | (go_at_call 30; refine (CC.out _ _ HR13.out).mono ?_; rintro e v14 ⟨rfl, rfl⟩))
                    have K14 := Lib.hid (keepBlk T3.out K10.out)
                    have M14 := Lib.hid (M10.out.below T3.out)
                    have x0 : v13.cell? ⟨wb, 1, none⟩ = some (.int .i64 n01) := K14.out.cell 1
                    have x1 : v13.cell? ⟨wb, 3, none⟩ = some (.int .i64 n11) := K14.out.cell 3
                    have x2 : v13.cell? ⟨wb, 2, none⟩ = some (.int .i64 n10) := K14.out.cell 2
                    have d1 : decide ((16 : Int) < n01) = false := decide_eq_false (by omega)
                    have d2 : decide ((16 : Int) < n11) = false := decide_eq_false (by omega)
                    have hwbl := K14.out.lt
                    by_cases ha : 0 < n01
                    · have hD2 : D = ByteArray.empty := by
                        have h0 : D.size = 0 := ho1 ha
                        exact ByteArray.size_eq_zero_iff.1 h0
                      have hc0 : n10 = 0 := by
                        by_cases hb : 0 < n10
                        · exfalso
                          have h1 := ho1 ha
                          have h2 := ho2 hb
                          omega
                        · omega
                      have d3 : decide (0 < n01) = true := decide_eq_true ha
                      clear ho1 ho2 d2
                      subst hD2 hc0
                      have d2 : decide ((16 : Int) < n11) = false := decide_eq_false (by omega)
                      go_wp2_with fail
                      go_roundg (gk - 1)
                      case measure => have := HQ.out; omega
                      case rel => exact ⟨2, by have := HQ.out; omega, rfl, M14.out, K14.out⟩
                    · have ha0 : n01 = 0 := by omega
                      clear d1
                      by_cases hb : 0 < n10
                      · have d5 : decide (0 < n10) = true := decide_eq_true hb
                        have d6 : decide ((D.size : Int) < lim) = false := decide_eq_false (by have := ho2 hb; omega)
                        clear ho1 ho2 ha
                        subst ha0
                        go_wp2_with fail
                        go_roundg (gk - 1)
                        case measure => have := HQ.out; omega
                        case rel => exact ⟨2, by have := HQ.out; omega, rfl, M14.out, K14.out⟩
                      · have hc0 : n10 = 0 := by omega
                        clear ho1 ho2 ha hb
                        subst ha0 hc0
                        go_wp2_with fail
                        go_roundg (gk - 1)
                        case measure => have := HQ.out; omega
                        case rel => exact ⟨2, by have := HQ.out; omega, rfl, M14.out, K14.out⟩
                  · go_wp2_with fail
                    go_roundg (gko - 1)
                    case measure => have := HM.out; omega
                    case rel => exact ⟨m + 1, S4, st', f2, by have := HM.out; omega, by go_num, M10.out, GG2.out, BB2.out.1, BB2.out.2, TT2.out⟩
      · obtain rfl : m = l.length := by have := HM.out; omega
        go_wp2_with fail
        go_ret
        exact ⟨rfl, MM.out.low⟩
  · have h0 : l.length = 0 := by omega
    rw [h0]
    go_wp2_with fail
    go_loopg [39] 0 (fun k i wr => i = .int .i64 0 ∧ wr = V0)
    case atStart => exact ⟨rfl, rfl⟩
    case round =>
      obtain ⟨rfl, rfl⟩ := hrel
      go_wp2_with fail
      go_ret
      exact ⟨rfl, MM0.out.low⟩
theorem bounds_any (lim : Int) (sv : Value) (l : List Ac) (w : World) (hr : Acts w sv l) : Calls Try.prog 8 #[.int .i64 lim, sv] w fun e w' => e = .returned (.bool true) ∧ Below w.heap.size w w' := by
  cases hf : fewB l with
  | false => exact bounds_no lim sv l hf w hr
  | true =>
    by_cases hl : lim < 1 ∨ 1048576 < lim
    · exact bounds_bad lim sv l hf hl w hr
    · exact bounds_ok lim sv l hf (by omega) (by omega) w hr
end Go.Proofs.Ytmnlojbfdpjjdaa
