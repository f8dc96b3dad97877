/- An end as a wire: Wire, Send, Receive; which methods an interface's value leads to. -/
import Derived.Test.YtmnlojbfdpjjdaaD6
import Derived.Test.YtmnlojbfdpjjdaaB7
import Derived.Test.YtmnlojbfdpjjdaaSh
namespace Go.Proofs.Ytmnlojbfdpjjdaa
open Go.RowKit
attribute [local go_sem] Oper.semAt_some
def wireV (g : Nat) (a : Int) : Value := .iface 122 (.agg #[.pointer (some ⟨g, 0, none⟩), .int .i64 a])
theorem Wire_bad (a : Int) (ha : ¬ (a = 0 ∨ a = 1)) (g : Nat) (w : World) : Calls Try.prog 29 #[.pointer (some ⟨g, 0, none⟩), .int .i64 a] w fun e w' => e = .returned .nilIface ∧ w = w' := by
  have C := Lib.hid (fun W => isEnd_any a W)
  rw [decide_eq_false ha] at C
  clear ha
  go_enter Try.func29, Try.ntmps29
  go_wp2_with (go_at_call 42; refine (C.out _).mono ?_; rintro e v1 ⟨rfl, rfl⟩)
  go_ret
  exact ⟨rfl, rfl⟩
theorem Wire_ok (a : Int) (ha : a = 0 ∨ a = 1) (g : Nat) (w : World) : Calls Try.prog 29 #[.pointer (some ⟨g, 0, none⟩), .int .i64 a] w fun e w' => e = .returned (wireV g a) ∧ w = w' := by
  have C := Lib.hid (fun W => isEnd_any a W)
  rw [decide_eq_true ha] at C
  clear ha
  go_enter Try.func29, Try.ntmps29
  go_wp2_with (go_at_call 42; refine (C.out _).mono ?_; rintro e v1 ⟨rfl, rfl⟩)
  go_ret
  exact ⟨rfl, rfl⟩
theorem Send_any (a : Int) (d : ByteArray) (hd : d.size ≤ 1000000) (g : Nat) (S : Sl) (st : St) (w : World) (hP : PipeAt w g S st) (hs : Sm st) (hs2 : Sm (doS st ⟨1, a, 0, d⟩).1) (hw : WOk st) :
    Calls Try.prog 101 #[.agg #[.pointer (some ⟨g, 0, none⟩), .int .i64 a], .string d] w fun e w' => e = .returned (.int .i64 (onceR st ⟨1, a, 0, d⟩).2.2.2) ∧ ∃ S', PipeAt w' g S' (onceR st ⟨1, a, 0, d⟩).1 ∧ Turn g S w S' w' := by
  have hb : Below w.heap.size w (w.alloc (.cells #[.pointer (some ⟨g, 0, none⟩), .int .i64 a] 122)) := (Below.refl _ _).alloc (Nat.le_refl _) _
  have HT := Lib.hid (Turn.of_below hb : Turn g S w S _)
  have C := Lib.hid (Write_any a d hd g S st _ (hP.below hb) hs hs2 hw)
  clear hP hs hs2 hw hb
  generalize onceR st ⟨1, a, 0, d⟩ = r at *
  go_enter Try.func101, Try.ntmps101
  go_wp2_with (go_at_call 13; refine (C.out).mono ?_; rintro e v1 ⟨rfl, S1, P1, T1⟩; have HP1 := Lib.hid P1; have HT1 := Lib.hid T1; clear P1 T1)
  go_ret
  exact ⟨rfl, S1, HP1.out, HT.out.trans HT1.out⟩
/-- the blocks as one text -/
def cat (l : List ByteArray) : ByteArray := ⟨(Lib.join (l.map (·.data.toList)) []).toArray⟩
theorem join_len (l : List ByteArray) : (Lib.join (l.map (·.data.toList)) []).length = sizes l := by
  have hf : ∀ l : List ByteArray, (Lib.join (l.map (·.data.toList)) []) = (l.map (·.data.toList)).flatten := by
    intro l
    cases l with
    | nil => rfl
    | cons a l =>
      rw [List.map_cons, Lib.join_cons, Lib.joinTail, List.flatten_cons]
      congr 1
      congr 1
      exact List.map_id' _
  rw [hf]
  induction l with
  | nil => rfl
  | cons a l ih => rw [List.map_cons, List.flatten_cons, List.length_append, ih, sizes]; rfl
theorem join_any (sv : Value) (q : List ByteArray) (w : World) (hr : Row w 9 1 sv q.length (strC q)) (hq : q.length ≤ 100000) (hz : sizes q ≤ 1000000000000) :
    Calls Try.prog 20 #[sv, .string ⟨#[]⟩] w fun e w' => e = .returned (.string (cat q)) ∧ Below w.heap.size w w' := by
  by_cases hn : 0 < q.length
  · obtain ⟨gb, off, cap, rfl, h1, h2, hgb, hcl, _⟩ := hr.open hn
    refine Try.strings_Join gb off cap q ⟨#[]⟩ w ?_ hgb (by omega) h1 ?_
    · intro j x hx
      have hj : j < q.length := (List.getElem?_eq_some_iff.1 hx).1
      rw [hcl j (by omega), strC, List.getElem?_map, hx]; rfl
    · have h := join_len q; show (Lib.join _ []).length ≤ _; omega
  · have hq0 : q = [] := List.eq_nil_of_length_eq_zero (by omega)
    subst hq0
    obtain ⟨a, cap, rfl, _⟩ := hr.form
    exact (Try.strings_Join_none a cap ⟨#[]⟩ w).mono fun e w' h => ⟨h.1, h.2 ▸ Below.refl _ _⟩
/-- to receive -/
def closedA (st : St) (a : Int) : Bool := if a = 0 then st.c0 else st.c1
def rdOp (a : Int) : Op := ⟨0, a, 0, ⟨#[]⟩⟩
def recvE (st : St) (a : Int) : Int := if closedA st a || ((qAt st a).isEmpty && closedA st (1 - a)) then 28 else if (qAt st a).isEmpty || decide (0 < likeN st.ws (rdOp a)) then 36 else 0
def recvR (st : St) (a : Int) : St × ByteArray × Int := if recvE st a = 0 then (settle (flushS st a), cat (qAt st a), 0) else (st, ⟨#[]⟩, recvE st a)
set_option maxRecDepth 100000 in
set_option maxHeartbeats 1600000 in
theorem Receive_0 (g : Nat) (S : Sl) (st : St) (w : World) (hP : PipeAt w g S st) (hs : Sm st) (hw : WOk st) :
    Calls Try.prog 100 #[.agg #[.pointer (some ⟨g, 0, none⟩), .int .i64 0]] w fun e w' => e = .returned (.tuple #[.string (recvR st 0).2.1, .int .i64 (recvR st 0).2.2]) ∧ ∃ S', PipeAt w' g S' (recvR st 0).1 ∧ Turn g S w S' w' := by
  have hb1 : Below w.heap.size w (w.alloc (.cells #[.pointer (some ⟨g, 0, none⟩), .int .i64 0] 122)) := (Below.refl _ _).alloc (Nat.le_refl _) _
  obtain ⟨a0, p0, hs0, h01, h02⟩ := hP.r0.form
  obtain ⟨a1, p1, hs1, h11, h12⟩ := hP.r1.form
  unfold maxLen at h02 h12
  obtain ⟨z0, z1, z2, z3, _⟩ := hP.cells
  rw [hs0] at z0
  rw [hs1] at z2
  have hg := hP.blk.lt
  have hql := hs.q
  have hqz := hs.z
  have HPB := Lib.hid (fun W (hb : Below w.heap.size w W) => hP.below hb)
  have CL := Lib.hid (fun W (hb : Below w.heap.size w W) => like_any (rdOp 0) g S st W (hP.below hb) hs)
  have CJ := Lib.hid (fun W (hb : Below w.heap.size w W) => join_any S.s0 st.q0 W ((hP.below hb).r0) (by omega) (by omega))
  rw [hs0] at CJ
  unfold opV rdOp at CL
  have HU := Lib.hid (fun W (hb : Below w.heap.size w W) => (hP.below hb).upd0 (w1 := W) (v := .slice none 0 0) [] (World.grownBy.refl W _) (Row.nil _ _ _) (.inr fun k hk => by cases hk))
  have CS := Lib.hid (fun S' W (hp : PipeAt W g S' (flushS st 0)) => settle_any g S' (flushS st 0) W hp (hs.flushS 0) (show WOk (flushS st 0) from hw))
  have HE : Hid (recvR st 0 = if recvE st 0 = 0 then (settle (flushS st 0), cat st.q0, 0) else (st, ⟨#[]⟩, recvE st 0)) := Lib.hid rfl
  have HEE : Hid (recvE st 0 = if st.c0 || (st.q0.isEmpty && st.c1) then 28 else if st.q0.isEmpty || decide (0 < likeN st.ws (rdOp 0)) then 36 else 0) := Lib.hid rfl
  clear hP hs hw
  go_enter Try.func100, Try.ntmps100
  go_upto_region 1 with fail
  obtain ⟨W1, hW1⟩ : ∃ W1, W1 = w.alloc (.cells #[.pointer (some ⟨g, 0, none⟩), .int .i64 0] 122) := ⟨_, rfl⟩
  rw [← hW1] at hb1
  have HB1 := Lib.hid hb1
  have K1 : Hid (Blk W1 w.heap.size 122 [.pointer (some ⟨g, 0, none⟩), .int .i64 0]) := by rw [hW1]; exact Lib.hid (Blk.new w 122 [_, _])
  have y0 := cells_far hb1 hg 0 z0
  have y1 := cells_far hb1 hg 1 z1
  have y2 := cells_far hb1 hg 2 z2
  have y3 := cells_far hb1 hg 3 z3
  have k0 : W1.cell? ⟨w.heap.size, 0, none⟩ = some (.pointer (some ⟨g, 0, none⟩)) := K1.out.cell 0
  have k1 : W1.cell? ⟨w.heap.size, 1, none⟩ = some (.int .i64 0) := K1.out.cell 1
  have hlt1 : w.heap.size < W1.heap.size := K1.out.lt
  have hg1 : g < W1.heap.size := by omega
  rw [← hW1]
  clear hb1 hW1 z0 z1 z2 z3
  go_region
  obtain ⟨W2, hW2⟩ : ∃ W2, W2 = (W1.alloc (.cells #[.slice a1 st.q1.length p1, .bool st.c1] 84)).drew := ⟨_, rfl⟩
  have hb2 : Below W1.heap.size W1 W2 := by rw [hW2]; exact ((Below.refl _ _).alloc (Nat.le_refl _) _).drew
  have HB2 := Lib.hid (keepBelow HB1.out hb2)
  have K2 := Lib.hid (keepBlk hb2 K1.out)
  have L2 : Hid (Blk W2 W1.heap.size 84 [.slice a1 st.q1.length p1, .bool st.c1]) := by rw [hW2]; exact Lib.hid (Blk.new W1 84 [_, _])
  have x0 : W2.cell? ⟨g, 0, none⟩ = some (.slice a0 st.q0.length p0) := cells_far hb2 hg1 0 y0
  have x1 : W2.cell? ⟨g, 1, none⟩ = some (.bool st.c0) := cells_far hb2 hg1 1 y1
  have k0 : W2.cell? ⟨w.heap.size, 0, none⟩ = some (.pointer (some ⟨g, 0, none⟩)) := K2.out.cell 0
  have k1 : W2.cell? ⟨w.heap.size, 1, none⟩ = some (.int .i64 0) := K2.out.cell 1
  have l1 : W2.cell? ⟨W1.heap.size, 1, none⟩ = some (.bool st.c1) := L2.out.cell 1
  have hlt2 : w.heap.size < W2.heap.size := K2.out.lt
  have hg2 : g < W2.heap.size := by omega
  have HT2 := Lib.hid (Turn.of_below HB2.out : Turn g S w S W2)
  rw [← hW2]
  clear hb2 hW2 y0 y1 y2 y3 hlt1 hg1
  generalize W1.heap.size = lb at *
  by_cases hca : st.c0 = true
  · rw [hca] at x1
    have HR : Hid (recvR st 0 = (st, ⟨#[]⟩, 28)) := Lib.hid (by rw [HE.out, HEE.out, hca]; rfl)
    clear hca HE HEE
    go_wp2_with fail
    go_ret2
    rw [HR.out]
    exact ⟨rfl, S, HPB.out _ HB2.out, HT2.out⟩
  have hca' : st.c0 = false := by simpa using hca
  rw [hca'] at x1
  by_cases hn : 0 < st.q0.length
  · have hne : ((st.q0.length : Int) == 0) = false := by rw [beq_eq_false_iff_ne]; omega
    have hie : st.q0.isEmpty = false := by rw [List.isEmpty_eq_false_iff]; intro e; rw [e] at hn; simp at hn
    by_cases hlk : 0 < likeN st.ws (rdOp 0)
    · have HR : Hid (recvR st 0 = (st, ⟨#[]⟩, 36)) := Lib.hid (by rw [HE.out, HEE.out, hca', hie, decide_eq_true hlk]; rfl)
      have hlk2 : (0 : Int) < likeN st.ws ⟨0, 0, 0, ⟨#[]⟩⟩ := by unfold rdOp at hlk; omega
      clear hca hca' HE HEE hie hlk
      generalize likeN st.ws ⟨0, 0, 0, ⟨#[]⟩⟩ = n at *
      go_wp2_with (go_at_call 55; refine (CL.out _ ?_).mono ?_; exact HB2.out; rintro e v1 ⟨rfl, hb3⟩; have HB3 := Lib.hid (keepBelow HB2.out hb3); clear hb3)
      go_ret2
      rw [HR.out]
      exact ⟨rfl, S, HPB.out _ HB3.out, Turn.of_below HB3.out⟩
    · have HR : Hid (recvR st 0 = (settle (flushS st 0), cat st.q0, 0)) := Lib.hid (by rw [HE.out, HEE.out, hca', hie, decide_eq_false hlk]; rfl)
      have hlk2 : likeN st.ws ⟨0, 0, 0, ⟨#[]⟩⟩ = 0 := by unfold rdOp at hlk; omega
      rw [hlk2] at CL
      clear hca hca' HE HEE hie hlk hlk2
      go_wp2_with (first
        | (go_at_call 55; refine (CL.out _ ?_).mono ?_; exact HB2.out; rintro e v1 ⟨rfl, hb3⟩; have HB3 := Lib.hid (keepBelow HB2.out hb3); have x3 := cells_far hb3 hg2 0 x0; have K3 := Lib.hid (keepBlk hb3 K2.out); have hs3 := hb3.size; clear hb3)
        | (go_at_call 20; refine (CJ.out _ ?_).mono ?_; exact HB3.out; rintro e v2 ⟨rfl, hb4⟩; have HB4 := Lib.hid (keepBelow HB3.out hb4); have x4 : v2.cell? ⟨g, 0, none⟩ = _ := cells_far hb4 (Nat.lt_of_lt_of_le hg2 hs3) 0 x3; have K4 := Lib.hid (keepBlk hb4 K3.out); clear hb4; have f4 := (HPB.out _ HB4.out).frozen 0; obtain ⟨P4, T4⟩ := HU.out _ HB4.out; have HP4 := Lib.hid P4; have HT4 := Lib.hid ((Turn.of_below HB4.out : Turn g S w S v2).trans T4); have k04 : (v2.setCell ⟨g, 0, none⟩ (.slice none 0 0)).cell? ⟨w.heap.size, 0, none⟩ = some (.pointer (some ⟨g, 0, none⟩)) := ((K4.out.far (p := ⟨g, 0, none⟩) (by show w.heap.size ≠ g; omega) (.slice none 0 0)).cell 0); clear P4 T4 x3)
        | (go_at_call 57; refine (CS.out _ _ HP4.out).mono ?_; rintro e w5 ⟨rfl, S5, P5, T5⟩; have HP5 := Lib.hid P5; have HT5 := Lib.hid T5; clear P5 T5))
      go_ret2
      rw [HR.out]
      exact ⟨rfl, S5, HP5.out, HT4.out.trans HT5.out⟩
  have hq0 : st.q0 = [] := List.eq_nil_of_length_eq_zero (by omega)
  have hie : st.q0.isEmpty = true := by rw [hq0]; rfl
  rw [hq0] at x0
  have x0' : W2.cell? ⟨g, 0, none⟩ = some (.slice a0 0 p0) := x0
  clear x0
  by_cases hcb : st.c1 = true
  · rw [hcb] at l1
    have HR : Hid (recvR st 0 = (st, ⟨#[]⟩, 28)) := Lib.hid (by rw [HE.out, HEE.out, hca', hie, hcb]; rfl)
    clear hca hca' HE HEE hie hcb
    go_wp2_with fail
    go_ret2
    rw [HR.out]
    exact ⟨rfl, S, HPB.out _ HB2.out, HT2.out⟩
  · have hcb' : st.c1 = false := by simpa using hcb
    rw [hcb'] at l1
    have HR : Hid (recvR st 0 = (st, ⟨#[]⟩, 36)) := Lib.hid (by rw [HE.out, HEE.out, hca', hie, hcb']; rfl)
    clear hca hca' HE HEE hie hcb hcb'
    go_wp2_with fail
    go_ret2
    rw [HR.out]
    exact ⟨rfl, S, HPB.out _ HB2.out, HT2.out⟩
set_option maxRecDepth 100000 in
set_option maxHeartbeats 1600000 in
theorem Receive_1 (g : Nat) (S : Sl) (st : St) (w : World) (hP : PipeAt w g S st) (hs : Sm st) (hw : WOk st) :
    Calls Try.prog 100 #[.agg #[.pointer (some ⟨g, 0, none⟩), .int .i64 1]] w fun e w' => e = .returned (.tuple #[.string (recvR st 1).2.1, .int .i64 (recvR st 1).2.2]) ∧ ∃ S', PipeAt w' g S' (recvR st 1).1 ∧ Turn g S w S' w' := by
  have hb1 : Below w.heap.size w (w.alloc (.cells #[.pointer (some ⟨g, 0, none⟩), .int .i64 1] 122)) := (Below.refl _ _).alloc (Nat.le_refl _) _
  obtain ⟨a0, p0, hs0, h01, h02⟩ := hP.r0.form
  obtain ⟨a1, p1, hs1, h11, h12⟩ := hP.r1.form
  unfold maxLen at h02 h12
  obtain ⟨z0, z1, z2, z3, _⟩ := hP.cells
  rw [hs0] at z0
  rw [hs1] at z2
  have hg := hP.blk.lt
  have hql := hs.q
  have hqz := hs.z
  have HPB := Lib.hid (fun W (hb : Below w.heap.size w W) => hP.below hb)
  have CL := Lib.hid (fun W (hb : Below w.heap.size w W) => like_any (rdOp 1) g S st W (hP.below hb) hs)
  have CJ := Lib.hid (fun W (hb : Below w.heap.size w W) => join_any S.s1 st.q1 W ((hP.below hb).r1) (by omega) (by omega))
  rw [hs1] at CJ
  unfold opV rdOp at CL
  have HU := Lib.hid (fun W (hb : Below w.heap.size w W) => (hP.below hb).upd1 (w1 := W) (v := .slice none 0 0) [] (World.grownBy.refl W _) (Row.nil _ _ _) (.inr fun k hk => by cases hk))
  have CS := Lib.hid (fun S' W (hp : PipeAt W g S' (flushS st 1)) => settle_any g S' (flushS st 1) W hp (hs.flushS 1) (show WOk (flushS st 1) from hw))
  have HE : Hid (recvR st 1 = if recvE st 1 = 0 then (settle (flushS st 1), cat st.q1, 0) else (st, ⟨#[]⟩, recvE st 1)) := Lib.hid rfl
  have HEE : Hid (recvE st 1 = if st.c1 || (st.q1.isEmpty && st.c0) then 28 else if st.q1.isEmpty || decide (0 < likeN st.ws (rdOp 1)) then 36 else 0) := Lib.hid rfl
  clear hP hs hw
  go_enter Try.func100, Try.ntmps100
  go_upto_region 1 with fail
  obtain ⟨W1, hW1⟩ : ∃ W1, W1 = w.alloc (.cells #[.pointer (some ⟨g, 0, none⟩), .int .i64 1] 122) := ⟨_, rfl⟩
  rw [← hW1] at hb1
  have HB1 := Lib.hid hb1
  have K1 : Hid (Blk W1 w.heap.size 122 [.pointer (some ⟨g, 0, none⟩), .int .i64 1]) := by rw [hW1]; exact Lib.hid (Blk.new w 122 [_, _])
  have y0 := cells_far hb1 hg 0 z0
  have y1 := cells_far hb1 hg 1 z1
  have y2 := cells_far hb1 hg 2 z2
  have y3 := cells_far hb1 hg 3 z3
  have k0 : W1.cell? ⟨w.heap.size, 0, none⟩ = some (.pointer (some ⟨g, 0, none⟩)) := K1.out.cell 0
  have k1 : W1.cell? ⟨w.heap.size, 1, none⟩ = some (.int .i64 1) := K1.out.cell 1
  have hlt1 : w.heap.size < W1.heap.size := K1.out.lt
  have hg1 : g < W1.heap.size := by omega
  rw [← hW1]
  clear hb1 hW1 z0 z1 z2 z3
  go_region
  obtain ⟨W2, hW2⟩ : ∃ W2, W2 = (W1.alloc (.cells #[.slice a0 st.q0.length p0, .bool st.c0] 84)).drew := ⟨_, rfl⟩
  have hb2 : Below W1.heap.size W1 W2 := by rw [hW2]; exact ((Below.refl _ _).alloc (Nat.le_refl _) _).drew
  have HB2 := Lib.hid (keepBelow HB1.out hb2)
  have K2 := Lib.hid (keepBlk hb2 K1.out)
  have L2 : Hid (Blk W2 W1.heap.size 84 [.slice a0 st.q0.length p0, .bool st.c0]) := by rw [hW2]; exact Lib.hid (Blk.new W1 84 [_, _])
  have x0 : W2.cell? ⟨g, 2, none⟩ = some (.slice a1 st.q1.length p1) := cells_far hb2 hg1 2 y2
  have x1 : W2.cell? ⟨g, 3, none⟩ = some (.bool st.c1) := cells_far hb2 hg1 3 y3
  have k0 : W2.cell? ⟨w.heap.size, 0, none⟩ = some (.pointer (some ⟨g, 0, none⟩)) := K2.out.cell 0
  have k1 : W2.cell? ⟨w.heap.size, 1, none⟩ = some (.int .i64 1) := K2.out.cell 1
  have l1 : W2.cell? ⟨W1.heap.size, 1, none⟩ = some (.bool st.c0) := L2.out.cell 1
  have hlt2 : w.heap.size < W2.heap.size := K2.out.lt
  have hg2 : g < W2.heap.size := by omega
  have HT2 := Lib.hid (Turn.of_below HB2.out : Turn g S w S W2)
  rw [← hW2]
  clear hb2 hW2 y0 y1 y2 y3 hlt1 hg1
  generalize W1.heap.size = lb at *
  by_cases hca : st.c1 = true
  · rw [hca] at x1
    have HR : Hid (recvR st 1 = (st, ⟨#[]⟩, 28)) := Lib.hid (by rw [HE.out, HEE.out, hca]; rfl)
    clear hca HE HEE
    go_wp2_with fail
    go_ret2
    rw [HR.out]
    exact ⟨rfl, S, HPB.out _ HB2.out, HT2.out⟩
  have hca' : st.c1 = false := by simpa using hca
  rw [hca'] at x1
  by_cases hn : 0 < st.q1.length
  · have hne : ((st.q1.length : Int) == 0) = false := by rw [beq_eq_false_iff_ne]; omega
    have hie : st.q1.isEmpty = false := by rw [List.isEmpty_eq_false_iff]; intro e; rw [e] at hn; simp at hn
    by_cases hlk : 0 < likeN st.ws (rdOp 1)
    · have HR : Hid (recvR st 1 = (st, ⟨#[]⟩, 36)) := Lib.hid (by rw [HE.out, HEE.out, hca', hie, decide_eq_true hlk]; rfl)
      have hlk2 : (0 : Int) < likeN st.ws ⟨0, 1, 0, ⟨#[]⟩⟩ := by unfold rdOp at hlk; omega
      clear hca hca' HE HEE hie hlk
      generalize likeN st.ws ⟨0, 1, 0, ⟨#[]⟩⟩ = n at *
      go_wp2_with (go_at_call 55; refine (CL.out _ ?_).mono ?_; exact HB2.out; rintro e v1 ⟨rfl, hb3⟩; have HB3 := Lib.hid (keepBelow HB2.out hb3); clear hb3)
      go_ret2
      rw [HR.out]
      exact ⟨rfl, S, HPB.out _ HB3.out, Turn.of_below HB3.out⟩
    · have HR : Hid (recvR st 1 = (settle (flushS st 1), cat st.q1, 0)) := Lib.hid (by rw [HE.out, HEE.out, hca', hie, decide_eq_false hlk]; rfl)
      have hlk2 : likeN st.ws ⟨0, 1, 0, ⟨#[]⟩⟩ = 0 := by unfold rdOp at hlk; omega
      rw [hlk2] at CL
      clear hca hca' HE HEE hie hlk hlk2
      go_wp2_with (first
        | (go_at_call 55; refine (CL.out _ ?_).mono ?_; exact HB2.out; rintro e v1 ⟨rfl, hb3⟩; have HB3 := Lib.hid (keepBelow HB2.out hb3); have x3 := cells_far hb3 hg2 2 x0; have K3 := Lib.hid (keepBlk hb3 K2.out); have hs3 := hb3.size; clear hb3)
        | (go_at_call 20; refine (CJ.out _ ?_).mono ?_; exact HB3.out; rintro e v2 ⟨rfl, hb4⟩; have HB4 := Lib.hid (keepBelow HB3.out hb4); have x4 : v2.cell? ⟨g, 2, none⟩ = _ := cells_far hb4 (Nat.lt_of_lt_of_le hg2 hs3) 2 x3; have K4 := Lib.hid (keepBlk hb4 K3.out); clear hb4; have f4 := (HPB.out _ HB4.out).frozen 2; obtain ⟨P4, T4⟩ := HU.out _ HB4.out; have HP4 := Lib.hid P4; have HT4 := Lib.hid ((Turn.of_below HB4.out : Turn g S w S v2).trans T4); have k04 : (v2.setCell ⟨g, 2, none⟩ (.slice none 0 0)).cell? ⟨w.heap.size, 0, none⟩ = some (.pointer (some ⟨g, 0, none⟩)) := ((K4.out.far (p := ⟨g, 2, none⟩) (by show w.heap.size ≠ g; omega) (.slice none 0 0)).cell 0); clear P4 T4 x3)
        | (go_at_call 57; refine (CS.out _ _ HP4.out).mono ?_; rintro e w5 ⟨rfl, S5, P5, T5⟩; have HP5 := Lib.hid P5; have HT5 := Lib.hid T5; clear P5 T5))
      go_ret2
      rw [HR.out]
      exact ⟨rfl, S5, HP5.out, HT4.out.trans HT5.out⟩
  have hq0 : st.q1 = [] := List.eq_nil_of_length_eq_zero (by omega)
  have hie : st.q1.isEmpty = true := by rw [hq0]; rfl
  rw [hq0] at x0
  have x0' : W2.cell? ⟨g, 2, none⟩ = some (.slice a1 0 p1) := x0
  clear x0
  by_cases hcb : st.c0 = true
  · rw [hcb] at l1
    have HR : Hid (recvR st 1 = (st, ⟨#[]⟩, 28)) := Lib.hid (by rw [HE.out, HEE.out, hca', hie, hcb]; rfl)
    clear hca hca' HE HEE hie hcb
    go_wp2_with fail
    go_ret2
    rw [HR.out]
    exact ⟨rfl, S, HPB.out _ HB2.out, HT2.out⟩
  · have hcb' : st.c0 = false := by simpa using hcb
    rw [hcb'] at l1
    have HR : Hid (recvR st 1 = (st, ⟨#[]⟩, 36)) := Lib.hid (by rw [HE.out, HEE.out, hca', hie, hcb']; rfl)
    clear hca hca' HE HEE hie hcb hcb'
    go_wp2_with fail
    go_ret2
    rw [HR.out]
    exact ⟨rfl, S, HPB.out _ HB2.out, HT2.out⟩
theorem Receive_any (a : Int) (ha : a = 0 ∨ a = 1) (g : Nat) (S : Sl) (st : St) (w : World) (hP : PipeAt w g S st) (hs : Sm st) (hw : WOk st) :
    Calls Try.prog 100 #[.agg #[.pointer (some ⟨g, 0, none⟩), .int .i64 a]] w fun e w' => e = .returned (.tuple #[.string (recvR st a).2.1, .int .i64 (recvR st a).2.2]) ∧ ∃ S', PipeAt w' g S' (recvR st a).1 ∧ Turn g S w S' w' := by
  rcases ha with rfl | rfl
  · exact Receive_0 g S st w hP hs hw
  · exact Receive_1 g S st w hP hs hw
end Go.Proofs.Ytmnlojbfdpjjdaa
