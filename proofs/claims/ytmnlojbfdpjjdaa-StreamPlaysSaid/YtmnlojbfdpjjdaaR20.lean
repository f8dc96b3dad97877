/- The law's call of the reference, kind by kind. -/
import Derived.Test.YtmnlojbfdpjjdaaR19
namespace Go.Proofs.Ytmnlojbfdpjjdaa
open Go.RowKit
variable {F : Nat → Prop}
theorem gen_world {P : Program} {c : Code} {Q : Exit → Act → World → Prop} {a : Act} {w : World} (R : World → Prop) (h : R w) (k : ∀ v, R v → c.wp P Q a v) : c.wp P Q a w := k w h
theorem res60_47 {fn : Func} {p u : Tmp} (h : fn.results = #[.cell p 60, .cell u 47]) (tmps : Array Value) (w : World) (g k : Nat) (c0 c1 c2 c3 c4 c5 c6 c7 d0 d1 d2 d3 : Value) (h4 : tmps.getD p undef = .pointer (some ⟨g, 0, none⟩)) (h5 : tmps.getD u undef = .pointer (some ⟨k, 0, none⟩)) (hB : Blk w g 60 [c0, c1, c2, c3, c4, c5, c6, c7]) (hD : Blk w k 47 [d0, d1, d2, d3]) :
    (results fn tmps).run Try.prog w = .ok (.tuple #[.agg #[c0, c1, c2, c3, c4, c5, c6, c7], .agg #[d0, d1, d2, d3]]) w := by
  have h4' : tmps[p]?.getD undef = .pointer (some ⟨g, 0, none⟩) := by simpa using h4
  have h5' : tmps[u]?.getD undef = .pointer (some ⟨k, 0, none⟩) := by simpa using h5
  have h1 := run_loadVar_row (P := Try.prog) w g 60 60 #[c0, c1, c2, c3, c4, c5, c6, c7] (0, 0) _ hB Try.underlying60 rfl (by kernel_rfl)
  have h2 := run_loadVar_row (P := Try.prog) w k 47 47 #[d0, d1, d2, d3] (0, 0) _ hD Try.underlying47 rfl (by kernel_rfl)
  simp [results, h, h4', h5', asAddr, h1, h2]
theorem put4 {w : World} {b : Nat} {z0 z1 z2 z3 : Value} (hB : Blk w b 47 [z0, z1, z2, z3]) (x0 x1 x2 x3 : Value) :
    Blk ((((w.setCell ⟨b, 0, none⟩ x0).setCell ⟨b, 1, none⟩ x1).setCell ⟨b, 2, none⟩ x2).setCell ⟨b, 3, none⟩ x3) b 47 [x0, x1, x2, x3] ∧ (∀ {e size n : Nat} {v : Value} {xs : List Value}, Row w e size v n xs → e ≠ 47 → Row ((((w.setCell ⟨b, 0, none⟩ x0).setCell ⟨b, 1, none⟩ x1).setCell ⟨b, 2, none⟩ x2).setCell ⟨b, 3, none⟩ x3) e size v n xs) ∧ (∀ {B : Nat} {a : World}, Below B a w → B ≤ b → Below B a ((((w.setCell ⟨b, 0, none⟩ x0).setCell ⟨b, 1, none⟩ x1).setCell ⟨b, 2, none⟩ x2).setCell ⟨b, 3, none⟩ x3)) ∧ (∀ {g t : Nat} {cs : List Value}, Blk w g t cs → g ≠ b → Blk ((((w.setCell ⟨b, 0, none⟩ x0).setCell ⟨b, 1, none⟩ x1).setCell ⟨b, 2, none⟩ x2).setCell ⟨b, 3, none⟩ x3) g t cs) := by
  refine ⟨(((hB.set_ 0 x0).set_ 1 x1).set_ 2 x2).set_ 3 x3, fun h he => ?_, fun h he => ?_, fun h he => ?_⟩
  · have hn := h.ne hB he
    exact (((h.set_ (p := ⟨b, 0, none⟩) hn x0).set_ (p := ⟨b, 1, none⟩) hn x1).set_ (p := ⟨b, 2, none⟩) hn x2).set_ (p := ⟨b, 3, none⟩) hn x3
  · exact (((h.setCell (p := ⟨b, 0, none⟩) he x0).setCell (p := ⟨b, 1, none⟩) he x1).setCell (p := ⟨b, 2, none⟩) he x2).setCell (p := ⟨b, 3, none⟩) he x3
  · exact (((h.far (p := ⟨b, 0, none⟩) he x0).far (p := ⟨b, 1, none⟩) he x1).far (p := ⟨b, 2, none⟩) he x2).far (p := ⟨b, 3, none⟩) he x3
theorem Ref.set47 {w : World} {S : Sl} {st : St} (h : Ref F w S st) {b i : Nat} {cs : List Value} (hB : Blk w b 47 cs) (x : Value) : Ref F (w.setCell ⟨b, i, none⟩ x) S st :=
  ⟨h.r0.set_ (h.r0.ne hB (by decide)) x, h.r1.set_ (h.r1.ne hB (by decide)) x, h.rw_.set_ (h.rw_.ne hB (by decide)) x, h.ra.set_ (h.ra.ne hB (by decide)) x, h.o.to (by simp [World.setCell])⟩
/-- the reference's pipe behind N acts -/
structure Rg (N : Nat) (l : Int) (st : St) : Prop where
  L : 1 ≤ l
  G : Gd N st
  B : Bi l st
  U : Uq st
  X : nextS st = none
/-- at the end of the switch -/
def Mid (F : Nat → Prop) (w : World) (S' : Sl) (st' : St) (num : Int) (txt : ByteArray) (err : Int) (va : Value) (l : List An) (wx : World) : Prop :=
  Blk wx (w.heap.size) 60 (rpC S' st') ∧ Blk wx (w.heap.size + 1 + 1 + 1 + 1) 47 [.int .i64 num, .string txt, .int .i64 err, va] ∧ Blk wx (w.heap.size + 1 + 1) 60 [.int .i64 0, .slice none 0 0, .slice none 0 0, .bool false, .bool false, .int .i64 0, .slice none 0 0, .slice none 0 0] ∧ Blk wx (w.heap.size + 1 + 1 + 1) 47 [.int .i64 0, .string ⟨#[]⟩, .int .i64 0, .slice none 0 0] ∧ Ref F wx S' st' ∧ Row wx 51 4 va l.length (ansC l) ∧ Below w.heap.size w wx
/-- what a call of the reference says -/
def RefSays (F : Nat → Prop) (w : World) (st' : St) (num : Int) (txt : ByteArray) (err : Int) (l : List An) (e : Ending) (w' : World) : Prop :=
  ∃ S' va, e = .returned (.tuple #[rpV S' st', .agg #[.int .i64 num, .string txt, .int .i64 err, va]]) ∧ Ref F w' S' st' ∧ Row w' 51 4 va l.length (ansC l) ∧ Below w.heap.size w w'
theorem bi_askW {l : Int} {st : St} (h : Bi l st) (ht : 0 ≤ st.tks) (x : Op) (hd : x.data.size ≤ 9000) (he : checkE st x = 0) (hw : waitsB st x = true) (hl : likeN st.ws x < 16) : Bi l (askW st x) := by
  refine ⟨h.lim, h.b0, h.b1, h.z0, h.z1, fun y hy => ?_, fun k f => ?_⟩
  · rcases List.mem_append.1 hy with hy | hy
    · obtain ⟨a, b, c, d, e⟩ := h.w y hy
      exact ⟨a, b, c, d, by show y.tk ≤ st.tks + 1; omega⟩
    · rw [List.mem_singleton] at hy
      subst hy
      exact ⟨opOk_of hd he, waits_yes hw, checkE_size he, by show 0 ≤ st.tks + 1; omega, Int.le_refl _⟩
  · show cnt (st.ws ++ [_]) k f ≤ 16
    rw [cnt_append]
    have := h.n k f
    rw [likeN_cnt] at hl
    unfold cnt at hl this ⊢
    simp only [List.filter_cons, List.filter_nil]
    split
    · next hh =>
      obtain ⟨e1, e2⟩ := hit_eq hh
      simp only at e1 e2
      rw [← e1, ← e2]
      simp only [List.length_cons, List.length_nil]
      omega
    · simp only [List.length_nil]; omega
theorem rask_any (x : Op) (hd : x.data.size ≤ 9000) {N : Nat} {l : Int} (S : Sl) (st : St) (hG : Gd N st) (hN : N ≤ 880) (hB : Bi l st) (w : World) (hR : Ref F w S st) :
    Calls Try.prog 44 #[rpV S st, opV x] w fun e w' => ∃ S', e = .returned (.tuple #[rpV S' (askR st x).1, .int .i64 (askR st x).2.1, .int .i64 (askR st x).2.2]) ∧ Ref F w' S' (askR st x).1 ∧ Below w.heap.size w w' := by
  have hs : Sm st := hG.sm (by omega)
  unfold askR
  by_cases he : checkE st x = 0
  · rw [if_neg (by simp [he])]
    cases hw : waitsB st x with
    | true =>
      simp only [if_true]
      by_cases hf : 16 ≤ likeN st.ws x
      · rw [if_pos hf]
        exact rask_full x S st hs he hw hf w hR
      · rw [if_neg hf]
        obtain ⟨k, f, c, d⟩ := x
        exact rask_wait k f c d hd S st hG hN (bi_askW hB hG.t0 _ hd he hw (by omega)) he hw (by omega) w hR
    | false =>
      simp only [Bool.false_eq_true, if_false]
      exact rask_now x hd S st hG hN hB he hw w hR
  · rw [if_pos (by simpa using he)]
    exact rask_no x S st hs he w hR
set_option maxRecDepth 100000 in
set_option maxHeartbeats 3200000 in
theorem ref_cancel (t ok of_ oc : Int) (od : ByteArray) {N : Nat} {l : Int} (S : Sl) (st : St) (hg : Rg N l st) (hN : N ≤ 880) (w : World) (hR : Ref F w S st) :
    Calls Try.prog 23 #[rpV S st, .agg #[.int .i64 2, .int .i64 t, .int .i64 ok, .int .i64 of_, .int .i64 oc, .string od]] w (RefSays F w (cancelR st t).1 0 ⟨#[]⟩ (cancelR st t).2 []) := by
  have C := Lib.hid (fun W (hb : Below w.heap.size w W) => rcancel_any t (N := N) (l := l) S st hg.G (by omega) hg.B hg.U W (hR.below hb))
  obtain ⟨za0, zk0, za1, zk1, zaw, zkw, zaa, zka, rfl⟩ := hR.open
  clear hR
  unfold rpV at *
  have BB0 := Lib.hid (show Below w.heap.size w ((((((w.alloc (.cells #[.int .i64 st.limit, .slice za0 st.q0.length zk0, .slice za1 st.q1.length zk1, .bool st.c0, .bool st.c1, .int .i64 st.tks, .slice zaw st.ws.length zkw, .slice zaa st.ans.length zka] 60)).alloc (.cells #[.int .i64 2, .int .i64 t, .int .i64 ok, .int .i64 of_, .int .i64 oc, .string od] 44)).alloc (.cells #[.int .i64 0, .slice none 0 0, .slice none 0 0, .bool false, .bool false, .int .i64 0, .slice none 0 0, .slice none 0 0] 60)).alloc (.cells #[.int .i64 0, .string ⟨#[]⟩, .int .i64 0, .slice none 0 0] 47)).alloc (.cells #[.int .i64 0, .string ⟨#[]⟩, .int .i64 0, .slice none 0 0] 47)).alloc (.cells #[.int .i64 ok, .int .i64 of_, .int .i64 oc, .string od] 107)) from ((((((Below.refl _ _).alloc (Nat.le_refl _) _).alloc (by simp) _).alloc (by simp; omega) _).alloc (by simp; omega) _).alloc (by simp; omega) _).alloc (by simp; omega) _)
  have KA0 := Lib.hid (show Blk ((((((w.alloc (.cells #[.int .i64 st.limit, .slice za0 st.q0.length zk0, .slice za1 st.q1.length zk1, .bool st.c0, .bool st.c1, .int .i64 st.tks, .slice zaw st.ws.length zkw, .slice zaa st.ans.length zka] 60)).alloc (.cells #[.int .i64 2, .int .i64 t, .int .i64 ok, .int .i64 of_, .int .i64 oc, .string od] 44)).alloc (.cells #[.int .i64 0, .slice none 0 0, .slice none 0 0, .bool false, .bool false, .int .i64 0, .slice none 0 0, .slice none 0 0] 60)).alloc (.cells #[.int .i64 0, .string ⟨#[]⟩, .int .i64 0, .slice none 0 0] 47)).alloc (.cells #[.int .i64 0, .string ⟨#[]⟩, .int .i64 0, .slice none 0 0] 47)).alloc (.cells #[.int .i64 ok, .int .i64 of_, .int .i64 oc, .string od] 107)) (w.heap.size) 60 [.int .i64 st.limit, .slice za0 st.q0.length zk0, .slice za1 st.q1.length zk1, .bool st.c0, .bool st.c1, .int .i64 st.tks, .slice zaw st.ws.length zkw, .slice zaa st.ans.length zka] from (((((Blk.new w 60 _).alloc _).alloc _).alloc _).alloc _).alloc _)
  have KT0 := Lib.hid (show Blk ((((((w.alloc (.cells #[.int .i64 st.limit, .slice za0 st.q0.length zk0, .slice za1 st.q1.length zk1, .bool st.c0, .bool st.c1, .int .i64 st.tks, .slice zaw st.ws.length zkw, .slice zaa st.ans.length zka] 60)).alloc (.cells #[.int .i64 2, .int .i64 t, .int .i64 ok, .int .i64 of_, .int .i64 oc, .string od] 44)).alloc (.cells #[.int .i64 0, .slice none 0 0, .slice none 0 0, .bool false, .bool false, .int .i64 0, .slice none 0 0, .slice none 0 0] 60)).alloc (.cells #[.int .i64 0, .string ⟨#[]⟩, .int .i64 0, .slice none 0 0] 47)).alloc (.cells #[.int .i64 0, .string ⟨#[]⟩, .int .i64 0, .slice none 0 0] 47)).alloc (.cells #[.int .i64 ok, .int .i64 of_, .int .i64 oc, .string od] 107)) (w.heap.size + 1) 44 [.int .i64 2, .int .i64 t, .int .i64 ok, .int .i64 of_, .int .i64 oc, .string od] from ((((blk_at (by simp) 44 [_, _, _, _, _, _]).alloc _).alloc _).alloc _).alloc _)
  have KZ0 := Lib.hid (show Blk ((((((w.alloc (.cells #[.int .i64 st.limit, .slice za0 st.q0.length zk0, .slice za1 st.q1.length zk1, .bool st.c0, .bool st.c1, .int .i64 st.tks, .slice zaw st.ws.length zkw, .slice zaa st.ans.length zka] 60)).alloc (.cells #[.int .i64 2, .int .i64 t, .int .i64 ok, .int .i64 of_, .int .i64 oc, .string od] 44)).alloc (.cells #[.int .i64 0, .slice none 0 0, .slice none 0 0, .bool false, .bool false, .int .i64 0, .slice none 0 0, .slice none 0 0] 60)).alloc (.cells #[.int .i64 0, .string ⟨#[]⟩, .int .i64 0, .slice none 0 0] 47)).alloc (.cells #[.int .i64 0, .string ⟨#[]⟩, .int .i64 0, .slice none 0 0] 47)).alloc (.cells #[.int .i64 ok, .int .i64 of_, .int .i64 oc, .string od] 107)) (w.heap.size + 1 + 1) 60 [.int .i64 0, .slice none 0 0, .slice none 0 0, .bool false, .bool false, .int .i64 0, .slice none 0 0, .slice none 0 0] from (((blk_at (by simp) 60 [_, _, _, _, _, _, _, _]).alloc _).alloc _).alloc _)
  have K50 := Lib.hid (show Blk ((((((w.alloc (.cells #[.int .i64 st.limit, .slice za0 st.q0.length zk0, .slice za1 st.q1.length zk1, .bool st.c0, .bool st.c1, .int .i64 st.tks, .slice zaw st.ws.length zkw, .slice zaa st.ans.length zka] 60)).alloc (.cells #[.int .i64 2, .int .i64 t, .int .i64 ok, .int .i64 of_, .int .i64 oc, .string od] 44)).alloc (.cells #[.int .i64 0, .slice none 0 0, .slice none 0 0, .bool false, .bool false, .int .i64 0, .slice none 0 0, .slice none 0 0] 60)).alloc (.cells #[.int .i64 0, .string ⟨#[]⟩, .int .i64 0, .slice none 0 0] 47)).alloc (.cells #[.int .i64 0, .string ⟨#[]⟩, .int .i64 0, .slice none 0 0] 47)).alloc (.cells #[.int .i64 ok, .int .i64 of_, .int .i64 oc, .string od] 107)) (w.heap.size + 1 + 1 + 1) 47 [.int .i64 0, .string ⟨#[]⟩, .int .i64 0, .slice none 0 0] from ((blk_at (by simp) 47 [_, _, _, _]).alloc _).alloc _)
  have K60 := Lib.hid (show Blk ((((((w.alloc (.cells #[.int .i64 st.limit, .slice za0 st.q0.length zk0, .slice za1 st.q1.length zk1, .bool st.c0, .bool st.c1, .int .i64 st.tks, .slice zaw st.ws.length zkw, .slice zaa st.ans.length zka] 60)).alloc (.cells #[.int .i64 2, .int .i64 t, .int .i64 ok, .int .i64 of_, .int .i64 oc, .string od] 44)).alloc (.cells #[.int .i64 0, .slice none 0 0, .slice none 0 0, .bool false, .bool false, .int .i64 0, .slice none 0 0, .slice none 0 0] 60)).alloc (.cells #[.int .i64 0, .string ⟨#[]⟩, .int .i64 0, .slice none 0 0] 47)).alloc (.cells #[.int .i64 0, .string ⟨#[]⟩, .int .i64 0, .slice none 0 0] 47)).alloc (.cells #[.int .i64 ok, .int .i64 of_, .int .i64 oc, .string od] 107)) (w.heap.size + 1 + 1 + 1 + 1) 47 [.int .i64 0, .string ⟨#[]⟩, .int .i64 0, .slice none 0 0] from (blk_at (by simp) 47 [_, _, _, _]).alloc _)
  have K70 := Lib.hid (show Blk ((((((w.alloc (.cells #[.int .i64 st.limit, .slice za0 st.q0.length zk0, .slice za1 st.q1.length zk1, .bool st.c0, .bool st.c1, .int .i64 st.tks, .slice zaw st.ws.length zkw, .slice zaa st.ans.length zka] 60)).alloc (.cells #[.int .i64 2, .int .i64 t, .int .i64 ok, .int .i64 of_, .int .i64 oc, .string od] 44)).alloc (.cells #[.int .i64 0, .slice none 0 0, .slice none 0 0, .bool false, .bool false, .int .i64 0, .slice none 0 0, .slice none 0 0] 60)).alloc (.cells #[.int .i64 0, .string ⟨#[]⟩, .int .i64 0, .slice none 0 0] 47)).alloc (.cells #[.int .i64 0, .string ⟨#[]⟩, .int .i64 0, .slice none 0 0] 47)).alloc (.cells #[.int .i64 ok, .int .i64 of_, .int .i64 oc, .string od] 107)) (w.heap.size + 1 + 1 + 1 + 1 + 1) 107 [.int .i64 ok, .int .i64 of_, .int .i64 oc, .string od] from blk_at (by simp) 107 [_, _, _, _])
  go_enter Try.func23, Try.ntmps23
  go_upto_region 31 with (go_at_call 46; refine (C.out _ BB0.out).mono ?_; rintro e v1 ⟨S1, he1, R1, hb⟩; obtain ⟨ta0, tk0, ta1, tk1, taw, tkw, taa, tka, rfl⟩ := R1.open; (try unfold rpV at he1); (try dsimp only at he1); subst he1; have HR1 := Lib.hid R1; have BB1 := Lib.hid (keepBelow BB0.out hb); have KA1 := Lib.hid (keepBlk hb KA0.out); have a0 : v1.cell? ⟨w.heap.size, 0, none⟩ = some (.int .i64 st.limit) := KA1.out.cell 0; have a1 : v1.cell? ⟨w.heap.size, 1, none⟩ = some (.slice za0 st.q0.length zk0) := KA1.out.cell 1; have a2 : v1.cell? ⟨w.heap.size, 2, none⟩ = some (.slice za1 st.q1.length zk1) := KA1.out.cell 2; have a3 : v1.cell? ⟨w.heap.size, 3, none⟩ = some (.bool st.c0) := KA1.out.cell 3; have a4 : v1.cell? ⟨w.heap.size, 4, none⟩ = some (.bool st.c1) := KA1.out.cell 4; have a5 : v1.cell? ⟨w.heap.size, 5, none⟩ = some (.int .i64 st.tks) := KA1.out.cell 5; have a6 : v1.cell? ⟨w.heap.size, 6, none⟩ = some (.slice zaw st.ws.length zkw) := KA1.out.cell 6; have a7 : v1.cell? ⟨w.heap.size, 7, none⟩ = some (.slice zaa st.ans.length zka) := KA1.out.cell 7; have K61 := Lib.hid (keepBlk hb K60.out); have d0 : v1.cell? ⟨w.heap.size + 1 + 1 + 1 + 1, 0, none⟩ = some (.int .i64 0) := K61.out.cell 0; have d1 : v1.cell? ⟨w.heap.size + 1 + 1 + 1 + 1, 1, none⟩ = some (.string ⟨#[]⟩) := K61.out.cell 1; have d2 : v1.cell? ⟨w.heap.size + 1 + 1 + 1 + 1, 2, none⟩ = some (.int .i64 0) := K61.out.cell 2; have d3 : v1.cell? ⟨w.heap.size + 1 + 1 + 1 + 1, 3, none⟩ = some (.slice none 0 0) := K61.out.cell 3; have KZ1 := Lib.hid (keepBlk hb KZ0.out); have K51 := Lib.hid (keepBlk hb K50.out); have fA1 := fun i => KA1.out.frozen i; have f61 := fun i => K61.out.frozen i; clear hb R1)
  refine gen_world (fun wx => Mid F w ⟨.slice ta0 (cancelR st t).1.q0.length tk0, .slice ta1 (cancelR st t).1.q1.length tk1, .slice taw (cancelR st t).1.ws.length tkw, .slice taa (cancelR st t).1.ans.length tka⟩ (cancelR st t).1 0 ⟨#[]⟩ (cancelR st t).2 (.slice none 0 0) [] wx) ?_ (fun wc hcut => ?_)
  · obtain ⟨o1, o2, o3, o4⟩ := put8 KA1.out (.int .i64 (cancelR st t).1.limit) (.slice ta0 (cancelR st t).1.q0.length tk0) (.slice ta1 (cancelR st t).1.q1.length tk1) (.bool (cancelR st t).1.c0) (.bool (cancelR st t).1.c1) (.int .i64 (cancelR st t).1.tks) (.slice taw (cancelR st t).1.ws.length tkw) (.slice taa (cancelR st t).1.ans.length tka)
    have q6 := o4 K61.out (show w.heap.size + 1 + 1 + 1 + 1 ≠ w.heap.size by omega)
    exact ⟨(o1.far (p := ⟨w.heap.size + 1 + 1 + 1 + 1, 2, none⟩) (show w.heap.size ≠ w.heap.size + 1 + 1 + 1 + 1 by omega) _), (q6.set_ 2 _), ((o4 KZ1.out (show w.heap.size + 1 + 1 ≠ w.heap.size by omega)).far (p := ⟨w.heap.size + 1 + 1 + 1 + 1, 2, none⟩) (show w.heap.size + 1 + 1 ≠ w.heap.size + 1 + 1 + 1 + 1 by omega) _), ((o4 K51.out (show w.heap.size + 1 + 1 + 1 ≠ w.heap.size by omega)).far (p := ⟨w.heap.size + 1 + 1 + 1 + 1, 2, none⟩) (show w.heap.size + 1 + 1 + 1 ≠ w.heap.size + 1 + 1 + 1 + 1 by omega) _), ((Ref.mk (S := ⟨.slice ta0 (cancelR st t).1.q0.length tk0, .slice ta1 (cancelR st t).1.q1.length tk1, .slice taw (cancelR st t).1.ws.length tkw, .slice taa (cancelR st t).1.ans.length tka⟩) (st := (cancelR st t).1) (o2 HR1.out.r0 (by decide)) (o2 HR1.out.r1 (by decide)) (o2 HR1.out.rw_ (by decide)) (o2 HR1.out.ra (by decide)) (HR1.out.o.to (o3 (Below.refl 0 _) (Nat.zero_le _)).size)).set47 (i := 2) q6 _), Row.nil _ _ _, ((o3 BB1.out (Nat.le_refl _)).setCell (p := ⟨w.heap.size + 1 + 1 + 1 + 1, 2, none⟩) (show w.heap.size ≤ w.heap.size + 1 + 1 + 1 + 1 by omega) _)⟩
  obtain ⟨hx, h6, hz, h5, hr, hw, hb⟩ := hcut
  have KX := Lib.hid hx
  have K6 := Lib.hid h6
  have KZ := Lib.hid hz
  have K5 := Lib.hid h5
  have MR := Lib.hid hr
  have MW := Lib.hid hw
  have MB := Lib.hid hb
  clear hx h6 hz h5 hr hw hb
  have g0 : wc.cell? ⟨w.heap.size, 0, none⟩ = some (.int .i64 (cancelR st t).1.limit) := KX.out.cell 0
  have g1 : wc.cell? ⟨w.heap.size, 1, none⟩ = some (.slice ta0 (cancelR st t).1.q0.length tk0) := KX.out.cell 1
  have g2 : wc.cell? ⟨w.heap.size, 2, none⟩ = some (.slice ta1 (cancelR st t).1.q1.length tk1) := KX.out.cell 2
  have g3 : wc.cell? ⟨w.heap.size, 3, none⟩ = some (.bool (cancelR st t).1.c0) := KX.out.cell 3
  have g4 : wc.cell? ⟨w.heap.size, 4, none⟩ = some (.bool (cancelR st t).1.c1) := KX.out.cell 4
  have g5 : wc.cell? ⟨w.heap.size, 5, none⟩ = some (.int .i64 (cancelR st t).1.tks) := KX.out.cell 5
  have g6 : wc.cell? ⟨w.heap.size, 6, none⟩ = some (.slice taw (cancelR st t).1.ws.length tkw) := KX.out.cell 6
  have g7 : wc.cell? ⟨w.heap.size, 7, none⟩ = some (.slice taa (cancelR st t).1.ans.length tka) := KX.out.cell 7
  have h0 : wc.cell? ⟨w.heap.size + 1 + 1 + 1 + 1, 0, none⟩ = some (.int .i64 0) := K6.out.cell 0
  have h1 : wc.cell? ⟨w.heap.size + 1 + 1 + 1 + 1, 1, none⟩ = some (.string ⟨#[]⟩) := K6.out.cell 1
  have h2 : wc.cell? ⟨w.heap.size + 1 + 1 + 1 + 1, 2, none⟩ = some (.int .i64 (cancelR st t).2) := K6.out.cell 2
  have h3 : wc.cell? ⟨w.heap.size + 1 + 1 + 1 + 1, 3, none⟩ = some (.slice none 0 0) := K6.out.cell 3
  have z0 : wc.cell? ⟨w.heap.size + 1 + 1, 0, none⟩ = some (.int .i64 0) := KZ.out.cell 0
  have z1 : wc.cell? ⟨w.heap.size + 1 + 1, 1, none⟩ = some (.slice none 0 0) := KZ.out.cell 1
  have z2 : wc.cell? ⟨w.heap.size + 1 + 1, 2, none⟩ = some (.slice none 0 0) := KZ.out.cell 2
  have z3 : wc.cell? ⟨w.heap.size + 1 + 1, 3, none⟩ = some (.bool false) := KZ.out.cell 3
  have z4 : wc.cell? ⟨w.heap.size + 1 + 1, 4, none⟩ = some (.bool false) := KZ.out.cell 4
  have z5 : wc.cell? ⟨w.heap.size + 1 + 1, 5, none⟩ = some (.int .i64 0) := KZ.out.cell 5
  have z6 : wc.cell? ⟨w.heap.size + 1 + 1, 6, none⟩ = some (.slice none 0 0) := KZ.out.cell 6
  have z7 : wc.cell? ⟨w.heap.size + 1 + 1, 7, none⟩ = some (.slice none 0 0) := KZ.out.cell 7
  have y0 : wc.cell? ⟨w.heap.size + 1 + 1 + 1, 0, none⟩ = some (.int .i64 0) := K5.out.cell 0
  have y1 : wc.cell? ⟨w.heap.size + 1 + 1 + 1, 1, none⟩ = some (.string ⟨#[]⟩) := K5.out.cell 1
  have y2 : wc.cell? ⟨w.heap.size + 1 + 1 + 1, 2, none⟩ = some (.int .i64 0) := K5.out.cell 2
  have y3 : wc.cell? ⟨w.heap.size + 1 + 1 + 1, 3, none⟩ = some (.slice none 0 0) := K5.out.cell 3
  have fz := fun i => KZ.out.frozen i
  have fy := fun i => K5.out.frozen i
  have nz1 : w.heap.size ≠ w.heap.size + 1 + 1 := by omega
  have nz2 : w.heap.size + 1 + 1 + 1 + 1 ≠ w.heap.size + 1 + 1 := by omega
  have nz3 : w.heap.size ≠ w.heap.size + 1 + 1 + 1 := by omega
  have nz4 : w.heap.size + 1 + 1 + 1 + 1 ≠ w.heap.size + 1 + 1 + 1 := by omega
  have nz5 : w.heap.size + 1 + 1 ≠ w.heap.size + 1 + 1 + 1 := by omega
  have nz6 : w.heap.size + 1 + 1 + 1 ≠ w.heap.size + 1 + 1 := by omega
  go_region
  all_goals
    obtain ⟨o1, o2, o3, o4⟩ := put8 KZ.out (.int .i64 (cancelR st t).1.limit) (.slice ta0 (cancelR st t).1.q0.length tk0) (.slice ta1 (cancelR st t).1.q1.length tk1) (.bool (cancelR st t).1.c0) (.bool (cancelR st t).1.c1) (.int .i64 (cancelR st t).1.tks) (.slice taw (cancelR st t).1.ws.length tkw) (.slice taa (cancelR st t).1.ans.length tka)
    obtain ⟨p1, p2, p3, p4⟩ := put4 (o4 K5.out nz6) (.int .i64 0) (.string ⟨#[]⟩) (.int .i64 (cancelR st t).2) (.slice none 0 0)
    have kz := (p4 o1 nz5).drew
    have k5 := p1.drew
    have r0 := (p2 (o2 MR.out.r0 (by decide)) (by decide)).drew
    have r1 := (p2 (o2 MR.out.r1 (by decide)) (by decide)).drew
    have r2 := (p2 (o2 MR.out.rw_ (by decide)) (by decide)).drew
    have r3 := (p2 (o2 MR.out.ra (by decide)) (by decide)).drew
    have ra := (p2 (o2 MW.out (by decide)) (by decide)).drew
    have rb := (p3 (o3 MB.out (show w.heap.size ≤ w.heap.size + 1 + 1 by omega)) (show w.heap.size ≤ w.heap.size + 1 + 1 + 1 by omega)).drew
    have ro := MR.out.o.to (p3 (o3 (Below.refl 0 _) (Nat.zero_le _)) (Nat.zero_le _)).drew.size
    clear o1 o2 o3 o4 p1 p2 p3 p4
    go_wp2_with fail
    exact bodyPost_ret (res60_47 rfl _ _ (w.heap.size + 1 + 1) (w.heap.size + 1 + 1 + 1) _ _ _ _ _ _ _ _ _ _ _ _ rfl rfl kz k5) rfl ⟨⟨.slice ta0 (cancelR st t).1.q0.length tk0, .slice ta1 (cancelR st t).1.q1.length tk1, .slice taw (cancelR st t).1.ws.length tkw, .slice taa (cancelR st t).1.ans.length tka⟩, .slice none 0 0, rfl, ⟨r0, r1, r2, r3, ro⟩, ra, rb⟩
set_option maxRecDepth 100000 in
set_option maxHeartbeats 3200000 in
theorem ref_flush (t ok of_ oc : Int) (od : ByteArray) {N : Nat} {l : Int} (S : Sl) (st : St) (hg : Rg N l st) (hN : N ≤ 880) (w : World) (hR : Ref F w S st) :
    Calls Try.prog 23 #[rpV S st, .agg #[.int .i64 3, .int .i64 t, .int .i64 ok, .int .i64 of_, .int .i64 oc, .string od]] w (RefSays F w (flushR st of_).1 0 ⟨#[]⟩ (flushR st of_).2 []) := by
  have C := Lib.hid (fun W (hb : Below w.heap.size w W) => rflush_any of_ (N := N) (l := l) hg.L S st hg.G (by omega) hg.B W (hR.below hb))
  obtain ⟨za0, zk0, za1, zk1, zaw, zkw, zaa, zka, rfl⟩ := hR.open
  clear hR
  unfold rpV at *
  have BB0 := Lib.hid (show Below w.heap.size w ((((((w.alloc (.cells #[.int .i64 st.limit, .slice za0 st.q0.length zk0, .slice za1 st.q1.length zk1, .bool st.c0, .bool st.c1, .int .i64 st.tks, .slice zaw st.ws.length zkw, .slice zaa st.ans.length zka] 60)).alloc (.cells #[.int .i64 3, .int .i64 t, .int .i64 ok, .int .i64 of_, .int .i64 oc, .string od] 44)).alloc (.cells #[.int .i64 0, .slice none 0 0, .slice none 0 0, .bool false, .bool false, .int .i64 0, .slice none 0 0, .slice none 0 0] 60)).alloc (.cells #[.int .i64 0, .string ⟨#[]⟩, .int .i64 0, .slice none 0 0] 47)).alloc (.cells #[.int .i64 0, .string ⟨#[]⟩, .int .i64 0, .slice none 0 0] 47)).alloc (.cells #[.int .i64 ok, .int .i64 of_, .int .i64 oc, .string od] 107)) from ((((((Below.refl _ _).alloc (Nat.le_refl _) _).alloc (by simp) _).alloc (by simp; omega) _).alloc (by simp; omega) _).alloc (by simp; omega) _).alloc (by simp; omega) _)
  have KA0 := Lib.hid (show Blk ((((((w.alloc (.cells #[.int .i64 st.limit, .slice za0 st.q0.length zk0, .slice za1 st.q1.length zk1, .bool st.c0, .bool st.c1, .int .i64 st.tks, .slice zaw st.ws.length zkw, .slice zaa st.ans.length zka] 60)).alloc (.cells #[.int .i64 3, .int .i64 t, .int .i64 ok, .int .i64 of_, .int .i64 oc, .string od] 44)).alloc (.cells #[.int .i64 0, .slice none 0 0, .slice none 0 0, .bool false, .bool false, .int .i64 0, .slice none 0 0, .slice none 0 0] 60)).alloc (.cells #[.int .i64 0, .string ⟨#[]⟩, .int .i64 0, .slice none 0 0] 47)).alloc (.cells #[.int .i64 0, .string ⟨#[]⟩, .int .i64 0, .slice none 0 0] 47)).alloc (.cells #[.int .i64 ok, .int .i64 of_, .int .i64 oc, .string od] 107)) (w.heap.size) 60 [.int .i64 st.limit, .slice za0 st.q0.length zk0, .slice za1 st.q1.length zk1, .bool st.c0, .bool st.c1, .int .i64 st.tks, .slice zaw st.ws.length zkw, .slice zaa st.ans.length zka] from (((((Blk.new w 60 _).alloc _).alloc _).alloc _).alloc _).alloc _)
  have KT0 := Lib.hid (show Blk ((((((w.alloc (.cells #[.int .i64 st.limit, .slice za0 st.q0.length zk0, .slice za1 st.q1.length zk1, .bool st.c0, .bool st.c1, .int .i64 st.tks, .slice zaw st.ws.length zkw, .slice zaa st.ans.length zka] 60)).alloc (.cells #[.int .i64 3, .int .i64 t, .int .i64 ok, .int .i64 of_, .int .i64 oc, .string od] 44)).alloc (.cells #[.int .i64 0, .slice none 0 0, .slice none 0 0, .bool false, .bool false, .int .i64 0, .slice none 0 0, .slice none 0 0] 60)).alloc (.cells #[.int .i64 0, .string ⟨#[]⟩, .int .i64 0, .slice none 0 0] 47)).alloc (.cells #[.int .i64 0, .string ⟨#[]⟩, .int .i64 0, .slice none 0 0] 47)).alloc (.cells #[.int .i64 ok, .int .i64 of_, .int .i64 oc, .string od] 107)) (w.heap.size + 1) 44 [.int .i64 3, .int .i64 t, .int .i64 ok, .int .i64 of_, .int .i64 oc, .string od] from ((((blk_at (by simp) 44 [_, _, _, _, _, _]).alloc _).alloc _).alloc _).alloc _)
  have KZ0 := Lib.hid (show Blk ((((((w.alloc (.cells #[.int .i64 st.limit, .slice za0 st.q0.length zk0, .slice za1 st.q1.length zk1, .bool st.c0, .bool st.c1, .int .i64 st.tks, .slice zaw st.ws.length zkw, .slice zaa st.ans.length zka] 60)).alloc (.cells #[.int .i64 3, .int .i64 t, .int .i64 ok, .int .i64 of_, .int .i64 oc, .string od] 44)).alloc (.cells #[.int .i64 0, .slice none 0 0, .slice none 0 0, .bool false, .bool false, .int .i64 0, .slice none 0 0, .slice none 0 0] 60)).alloc (.cells #[.int .i64 0, .string ⟨#[]⟩, .int .i64 0, .slice none 0 0] 47)).alloc (.cells #[.int .i64 0, .string ⟨#[]⟩, .int .i64 0, .slice none 0 0] 47)).alloc (.cells #[.int .i64 ok, .int .i64 of_, .int .i64 oc, .string od] 107)) (w.heap.size + 1 + 1) 60 [.int .i64 0, .slice none 0 0, .slice none 0 0, .bool false, .bool false, .int .i64 0, .slice none 0 0, .slice none 0 0] from (((blk_at (by simp) 60 [_, _, _, _, _, _, _, _]).alloc _).alloc _).alloc _)
  have K50 := Lib.hid (show Blk ((((((w.alloc (.cells #[.int .i64 st.limit, .slice za0 st.q0.length zk0, .slice za1 st.q1.length zk1, .bool st.c0, .bool st.c1, .int .i64 st.tks, .slice zaw st.ws.length zkw, .slice zaa st.ans.length zka] 60)).alloc (.cells #[.int .i64 3, .int .i64 t, .int .i64 ok, .int .i64 of_, .int .i64 oc, .string od] 44)).alloc (.cells #[.int .i64 0, .slice none 0 0, .slice none 0 0, .bool false, .bool false, .int .i64 0, .slice none 0 0, .slice none 0 0] 60)).alloc (.cells #[.int .i64 0, .string ⟨#[]⟩, .int .i64 0, .slice none 0 0] 47)).alloc (.cells #[.int .i64 0, .string ⟨#[]⟩, .int .i64 0, .slice none 0 0] 47)).alloc (.cells #[.int .i64 ok, .int .i64 of_, .int .i64 oc, .string od] 107)) (w.heap.size + 1 + 1 + 1) 47 [.int .i64 0, .string ⟨#[]⟩, .int .i64 0, .slice none 0 0] from ((blk_at (by simp) 47 [_, _, _, _]).alloc _).alloc _)
  have K60 := Lib.hid (show Blk ((((((w.alloc (.cells #[.int .i64 st.limit, .slice za0 st.q0.length zk0, .slice za1 st.q1.length zk1, .bool st.c0, .bool st.c1, .int .i64 st.tks, .slice zaw st.ws.length zkw, .slice zaa st.ans.length zka] 60)).alloc (.cells #[.int .i64 3, .int .i64 t, .int .i64 ok, .int .i64 of_, .int .i64 oc, .string od] 44)).alloc (.cells #[.int .i64 0, .slice none 0 0, .slice none 0 0, .bool false, .bool false, .int .i64 0, .slice none 0 0, .slice none 0 0] 60)).alloc (.cells #[.int .i64 0, .string ⟨#[]⟩, .int .i64 0, .slice none 0 0] 47)).alloc (.cells #[.int .i64 0, .string ⟨#[]⟩, .int .i64 0, .slice none 0 0] 47)).alloc (.cells #[.int .i64 ok, .int .i64 of_, .int .i64 oc, .string od] 107)) (w.heap.size + 1 + 1 + 1 + 1) 47 [.int .i64 0, .string ⟨#[]⟩, .int .i64 0, .slice none 0 0] from (blk_at (by simp) 47 [_, _, _, _]).alloc _)
  have K70 := Lib.hid (show Blk ((((((w.alloc (.cells #[.int .i64 st.limit, .slice za0 st.q0.length zk0, .slice za1 st.q1.length zk1, .bool st.c0, .bool st.c1, .int .i64 st.tks, .slice zaw st.ws.length zkw, .slice zaa st.ans.length zka] 60)).alloc (.cells #[.int .i64 3, .int .i64 t, .int .i64 ok, .int .i64 of_, .int .i64 oc, .string od] 44)).alloc (.cells #[.int .i64 0, .slice none 0 0, .slice none 0 0, .bool false, .bool false, .int .i64 0, .slice none 0 0, .slice none 0 0] 60)).alloc (.cells #[.int .i64 0, .string ⟨#[]⟩, .int .i64 0, .slice none 0 0] 47)).alloc (.cells #[.int .i64 0, .string ⟨#[]⟩, .int .i64 0, .slice none 0 0] 47)).alloc (.cells #[.int .i64 ok, .int .i64 of_, .int .i64 oc, .string od] 107)) (w.heap.size + 1 + 1 + 1 + 1 + 1) 107 [.int .i64 ok, .int .i64 of_, .int .i64 oc, .string od] from blk_at (by simp) 107 [_, _, _, _])
  go_enter Try.func23, Try.ntmps23
  go_upto_region 31 with (go_at_call 47; refine (C.out _ BB0.out).mono ?_; rintro e v1 ⟨S1, he1, R1, hb⟩; obtain ⟨ta0, tk0, ta1, tk1, taw, tkw, taa, tka, rfl⟩ := R1.open; (try unfold rpV at he1); (try dsimp only at he1); subst he1; have HR1 := Lib.hid R1; have BB1 := Lib.hid (keepBelow BB0.out hb); have KA1 := Lib.hid (keepBlk hb KA0.out); have a0 : v1.cell? ⟨w.heap.size, 0, none⟩ = some (.int .i64 st.limit) := KA1.out.cell 0; have a1 : v1.cell? ⟨w.heap.size, 1, none⟩ = some (.slice za0 st.q0.length zk0) := KA1.out.cell 1; have a2 : v1.cell? ⟨w.heap.size, 2, none⟩ = some (.slice za1 st.q1.length zk1) := KA1.out.cell 2; have a3 : v1.cell? ⟨w.heap.size, 3, none⟩ = some (.bool st.c0) := KA1.out.cell 3; have a4 : v1.cell? ⟨w.heap.size, 4, none⟩ = some (.bool st.c1) := KA1.out.cell 4; have a5 : v1.cell? ⟨w.heap.size, 5, none⟩ = some (.int .i64 st.tks) := KA1.out.cell 5; have a6 : v1.cell? ⟨w.heap.size, 6, none⟩ = some (.slice zaw st.ws.length zkw) := KA1.out.cell 6; have a7 : v1.cell? ⟨w.heap.size, 7, none⟩ = some (.slice zaa st.ans.length zka) := KA1.out.cell 7; have K61 := Lib.hid (keepBlk hb K60.out); have d0 : v1.cell? ⟨w.heap.size + 1 + 1 + 1 + 1, 0, none⟩ = some (.int .i64 0) := K61.out.cell 0; have d1 : v1.cell? ⟨w.heap.size + 1 + 1 + 1 + 1, 1, none⟩ = some (.string ⟨#[]⟩) := K61.out.cell 1; have d2 : v1.cell? ⟨w.heap.size + 1 + 1 + 1 + 1, 2, none⟩ = some (.int .i64 0) := K61.out.cell 2; have d3 : v1.cell? ⟨w.heap.size + 1 + 1 + 1 + 1, 3, none⟩ = some (.slice none 0 0) := K61.out.cell 3; have KZ1 := Lib.hid (keepBlk hb KZ0.out); have K51 := Lib.hid (keepBlk hb K50.out); have fA1 := fun i => KA1.out.frozen i; have f61 := fun i => K61.out.frozen i; clear hb R1)
  refine gen_world (fun wx => Mid F w ⟨.slice ta0 (flushR st of_).1.q0.length tk0, .slice ta1 (flushR st of_).1.q1.length tk1, .slice taw (flushR st of_).1.ws.length tkw, .slice taa (flushR st of_).1.ans.length tka⟩ (flushR st of_).1 0 ⟨#[]⟩ (flushR st of_).2 (.slice none 0 0) [] wx) ?_ (fun wc hcut => ?_)
  · obtain ⟨o1, o2, o3, o4⟩ := put8 KA1.out (.int .i64 (flushR st of_).1.limit) (.slice ta0 (flushR st of_).1.q0.length tk0) (.slice ta1 (flushR st of_).1.q1.length tk1) (.bool (flushR st of_).1.c0) (.bool (flushR st of_).1.c1) (.int .i64 (flushR st of_).1.tks) (.slice taw (flushR st of_).1.ws.length tkw) (.slice taa (flushR st of_).1.ans.length tka)
    have q6 := o4 K61.out (show w.heap.size + 1 + 1 + 1 + 1 ≠ w.heap.size by omega)
    exact ⟨(o1.far (p := ⟨w.heap.size + 1 + 1 + 1 + 1, 2, none⟩) (show w.heap.size ≠ w.heap.size + 1 + 1 + 1 + 1 by omega) _), (q6.set_ 2 _), ((o4 KZ1.out (show w.heap.size + 1 + 1 ≠ w.heap.size by omega)).far (p := ⟨w.heap.size + 1 + 1 + 1 + 1, 2, none⟩) (show w.heap.size + 1 + 1 ≠ w.heap.size + 1 + 1 + 1 + 1 by omega) _), ((o4 K51.out (show w.heap.size + 1 + 1 + 1 ≠ w.heap.size by omega)).far (p := ⟨w.heap.size + 1 + 1 + 1 + 1, 2, none⟩) (show w.heap.size + 1 + 1 + 1 ≠ w.heap.size + 1 + 1 + 1 + 1 by omega) _), ((Ref.mk (S := ⟨.slice ta0 (flushR st of_).1.q0.length tk0, .slice ta1 (flushR st of_).1.q1.length tk1, .slice taw (flushR st of_).1.ws.length tkw, .slice taa (flushR st of_).1.ans.length tka⟩) (st := (flushR st of_).1) (o2 HR1.out.r0 (by decide)) (o2 HR1.out.r1 (by decide)) (o2 HR1.out.rw_ (by decide)) (o2 HR1.out.ra (by decide)) (HR1.out.o.to (o3 (Below.refl 0 _) (Nat.zero_le _)).size)).set47 (i := 2) q6 _), Row.nil _ _ _, ((o3 BB1.out (Nat.le_refl _)).setCell (p := ⟨w.heap.size + 1 + 1 + 1 + 1, 2, none⟩) (show w.heap.size ≤ w.heap.size + 1 + 1 + 1 + 1 by omega) _)⟩
  obtain ⟨hx, h6, hz, h5, hr, hw, hb⟩ := hcut
  have KX := Lib.hid hx
  have K6 := Lib.hid h6
  have KZ := Lib.hid hz
  have K5 := Lib.hid h5
  have MR := Lib.hid hr
  have MW := Lib.hid hw
  have MB := Lib.hid hb
  clear hx h6 hz h5 hr hw hb
  have g0 : wc.cell? ⟨w.heap.size, 0, none⟩ = some (.int .i64 (flushR st of_).1.limit) := KX.out.cell 0
  have g1 : wc.cell? ⟨w.heap.size, 1, none⟩ = some (.slice ta0 (flushR st of_).1.q0.length tk0) := KX.out.cell 1
  have g2 : wc.cell? ⟨w.heap.size, 2, none⟩ = some (.slice ta1 (flushR st of_).1.q1.length tk1) := KX.out.cell 2
  have g3 : wc.cell? ⟨w.heap.size, 3, none⟩ = some (.bool (flushR st of_).1.c0) := KX.out.cell 3
  have g4 : wc.cell? ⟨w.heap.size, 4, none⟩ = some (.bool (flushR st of_).1.c1) := KX.out.cell 4
  have g5 : wc.cell? ⟨w.heap.size, 5, none⟩ = some (.int .i64 (flushR st of_).1.tks) := KX.out.cell 5
  have g6 : wc.cell? ⟨w.heap.size, 6, none⟩ = some (.slice taw (flushR st of_).1.ws.length tkw) := KX.out.cell 6
  have g7 : wc.cell? ⟨w.heap.size, 7, none⟩ = some (.slice taa (flushR st of_).1.ans.length tka) := KX.out.cell 7
  have h0 : wc.cell? ⟨w.heap.size + 1 + 1 + 1 + 1, 0, none⟩ = some (.int .i64 0) := K6.out.cell 0
  have h1 : wc.cell? ⟨w.heap.size + 1 + 1 + 1 + 1, 1, none⟩ = some (.string ⟨#[]⟩) := K6.out.cell 1
  have h2 : wc.cell? ⟨w.heap.size + 1 + 1 + 1 + 1, 2, none⟩ = some (.int .i64 (flushR st of_).2) := K6.out.cell 2
  have h3 : wc.cell? ⟨w.heap.size + 1 + 1 + 1 + 1, 3, none⟩ = some (.slice none 0 0) := K6.out.cell 3
  have z0 : wc.cell? ⟨w.heap.size + 1 + 1, 0, none⟩ = some (.int .i64 0) := KZ.out.cell 0
  have z1 : wc.cell? ⟨w.heap.size + 1 + 1, 1, none⟩ = some (.slice none 0 0) := KZ.out.cell 1
  have z2 : wc.cell? ⟨w.heap.size + 1 + 1, 2, none⟩ = some (.slice none 0 0) := KZ.out.cell 2
  have z3 : wc.cell? ⟨w.heap.size + 1 + 1, 3, none⟩ = some (.bool false) := KZ.out.cell 3
  have z4 : wc.cell? ⟨w.heap.size + 1 + 1, 4, none⟩ = some (.bool false) := KZ.out.cell 4
  have z5 : wc.cell? ⟨w.heap.size + 1 + 1, 5, none⟩ = some (.int .i64 0) := KZ.out.cell 5
  have z6 : wc.cell? ⟨w.heap.size + 1 + 1, 6, none⟩ = some (.slice none 0 0) := KZ.out.cell 6
  have z7 : wc.cell? ⟨w.heap.size + 1 + 1, 7, none⟩ = some (.slice none 0 0) := KZ.out.cell 7
  have y0 : wc.cell? ⟨w.heap.size + 1 + 1 + 1, 0, none⟩ = some (.int .i64 0) := K5.out.cell 0
  have y1 : wc.cell? ⟨w.heap.size + 1 + 1 + 1, 1, none⟩ = some (.string ⟨#[]⟩) := K5.out.cell 1
  have y2 : wc.cell? ⟨w.heap.size + 1 + 1 + 1, 2, none⟩ = some (.int .i64 0) := K5.out.cell 2
  have y3 : wc.cell? ⟨w.heap.size + 1 + 1 + 1, 3, none⟩ = some (.slice none 0 0) := K5.out.cell 3
  have fz := fun i => KZ.out.frozen i
  have fy := fun i => K5.out.frozen i
  have nz1 : w.heap.size ≠ w.heap.size + 1 + 1 := by omega
  have nz2 : w.heap.size + 1 + 1 + 1 + 1 ≠ w.heap.size + 1 + 1 := by omega
  have nz3 : w.heap.size ≠ w.heap.size + 1 + 1 + 1 := by omega
  have nz4 : w.heap.size + 1 + 1 + 1 + 1 ≠ w.heap.size + 1 + 1 + 1 := by omega
  have nz5 : w.heap.size + 1 + 1 ≠ w.heap.size + 1 + 1 + 1 := by omega
  have nz6 : w.heap.size + 1 + 1 + 1 ≠ w.heap.size + 1 + 1 := by omega
  go_region
  all_goals
    obtain ⟨o1, o2, o3, o4⟩ := put8 KZ.out (.int .i64 (flushR st of_).1.limit) (.slice ta0 (flushR st of_).1.q0.length tk0) (.slice ta1 (flushR st of_).1.q1.length tk1) (.bool (flushR st of_).1.c0) (.bool (flushR st of_).1.c1) (.int .i64 (flushR st of_).1.tks) (.slice taw (flushR st of_).1.ws.length tkw) (.slice taa (flushR st of_).1.ans.length tka)
    obtain ⟨p1, p2, p3, p4⟩ := put4 (o4 K5.out nz6) (.int .i64 0) (.string ⟨#[]⟩) (.int .i64 (flushR st of_).2) (.slice none 0 0)
    have kz := (p4 o1 nz5).drew
    have k5 := p1.drew
    have r0 := (p2 (o2 MR.out.r0 (by decide)) (by decide)).drew
    have r1 := (p2 (o2 MR.out.r1 (by decide)) (by decide)).drew
    have r2 := (p2 (o2 MR.out.rw_ (by decide)) (by decide)).drew
    have r3 := (p2 (o2 MR.out.ra (by decide)) (by decide)).drew
    have ra := (p2 (o2 MW.out (by decide)) (by decide)).drew
    have rb := (p3 (o3 MB.out (show w.heap.size ≤ w.heap.size + 1 + 1 by omega)) (show w.heap.size ≤ w.heap.size + 1 + 1 + 1 by omega)).drew
    have ro := MR.out.o.to (p3 (o3 (Below.refl 0 _) (Nat.zero_le _)) (Nat.zero_le _)).drew.size
    clear o1 o2 o3 o4 p1 p2 p3 p4
    go_wp2_with fail
    exact bodyPost_ret (res60_47 rfl _ _ (w.heap.size + 1 + 1) (w.heap.size + 1 + 1 + 1) _ _ _ _ _ _ _ _ _ _ _ _ rfl rfl kz k5) rfl ⟨⟨.slice ta0 (flushR st of_).1.q0.length tk0, .slice ta1 (flushR st of_).1.q1.length tk1, .slice taw (flushR st of_).1.ws.length tkw, .slice taa (flushR st of_).1.ans.length tka⟩, .slice none 0 0, rfl, ⟨r0, r1, r2, r3, ro⟩, ra, rb⟩
set_option maxRecDepth 100000 in
set_option maxHeartbeats 3200000 in
theorem ref_close (t ok of_ oc : Int) (od : ByteArray) {N : Nat} {l : Int} (S : Sl) (st : St) (hg : Rg N l st) (hN : N ≤ 880) (w : World) (hR : Ref F w S st) :
    Calls Try.prog 23 #[rpV S st, .agg #[.int .i64 4, .int .i64 t, .int .i64 ok, .int .i64 of_, .int .i64 oc, .string od]] w (RefSays F w (closeR st of_).1 0 ⟨#[]⟩ (closeR st of_).2 []) := by
  have C := Lib.hid (fun W (hb : Below w.heap.size w W) => rclose_any of_ S st (by have := hg.G.a; omega) W (hR.below hb))
  obtain ⟨za0, zk0, za1, zk1, zaw, zkw, zaa, zka, rfl⟩ := hR.open
  clear hR
  unfold rpV at *
  have BB0 := Lib.hid (show Below w.heap.size w ((((((w.alloc (.cells #[.int .i64 st.limit, .slice za0 st.q0.length zk0, .slice za1 st.q1.length zk1, .bool st.c0, .bool st.c1, .int .i64 st.tks, .slice zaw st.ws.length zkw, .slice zaa st.ans.length zka] 60)).alloc (.cells #[.int .i64 4, .int .i64 t, .int .i64 ok, .int .i64 of_, .int .i64 oc, .string od] 44)).alloc (.cells #[.int .i64 0, .slice none 0 0, .slice none 0 0, .bool false, .bool false, .int .i64 0, .slice none 0 0, .slice none 0 0] 60)).alloc (.cells #[.int .i64 0, .string ⟨#[]⟩, .int .i64 0, .slice none 0 0] 47)).alloc (.cells #[.int .i64 0, .string ⟨#[]⟩, .int .i64 0, .slice none 0 0] 47)).alloc (.cells #[.int .i64 ok, .int .i64 of_, .int .i64 oc, .string od] 107)) from ((((((Below.refl _ _).alloc (Nat.le_refl _) _).alloc (by simp) _).alloc (by simp; omega) _).alloc (by simp; omega) _).alloc (by simp; omega) _).alloc (by simp; omega) _)
  have KA0 := Lib.hid (show Blk ((((((w.alloc (.cells #[.int .i64 st.limit, .slice za0 st.q0.length zk0, .slice za1 st.q1.length zk1, .bool st.c0, .bool st.c1, .int .i64 st.tks, .slice zaw st.ws.length zkw, .slice zaa st.ans.length zka] 60)).alloc (.cells #[.int .i64 4, .int .i64 t, .int .i64 ok, .int .i64 of_, .int .i64 oc, .string od] 44)).alloc (.cells #[.int .i64 0, .slice none 0 0, .slice none 0 0, .bool false, .bool false, .int .i64 0, .slice none 0 0, .slice none 0 0] 60)).alloc (.cells #[.int .i64 0, .string ⟨#[]⟩, .int .i64 0, .slice none 0 0] 47)).alloc (.cells #[.int .i64 0, .string ⟨#[]⟩, .int .i64 0, .slice none 0 0] 47)).alloc (.cells #[.int .i64 ok, .int .i64 of_, .int .i64 oc, .string od] 107)) (w.heap.size) 60 [.int .i64 st.limit, .slice za0 st.q0.length zk0, .slice za1 st.q1.length zk1, .bool st.c0, .bool st.c1, .int .i64 st.tks, .slice zaw st.ws.length zkw, .slice zaa st.ans.length zka] from (((((Blk.new w 60 _).alloc _).alloc _).alloc _).alloc _).alloc _)
  have KT0 := Lib.hid (show Blk ((((((w.alloc (.cells #[.int .i64 st.limit, .slice za0 st.q0.length zk0, .slice za1 st.q1.length zk1, .bool st.c0, .bool st.c1, .int .i64 st.tks, .slice zaw st.ws.length zkw, .slice zaa st.ans.length zka] 60)).alloc (.cells #[.int .i64 4, .int .i64 t, .int .i64 ok, .int .i64 of_, .int .i64 oc, .string od] 44)).alloc (.cells #[.int .i64 0, .slice none 0 0, .slice none 0 0, .bool false, .bool false, .int .i64 0, .slice none 0 0, .slice none 0 0] 60)).alloc (.cells #[.int .i64 0, .string ⟨#[]⟩, .int .i64 0, .slice none 0 0] 47)).alloc (.cells #[.int .i64 0, .string ⟨#[]⟩, .int .i64 0, .slice none 0 0] 47)).alloc (.cells #[.int .i64 ok, .int .i64 of_, .int .i64 oc, .string od] 107)) (w.heap.size + 1) 44 [.int .i64 4, .int .i64 t, .int .i64 ok, .int .i64 of_, .int .i64 oc, .string od] from ((((blk_at (by simp) 44 [_, _, _, _, _, _]).alloc _).alloc _).alloc _).alloc _)
  have KZ0 := Lib.hid (show Blk ((((((w.alloc (.cells #[.int .i64 st.limit, .slice za0 st.q0.length zk0, .slice za1 st.q1.length zk1, .bool st.c0, .bool st.c1, .int .i64 st.tks, .slice zaw st.ws.length zkw, .slice zaa st.ans.length zka] 60)).alloc (.cells #[.int .i64 4, .int .i64 t, .int .i64 ok, .int .i64 of_, .int .i64 oc, .string od] 44)).alloc (.cells #[.int .i64 0, .slice none 0 0, .slice none 0 0, .bool false, .bool false, .int .i64 0, .slice none 0 0, .slice none 0 0] 60)).alloc (.cells #[.int .i64 0, .string ⟨#[]⟩, .int .i64 0, .slice none 0 0] 47)).alloc (.cells #[.int .i64 0, .string ⟨#[]⟩, .int .i64 0, .slice none 0 0] 47)).alloc (.cells #[.int .i64 ok, .int .i64 of_, .int .i64 oc, .string od] 107)) (w.heap.size + 1 + 1) 60 [.int .i64 0, .slice none 0 0, .slice none 0 0, .bool false, .bool false, .int .i64 0, .slice none 0 0, .slice none 0 0] from (((blk_at (by simp) 60 [_, _, _, _, _, _, _, _]).alloc _).alloc _).alloc _)
  have K50 := Lib.hid (show Blk ((((((w.alloc (.cells #[.int .i64 st.limit, .slice za0 st.q0.length zk0, .slice za1 st.q1.length zk1, .bool st.c0, .bool st.c1, .int .i64 st.tks, .slice zaw st.ws.length zkw, .slice zaa st.ans.length zka] 60)).alloc (.cells #[.int .i64 4, .int .i64 t, .int .i64 ok, .int .i64 of_, .int .i64 oc, .string od] 44)).alloc (.cells #[.int .i64 0, .slice none 0 0, .slice none 0 0, .bool false, .bool false, .int .i64 0, .slice none 0 0, .slice none 0 0] 60)).alloc (.cells #[.int .i64 0, .string ⟨#[]⟩, .int .i64 0, .slice none 0 0] 47)).alloc (.cells #[.int .i64 0, .string ⟨#[]⟩, .int .i64 0, .slice none 0 0] 47)).alloc (.cells #[.int .i64 ok, .int .i64 of_, .int .i64 oc, .string od] 107)) (w.heap.size + 1 + 1 + 1) 47 [.int .i64 0, .string ⟨#[]⟩, .int .i64 0, .slice none 0 0] from ((blk_at (by simp) 47 [_, _, _, _]).alloc _).alloc _)
  have K60 := Lib.hid (show Blk ((((((w.alloc (.cells #[.int .i64 st.limit, .slice za0 st.q0.length zk0, .slice za1 st.q1.length zk1, .bool st.c0, .bool st.c1, .int .i64 st.tks, .slice zaw st.ws.length zkw, .slice zaa st.ans.length zka] 60)).alloc (.cells #[.int .i64 4, .int .i64 t, .int .i64 ok, .int .i64 of_, .int .i64 oc, .string od] 44)).alloc (.cells #[.int .i64 0, .slice none 0 0, .slice none 0 0, .bool false, .bool false, .int .i64 0, .slice none 0 0, .slice none 0 0] 60)).alloc (.cells #[.int .i64 0, .string ⟨#[]⟩, .int .i64 0, .slice none 0 0] 47)).alloc (.cells #[.int .i64 0, .string ⟨#[]⟩, .int .i64 0, .slice none 0 0] 47)).alloc (.cells #[.int .i64 ok, .int .i64 of_, .int .i64 oc, .string od] 107)) (w.heap.size + 1 + 1 + 1 + 1) 47 [.int .i64 0, .string ⟨#[]⟩, .int .i64 0, .slice none 0 0] from (blk_at (by simp) 47 [_, _, _, _]).alloc _)
  have K70 := Lib.hid (show Blk ((((((w.alloc (.cells #[.int .i64 st.limit, .slice za0 st.q0.length zk0, .slice za1 st.q1.length zk1, .bool st.c0, .bool st.c1, .int .i64 st.tks, .slice zaw st.ws.length zkw, .slice zaa st.ans.length zka] 60)).alloc (.cells #[.int .i64 4, .int .i64 t, .int .i64 ok, .int .i64 of_, .int .i64 oc, .string od] 44)).alloc (.cells #[.int .i64 0, .slice none 0 0, .slice none 0 0, .bool false, .bool false, .int .i64 0, .slice none 0 0, .slice none 0 0] 60)).alloc (.cells #[.int .i64 0, .string ⟨#[]⟩, .int .i64 0, .slice none 0 0] 47)).alloc (.cells #[.int .i64 0, .string ⟨#[]⟩, .int .i64 0, .slice none 0 0] 47)).alloc (.cells #[.int .i64 ok, .int .i64 of_, .int .i64 oc, .string od] 107)) (w.heap.size + 1 + 1 + 1 + 1 + 1) 107 [.int .i64 ok, .int .i64 of_, .int .i64 oc, .string od] from blk_at (by simp) 107 [_, _, _, _])
  go_enter Try.func23, Try.ntmps23
  go_upto_region 31 with (go_at_call 48; refine (C.out _ BB0.out).mono ?_; rintro e v1 ⟨S1, he1, R1, hb⟩; obtain ⟨ta0, tk0, ta1, tk1, taw, tkw, taa, tka, rfl⟩ := R1.open; (try unfold rpV at he1); (try dsimp only at he1); subst he1; have HR1 := Lib.hid R1; have BB1 := Lib.hid (keepBelow BB0.out hb); have KA1 := Lib.hid (keepBlk hb KA0.out); have a0 : v1.cell? ⟨w.heap.size, 0, none⟩ = some (.int .i64 st.limit) := KA1.out.cell 0; have a1 : v1.cell? ⟨w.heap.size, 1, none⟩ = some (.slice za0 st.q0.length zk0) := KA1.out.cell 1; have a2 : v1.cell? ⟨w.heap.size, 2, none⟩ = some (.slice za1 st.q1.length zk1) := KA1.out.cell 2; have a3 : v1.cell? ⟨w.heap.size, 3, none⟩ = some (.bool st.c0) := KA1.out.cell 3; have a4 : v1.cell? ⟨w.heap.size, 4, none⟩ = some (.bool st.c1) := KA1.out.cell 4; have a5 : v1.cell? ⟨w.heap.size, 5, none⟩ = some (.int .i64 st.tks) := KA1.out.cell 5; have a6 : v1.cell? ⟨w.heap.size, 6, none⟩ = some (.slice zaw st.ws.length zkw) := KA1.out.cell 6; have a7 : v1.cell? ⟨w.heap.size, 7, none⟩ = some (.slice zaa st.ans.length zka) := KA1.out.cell 7; have K61 := Lib.hid (keepBlk hb K60.out); have d0 : v1.cell? ⟨w.heap.size + 1 + 1 + 1 + 1, 0, none⟩ = some (.int .i64 0) := K61.out.cell 0; have d1 : v1.cell? ⟨w.heap.size + 1 + 1 + 1 + 1, 1, none⟩ = some (.string ⟨#[]⟩) := K61.out.cell 1; have d2 : v1.cell? ⟨w.heap.size + 1 + 1 + 1 + 1, 2, none⟩ = some (.int .i64 0) := K61.out.cell 2; have d3 : v1.cell? ⟨w.heap.size + 1 + 1 + 1 + 1, 3, none⟩ = some (.slice none 0 0) := K61.out.cell 3; have KZ1 := Lib.hid (keepBlk hb KZ0.out); have K51 := Lib.hid (keepBlk hb K50.out); have fA1 := fun i => KA1.out.frozen i; have f61 := fun i => K61.out.frozen i; clear hb R1)
  refine gen_world (fun wx => Mid F w ⟨.slice ta0 (closeR st of_).1.q0.length tk0, .slice ta1 (closeR st of_).1.q1.length tk1, .slice taw (closeR st of_).1.ws.length tkw, .slice taa (closeR st of_).1.ans.length tka⟩ (closeR st of_).1 0 ⟨#[]⟩ (closeR st of_).2 (.slice none 0 0) [] wx) ?_ (fun wc hcut => ?_)
  · obtain ⟨o1, o2, o3, o4⟩ := put8 KA1.out (.int .i64 (closeR st of_).1.limit) (.slice ta0 (closeR st of_).1.q0.length tk0) (.slice ta1 (closeR st of_).1.q1.length tk1) (.bool (closeR st of_).1.c0) (.bool (closeR st of_).1.c1) (.int .i64 (closeR st of_).1.tks) (.slice taw (closeR st of_).1.ws.length tkw) (.slice taa (closeR st of_).1.ans.length tka)
    have q6 := o4 K61.out (show w.heap.size + 1 + 1 + 1 + 1 ≠ w.heap.size by omega)
    exact ⟨(o1.far (p := ⟨w.heap.size + 1 + 1 + 1 + 1, 2, none⟩) (show w.heap.size ≠ w.heap.size + 1 + 1 + 1 + 1 by omega) _), (q6.set_ 2 _), ((o4 KZ1.out (show w.heap.size + 1 + 1 ≠ w.heap.size by omega)).far (p := ⟨w.heap.size + 1 + 1 + 1 + 1, 2, none⟩) (show w.heap.size + 1 + 1 ≠ w.heap.size + 1 + 1 + 1 + 1 by omega) _), ((o4 K51.out (show w.heap.size + 1 + 1 + 1 ≠ w.heap.size by omega)).far (p := ⟨w.heap.size + 1 + 1 + 1 + 1, 2, none⟩) (show w.heap.size + 1 + 1 + 1 ≠ w.heap.size + 1 + 1 + 1 + 1 by omega) _), ((Ref.mk (S := ⟨.slice ta0 (closeR st of_).1.q0.length tk0, .slice ta1 (closeR st of_).1.q1.length tk1, .slice taw (closeR st of_).1.ws.length tkw, .slice taa (closeR st of_).1.ans.length tka⟩) (st := (closeR st of_).1) (o2 HR1.out.r0 (by decide)) (o2 HR1.out.r1 (by decide)) (o2 HR1.out.rw_ (by decide)) (o2 HR1.out.ra (by decide)) (HR1.out.o.to (o3 (Below.refl 0 _) (Nat.zero_le _)).size)).set47 (i := 2) q6 _), Row.nil _ _ _, ((o3 BB1.out (Nat.le_refl _)).setCell (p := ⟨w.heap.size + 1 + 1 + 1 + 1, 2, none⟩) (show w.heap.size ≤ w.heap.size + 1 + 1 + 1 + 1 by omega) _)⟩
  obtain ⟨hx, h6, hz, h5, hr, hw, hb⟩ := hcut
  have KX := Lib.hid hx
  have K6 := Lib.hid h6
  have KZ := Lib.hid hz
  have K5 := Lib.hid h5
  have MR := Lib.hid hr
  have MW := Lib.hid hw
  have MB := Lib.hid hb
  clear hx h6 hz h5 hr hw hb
  have g0 : wc.cell? ⟨w.heap.size, 0, none⟩ = some (.int .i64 (closeR st of_).1.limit) := KX.out.cell 0
  have g1 : wc.cell? ⟨w.heap.size, 1, none⟩ = some (.slice ta0 (closeR st of_).1.q0.length tk0) := KX.out.cell 1
  have g2 : wc.cell? ⟨w.heap.size, 2, none⟩ = some (.slice ta1 (closeR st of_).1.q1.length tk1) := KX.out.cell 2
  have g3 : wc.cell? ⟨w.heap.size, 3, none⟩ = some (.bool (closeR st of_).1.c0) := KX.out.cell 3
  have g4 : wc.cell? ⟨w.heap.size, 4, none⟩ = some (.bool (closeR st of_).1.c1) := KX.out.cell 4
  have g5 : wc.cell? ⟨w.heap.size, 5, none⟩ = some (.int .i64 (closeR st of_).1.tks) := KX.out.cell 5
  have g6 : wc.cell? ⟨w.heap.size, 6, none⟩ = some (.slice taw (closeR st of_).1.ws.length tkw) := KX.out.cell 6
  have g7 : wc.cell? ⟨w.heap.size, 7, none⟩ = some (.slice taa (closeR st of_).1.ans.length tka) := KX.out.cell 7
  have h0 : wc.cell? ⟨w.heap.size + 1 + 1 + 1 + 1, 0, none⟩ = some (.int .i64 0) := K6.out.cell 0
  have h1 : wc.cell? ⟨w.heap.size + 1 + 1 + 1 + 1, 1, none⟩ = some (.string ⟨#[]⟩) := K6.out.cell 1
  have h2 : wc.cell? ⟨w.heap.size + 1 + 1 + 1 + 1, 2, none⟩ = some (.int .i64 (closeR st of_).2) := K6.out.cell 2
  have h3 : wc.cell? ⟨w.heap.size + 1 + 1 + 1 + 1, 3, none⟩ = some (.slice none 0 0) := K6.out.cell 3
  have z0 : wc.cell? ⟨w.heap.size + 1 + 1, 0, none⟩ = some (.int .i64 0) := KZ.out.cell 0
  have z1 : wc.cell? ⟨w.heap.size + 1 + 1, 1, none⟩ = some (.slice none 0 0) := KZ.out.cell 1
  have z2 : wc.cell? ⟨w.heap.size + 1 + 1, 2, none⟩ = some (.slice none 0 0) := KZ.out.cell 2
  have z3 : wc.cell? ⟨w.heap.size + 1 + 1, 3, none⟩ = some (.bool false) := KZ.out.cell 3
  have z4 : wc.cell? ⟨w.heap.size + 1 + 1, 4, none⟩ = some (.bool false) := KZ.out.cell 4
  have z5 : wc.cell? ⟨w.heap.size + 1 + 1, 5, none⟩ = some (.int .i64 0) := KZ.out.cell 5
  have z6 : wc.cell? ⟨w.heap.size + 1 + 1, 6, none⟩ = some (.slice none 0 0) := KZ.out.cell 6
  have z7 : wc.cell? ⟨w.heap.size + 1 + 1, 7, none⟩ = some (.slice none 0 0) := KZ.out.cell 7
  have y0 : wc.cell? ⟨w.heap.size + 1 + 1 + 1, 0, none⟩ = some (.int .i64 0) := K5.out.cell 0
  have y1 : wc.cell? ⟨w.heap.size + 1 + 1 + 1, 1, none⟩ = some (.string ⟨#[]⟩) := K5.out.cell 1
  have y2 : wc.cell? ⟨w.heap.size + 1 + 1 + 1, 2, none⟩ = some (.int .i64 0) := K5.out.cell 2
  have y3 : wc.cell? ⟨w.heap.size + 1 + 1 + 1, 3, none⟩ = some (.slice none 0 0) := K5.out.cell 3
  have fz := fun i => KZ.out.frozen i
  have fy := fun i => K5.out.frozen i
  have nz1 : w.heap.size ≠ w.heap.size + 1 + 1 := by omega
  have nz2 : w.heap.size + 1 + 1 + 1 + 1 ≠ w.heap.size + 1 + 1 := by omega
  have nz3 : w.heap.size ≠ w.heap.size + 1 + 1 + 1 := by omega
  have nz4 : w.heap.size + 1 + 1 + 1 + 1 ≠ w.heap.size + 1 + 1 + 1 := by omega
  have nz5 : w.heap.size + 1 + 1 ≠ w.heap.size + 1 + 1 + 1 := by omega
  have nz6 : w.heap.size + 1 + 1 + 1 ≠ w.heap.size + 1 + 1 := by omega
  go_region
  all_goals
    obtain ⟨o1, o2, o3, o4⟩ := put8 KZ.out (.int .i64 (closeR st of_).1.limit) (.slice ta0 (closeR st of_).1.q0.length tk0) (.slice ta1 (closeR st of_).1.q1.length tk1) (.bool (closeR st of_).1.c0) (.bool (closeR st of_).1.c1) (.int .i64 (closeR st of_).1.tks) (.slice taw (closeR st of_).1.ws.length tkw) (.slice taa (closeR st of_).1.ans.length tka)
    obtain ⟨p1, p2, p3, p4⟩ := put4 (o4 K5.out nz6) (.int .i64 0) (.string ⟨#[]⟩) (.int .i64 (closeR st of_).2) (.slice none 0 0)
    have kz := (p4 o1 nz5).drew
    have k5 := p1.drew
    have r0 := (p2 (o2 MR.out.r0 (by decide)) (by decide)).drew
    have r1 := (p2 (o2 MR.out.r1 (by decide)) (by decide)).drew
    have r2 := (p2 (o2 MR.out.rw_ (by decide)) (by decide)).drew
    have r3 := (p2 (o2 MR.out.ra (by decide)) (by decide)).drew
    have ra := (p2 (o2 MW.out (by decide)) (by decide)).drew
    have rb := (p3 (o3 MB.out (show w.heap.size ≤ w.heap.size + 1 + 1 by omega)) (show w.heap.size ≤ w.heap.size + 1 + 1 + 1 by omega)).drew
    have ro := MR.out.o.to (p3 (o3 (Below.refl 0 _) (Nat.zero_le _)) (Nat.zero_le _)).drew.size
    clear o1 o2 o3 o4 p1 p2 p3 p4
    go_wp2_with fail
    exact bodyPost_ret (res60_47 rfl _ _ (w.heap.size + 1 + 1) (w.heap.size + 1 + 1 + 1) _ _ _ _ _ _ _ _ _ _ _ _ rfl rfl kz k5) rfl ⟨⟨.slice ta0 (closeR st of_).1.q0.length tk0, .slice ta1 (closeR st of_).1.q1.length tk1, .slice taw (closeR st of_).1.ws.length tkw, .slice taa (closeR st of_).1.ans.length tka⟩, .slice none 0 0, rfl, ⟨r0, r1, r2, r3, ro⟩, ra, rb⟩
set_option maxRecDepth 100000 in
set_option maxHeartbeats 3200000 in
theorem ref_ask (t ok of_ oc : Int) (od : ByteArray) (hd : od.size ≤ 9000) {N : Nat} {l : Int} (S : Sl) (st : St) (hg : Rg N l st) (hN : N ≤ 880) (w : World) (hR : Ref F w S st) :
    Calls Try.prog 23 #[rpV S st, .agg #[.int .i64 0, .int .i64 t, .int .i64 ok, .int .i64 of_, .int .i64 oc, .string od]] w (RefSays F w (askR st ⟨ok, of_, oc, od⟩).1 (askR st ⟨ok, of_, oc, od⟩).2.1 ⟨#[]⟩ (askR st ⟨ok, of_, oc, od⟩).2.2 []) := by
  have C := Lib.hid (fun W (hb : Below w.heap.size w W) => rask_any ⟨ok, of_, oc, od⟩ hd (N := N) (l := l) S st hg.G hN hg.B W (hR.below hb))
  obtain ⟨za0, zk0, za1, zk1, zaw, zkw, zaa, zka, rfl⟩ := hR.open
  clear hR
  unfold rpV at *
  have BB0 := Lib.hid (show Below w.heap.size w ((((((w.alloc (.cells #[.int .i64 st.limit, .slice za0 st.q0.length zk0, .slice za1 st.q1.length zk1, .bool st.c0, .bool st.c1, .int .i64 st.tks, .slice zaw st.ws.length zkw, .slice zaa st.ans.length zka] 60)).alloc (.cells #[.int .i64 0, .int .i64 t, .int .i64 ok, .int .i64 of_, .int .i64 oc, .string od] 44)).alloc (.cells #[.int .i64 0, .slice none 0 0, .slice none 0 0, .bool false, .bool false, .int .i64 0, .slice none 0 0, .slice none 0 0] 60)).alloc (.cells #[.int .i64 0, .string ⟨#[]⟩, .int .i64 0, .slice none 0 0] 47)).alloc (.cells #[.int .i64 0, .string ⟨#[]⟩, .int .i64 0, .slice none 0 0] 47)).alloc (.cells #[.int .i64 ok, .int .i64 of_, .int .i64 oc, .string od] 107)) from ((((((Below.refl _ _).alloc (Nat.le_refl _) _).alloc (by simp) _).alloc (by simp; omega) _).alloc (by simp; omega) _).alloc (by simp; omega) _).alloc (by simp; omega) _)
  have KA0 := Lib.hid (show Blk ((((((w.alloc (.cells #[.int .i64 st.limit, .slice za0 st.q0.length zk0, .slice za1 st.q1.length zk1, .bool st.c0, .bool st.c1, .int .i64 st.tks, .slice zaw st.ws.length zkw, .slice zaa st.ans.length zka] 60)).alloc (.cells #[.int .i64 0, .int .i64 t, .int .i64 ok, .int .i64 of_, .int .i64 oc, .string od] 44)).alloc (.cells #[.int .i64 0, .slice none 0 0, .slice none 0 0, .bool false, .bool false, .int .i64 0, .slice none 0 0, .slice none 0 0] 60)).alloc (.cells #[.int .i64 0, .string ⟨#[]⟩, .int .i64 0, .slice none 0 0] 47)).alloc (.cells #[.int .i64 0, .string ⟨#[]⟩, .int .i64 0, .slice none 0 0] 47)).alloc (.cells #[.int .i64 ok, .int .i64 of_, .int .i64 oc, .string od] 107)) (w.heap.size) 60 [.int .i64 st.limit, .slice za0 st.q0.length zk0, .slice za1 st.q1.length zk1, .bool st.c0, .bool st.c1, .int .i64 st.tks, .slice zaw st.ws.length zkw, .slice zaa st.ans.length zka] from (((((Blk.new w 60 _).alloc _).alloc _).alloc _).alloc _).alloc _)
  have KT0 := Lib.hid (show Blk ((((((w.alloc (.cells #[.int .i64 st.limit, .slice za0 st.q0.length zk0, .slice za1 st.q1.length zk1, .bool st.c0, .bool st.c1, .int .i64 st.tks, .slice zaw st.ws.length zkw, .slice zaa st.ans.length zka] 60)).alloc (.cells #[.int .i64 0, .int .i64 t, .int .i64 ok, .int .i64 of_, .int .i64 oc, .string od] 44)).alloc (.cells #[.int .i64 0, .slice none 0 0, .slice none 0 0, .bool false, .bool false, .int .i64 0, .slice none 0 0, .slice none 0 0] 60)).alloc (.cells #[.int .i64 0, .string ⟨#[]⟩, .int .i64 0, .slice none 0 0] 47)).alloc (.cells #[.int .i64 0, .string ⟨#[]⟩, .int .i64 0, .slice none 0 0] 47)).alloc (.cells #[.int .i64 ok, .int .i64 of_, .int .i64 oc, .string od] 107)) (w.heap.size + 1) 44 [.int .i64 0, .int .i64 t, .int .i64 ok, .int .i64 of_, .int .i64 oc, .string od] from ((((blk_at (by simp) 44 [_, _, _, _, _, _]).alloc _).alloc _).alloc _).alloc _)
  have KZ0 := Lib.hid (show Blk ((((((w.alloc (.cells #[.int .i64 st.limit, .slice za0 st.q0.length zk0, .slice za1 st.q1.length zk1, .bool st.c0, .bool st.c1, .int .i64 st.tks, .slice zaw st.ws.length zkw, .slice zaa st.ans.length zka] 60)).alloc (.cells #[.int .i64 0, .int .i64 t, .int .i64 ok, .int .i64 of_, .int .i64 oc, .string od] 44)).alloc (.cells #[.int .i64 0, .slice none 0 0, .slice none 0 0, .bool false, .bool false, .int .i64 0, .slice none 0 0, .slice none 0 0] 60)).alloc (.cells #[.int .i64 0, .string ⟨#[]⟩, .int .i64 0, .slice none 0 0] 47)).alloc (.cells #[.int .i64 0, .string ⟨#[]⟩, .int .i64 0, .slice none 0 0] 47)).alloc (.cells #[.int .i64 ok, .int .i64 of_, .int .i64 oc, .string od] 107)) (w.heap.size + 1 + 1) 60 [.int .i64 0, .slice none 0 0, .slice none 0 0, .bool false, .bool false, .int .i64 0, .slice none 0 0, .slice none 0 0] from (((blk_at (by simp) 60 [_, _, _, _, _, _, _, _]).alloc _).alloc _).alloc _)
  have K50 := Lib.hid (show Blk ((((((w.alloc (.cells #[.int .i64 st.limit, .slice za0 st.q0.length zk0, .slice za1 st.q1.length zk1, .bool st.c0, .bool st.c1, .int .i64 st.tks, .slice zaw st.ws.length zkw, .slice zaa st.ans.length zka] 60)).alloc (.cells #[.int .i64 0, .int .i64 t, .int .i64 ok, .int .i64 of_, .int .i64 oc, .string od] 44)).alloc (.cells #[.int .i64 0, .slice none 0 0, .slice none 0 0, .bool false, .bool false, .int .i64 0, .slice none 0 0, .slice none 0 0] 60)).alloc (.cells #[.int .i64 0, .string ⟨#[]⟩, .int .i64 0, .slice none 0 0] 47)).alloc (.cells #[.int .i64 0, .string ⟨#[]⟩, .int .i64 0, .slice none 0 0] 47)).alloc (.cells #[.int .i64 ok, .int .i64 of_, .int .i64 oc, .string od] 107)) (w.heap.size + 1 + 1 + 1) 47 [.int .i64 0, .string ⟨#[]⟩, .int .i64 0, .slice none 0 0] from ((blk_at (by simp) 47 [_, _, _, _]).alloc _).alloc _)
  have K60 := Lib.hid (show Blk ((((((w.alloc (.cells #[.int .i64 st.limit, .slice za0 st.q0.length zk0, .slice za1 st.q1.length zk1, .bool st.c0, .bool st.c1, .int .i64 st.tks, .slice zaw st.ws.length zkw, .slice zaa st.ans.length zka] 60)).alloc (.cells #[.int .i64 0, .int .i64 t, .int .i64 ok, .int .i64 of_, .int .i64 oc, .string od] 44)).alloc (.cells #[.int .i64 0, .slice none 0 0, .slice none 0 0, .bool false, .bool false, .int .i64 0, .slice none 0 0, .slice none 0 0] 60)).alloc (.cells #[.int .i64 0, .string ⟨#[]⟩, .int .i64 0, .slice none 0 0] 47)).alloc (.cells #[.int .i64 0, .string ⟨#[]⟩, .int .i64 0, .slice none 0 0] 47)).alloc (.cells #[.int .i64 ok, .int .i64 of_, .int .i64 oc, .string od] 107)) (w.heap.size + 1 + 1 + 1 + 1) 47 [.int .i64 0, .string ⟨#[]⟩, .int .i64 0, .slice none 0 0] from (blk_at (by simp) 47 [_, _, _, _]).alloc _)
  have K70 := Lib.hid (show Blk ((((((w.alloc (.cells #[.int .i64 st.limit, .slice za0 st.q0.length zk0, .slice za1 st.q1.length zk1, .bool st.c0, .bool st.c1, .int .i64 st.tks, .slice zaw st.ws.length zkw, .slice zaa st.ans.length zka] 60)).alloc (.cells #[.int .i64 0, .int .i64 t, .int .i64 ok, .int .i64 of_, .int .i64 oc, .string od] 44)).alloc (.cells #[.int .i64 0, .slice none 0 0, .slice none 0 0, .bool false, .bool false, .int .i64 0, .slice none 0 0, .slice none 0 0] 60)).alloc (.cells #[.int .i64 0, .string ⟨#[]⟩, .int .i64 0, .slice none 0 0] 47)).alloc (.cells #[.int .i64 0, .string ⟨#[]⟩, .int .i64 0, .slice none 0 0] 47)).alloc (.cells #[.int .i64 ok, .int .i64 of_, .int .i64 oc, .string od] 107)) (w.heap.size + 1 + 1 + 1 + 1 + 1) 107 [.int .i64 ok, .int .i64 of_, .int .i64 oc, .string od] from blk_at (by simp) 107 [_, _, _, _])
  go_enter Try.func23, Try.ntmps23
  go_upto_region 31 with (go_at_call 44; refine (C.out _ BB0.out).mono ?_; rintro e v1 ⟨S1, he1, R1, hb⟩; obtain ⟨ta0, tk0, ta1, tk1, taw, tkw, taa, tka, rfl⟩ := R1.open; (try unfold rpV at he1); (try dsimp only at he1); subst he1; have HR1 := Lib.hid R1; have BB1 := Lib.hid (keepBelow BB0.out hb); have KA1 := Lib.hid (keepBlk hb KA0.out); have a0 : v1.cell? ⟨w.heap.size, 0, none⟩ = some (.int .i64 st.limit) := KA1.out.cell 0; have a1 : v1.cell? ⟨w.heap.size, 1, none⟩ = some (.slice za0 st.q0.length zk0) := KA1.out.cell 1; have a2 : v1.cell? ⟨w.heap.size, 2, none⟩ = some (.slice za1 st.q1.length zk1) := KA1.out.cell 2; have a3 : v1.cell? ⟨w.heap.size, 3, none⟩ = some (.bool st.c0) := KA1.out.cell 3; have a4 : v1.cell? ⟨w.heap.size, 4, none⟩ = some (.bool st.c1) := KA1.out.cell 4; have a5 : v1.cell? ⟨w.heap.size, 5, none⟩ = some (.int .i64 st.tks) := KA1.out.cell 5; have a6 : v1.cell? ⟨w.heap.size, 6, none⟩ = some (.slice zaw st.ws.length zkw) := KA1.out.cell 6; have a7 : v1.cell? ⟨w.heap.size, 7, none⟩ = some (.slice zaa st.ans.length zka) := KA1.out.cell 7; have K61 := Lib.hid (keepBlk hb K60.out); have d0 : v1.cell? ⟨w.heap.size + 1 + 1 + 1 + 1, 0, none⟩ = some (.int .i64 0) := K61.out.cell 0; have d1 : v1.cell? ⟨w.heap.size + 1 + 1 + 1 + 1, 1, none⟩ = some (.string ⟨#[]⟩) := K61.out.cell 1; have d2 : v1.cell? ⟨w.heap.size + 1 + 1 + 1 + 1, 2, none⟩ = some (.int .i64 0) := K61.out.cell 2; have d3 : v1.cell? ⟨w.heap.size + 1 + 1 + 1 + 1, 3, none⟩ = some (.slice none 0 0) := K61.out.cell 3; have KZ1 := Lib.hid (keepBlk hb KZ0.out); have K51 := Lib.hid (keepBlk hb K50.out); have fA1 := fun i => KA1.out.frozen i; have f61 := fun i => K61.out.frozen i; clear hb R1)
  refine gen_world (fun wx => Mid F w ⟨.slice ta0 (askR st ⟨ok, of_, oc, od⟩).1.q0.length tk0, .slice ta1 (askR st ⟨ok, of_, oc, od⟩).1.q1.length tk1, .slice taw (askR st ⟨ok, of_, oc, od⟩).1.ws.length tkw, .slice taa (askR st ⟨ok, of_, oc, od⟩).1.ans.length tka⟩ (askR st ⟨ok, of_, oc, od⟩).1 (askR st ⟨ok, of_, oc, od⟩).2.1 ⟨#[]⟩ (askR st ⟨ok, of_, oc, od⟩).2.2 (.slice none 0 0) [] wx) ?_ (fun wc hcut => ?_)
  · obtain ⟨o1, o2, o3, o4⟩ := put8 KA1.out (.int .i64 (askR st ⟨ok, of_, oc, od⟩).1.limit) (.slice ta0 (askR st ⟨ok, of_, oc, od⟩).1.q0.length tk0) (.slice ta1 (askR st ⟨ok, of_, oc, od⟩).1.q1.length tk1) (.bool (askR st ⟨ok, of_, oc, od⟩).1.c0) (.bool (askR st ⟨ok, of_, oc, od⟩).1.c1) (.int .i64 (askR st ⟨ok, of_, oc, od⟩).1.tks) (.slice taw (askR st ⟨ok, of_, oc, od⟩).1.ws.length tkw) (.slice taa (askR st ⟨ok, of_, oc, od⟩).1.ans.length tka)
    have q6 := o4 K61.out (show w.heap.size + 1 + 1 + 1 + 1 ≠ w.heap.size by omega)
    exact ⟨((o1.far (p := ⟨w.heap.size + 1 + 1 + 1 + 1, 0, none⟩) (show w.heap.size ≠ w.heap.size + 1 + 1 + 1 + 1 by omega) _).far (p := ⟨w.heap.size + 1 + 1 + 1 + 1, 2, none⟩) (show w.heap.size ≠ w.heap.size + 1 + 1 + 1 + 1 by omega) _), ((q6.set_ 0 _).set_ 2 _), (((o4 KZ1.out (show w.heap.size + 1 + 1 ≠ w.heap.size by omega)).far (p := ⟨w.heap.size + 1 + 1 + 1 + 1, 0, none⟩) (show w.heap.size + 1 + 1 ≠ w.heap.size + 1 + 1 + 1 + 1 by omega) _).far (p := ⟨w.heap.size + 1 + 1 + 1 + 1, 2, none⟩) (show w.heap.size + 1 + 1 ≠ w.heap.size + 1 + 1 + 1 + 1 by omega) _), (((o4 K51.out (show w.heap.size + 1 + 1 + 1 ≠ w.heap.size by omega)).far (p := ⟨w.heap.size + 1 + 1 + 1 + 1, 0, none⟩) (show w.heap.size + 1 + 1 + 1 ≠ w.heap.size + 1 + 1 + 1 + 1 by omega) _).far (p := ⟨w.heap.size + 1 + 1 + 1 + 1, 2, none⟩) (show w.heap.size + 1 + 1 + 1 ≠ w.heap.size + 1 + 1 + 1 + 1 by omega) _), (((Ref.mk (S := ⟨.slice ta0 (askR st ⟨ok, of_, oc, od⟩).1.q0.length tk0, .slice ta1 (askR st ⟨ok, of_, oc, od⟩).1.q1.length tk1, .slice taw (askR st ⟨ok, of_, oc, od⟩).1.ws.length tkw, .slice taa (askR st ⟨ok, of_, oc, od⟩).1.ans.length tka⟩) (st := (askR st ⟨ok, of_, oc, od⟩).1) (o2 HR1.out.r0 (by decide)) (o2 HR1.out.r1 (by decide)) (o2 HR1.out.rw_ (by decide)) (o2 HR1.out.ra (by decide)) (HR1.out.o.to (o3 (Below.refl 0 _) (Nat.zero_le _)).size)).set47 (i := 0) q6 _).set47 (i := 2) (q6.set_ 0 _) _), Row.nil _ _ _, (((o3 BB1.out (Nat.le_refl _)).setCell (p := ⟨w.heap.size + 1 + 1 + 1 + 1, 0, none⟩) (show w.heap.size ≤ w.heap.size + 1 + 1 + 1 + 1 by omega) _).setCell (p := ⟨w.heap.size + 1 + 1 + 1 + 1, 2, none⟩) (show w.heap.size ≤ w.heap.size + 1 + 1 + 1 + 1 by omega) _)⟩
  obtain ⟨hx, h6, hz, h5, hr, hw, hb⟩ := hcut
  have KX := Lib.hid hx
  have K6 := Lib.hid h6
  have KZ := Lib.hid hz
  have K5 := Lib.hid h5
  have MR := Lib.hid hr
  have MW := Lib.hid hw
  have MB := Lib.hid hb
  clear hx h6 hz h5 hr hw hb
  have g0 : wc.cell? ⟨w.heap.size, 0, none⟩ = some (.int .i64 (askR st ⟨ok, of_, oc, od⟩).1.limit) := KX.out.cell 0
  have g1 : wc.cell? ⟨w.heap.size, 1, none⟩ = some (.slice ta0 (askR st ⟨ok, of_, oc, od⟩).1.q0.length tk0) := KX.out.cell 1
  have g2 : wc.cell? ⟨w.heap.size, 2, none⟩ = some (.slice ta1 (askR st ⟨ok, of_, oc, od⟩).1.q1.length tk1) := KX.out.cell 2
  have g3 : wc.cell? ⟨w.heap.size, 3, none⟩ = some (.bool (askR st ⟨ok, of_, oc, od⟩).1.c0) := KX.out.cell 3
  have g4 : wc.cell? ⟨w.heap.size, 4, none⟩ = some (.bool (askR st ⟨ok, of_, oc, od⟩).1.c1) := KX.out.cell 4
  have g5 : wc.cell? ⟨w.heap.size, 5, none⟩ = some (.int .i64 (askR st ⟨ok, of_, oc, od⟩).1.tks) := KX.out.cell 5
  have g6 : wc.cell? ⟨w.heap.size, 6, none⟩ = some (.slice taw (askR st ⟨ok, of_, oc, od⟩).1.ws.length tkw) := KX.out.cell 6
  have g7 : wc.cell? ⟨w.heap.size, 7, none⟩ = some (.slice taa (askR st ⟨ok, of_, oc, od⟩).1.ans.length tka) := KX.out.cell 7
  have h0 : wc.cell? ⟨w.heap.size + 1 + 1 + 1 + 1, 0, none⟩ = some (.int .i64 (askR st ⟨ok, of_, oc, od⟩).2.1) := K6.out.cell 0
  have h1 : wc.cell? ⟨w.heap.size + 1 + 1 + 1 + 1, 1, none⟩ = some (.string ⟨#[]⟩) := K6.out.cell 1
  have h2 : wc.cell? ⟨w.heap.size + 1 + 1 + 1 + 1, 2, none⟩ = some (.int .i64 (askR st ⟨ok, of_, oc, od⟩).2.2) := K6.out.cell 2
  have h3 : wc.cell? ⟨w.heap.size + 1 + 1 + 1 + 1, 3, none⟩ = some (.slice none 0 0) := K6.out.cell 3
  have z0 : wc.cell? ⟨w.heap.size + 1 + 1, 0, none⟩ = some (.int .i64 0) := KZ.out.cell 0
  have z1 : wc.cell? ⟨w.heap.size + 1 + 1, 1, none⟩ = some (.slice none 0 0) := KZ.out.cell 1
  have z2 : wc.cell? ⟨w.heap.size + 1 + 1, 2, none⟩ = some (.slice none 0 0) := KZ.out.cell 2
  have z3 : wc.cell? ⟨w.heap.size + 1 + 1, 3, none⟩ = some (.bool false) := KZ.out.cell 3
  have z4 : wc.cell? ⟨w.heap.size + 1 + 1, 4, none⟩ = some (.bool false) := KZ.out.cell 4
  have z5 : wc.cell? ⟨w.heap.size + 1 + 1, 5, none⟩ = some (.int .i64 0) := KZ.out.cell 5
  have z6 : wc.cell? ⟨w.heap.size + 1 + 1, 6, none⟩ = some (.slice none 0 0) := KZ.out.cell 6
  have z7 : wc.cell? ⟨w.heap.size + 1 + 1, 7, none⟩ = some (.slice none 0 0) := KZ.out.cell 7
  have y0 : wc.cell? ⟨w.heap.size + 1 + 1 + 1, 0, none⟩ = some (.int .i64 0) := K5.out.cell 0
  have y1 : wc.cell? ⟨w.heap.size + 1 + 1 + 1, 1, none⟩ = some (.string ⟨#[]⟩) := K5.out.cell 1
  have y2 : wc.cell? ⟨w.heap.size + 1 + 1 + 1, 2, none⟩ = some (.int .i64 0) := K5.out.cell 2
  have y3 : wc.cell? ⟨w.heap.size + 1 + 1 + 1, 3, none⟩ = some (.slice none 0 0) := K5.out.cell 3
  have fz := fun i => KZ.out.frozen i
  have fy := fun i => K5.out.frozen i
  have nz1 : w.heap.size ≠ w.heap.size + 1 + 1 := by omega
  have nz2 : w.heap.size + 1 + 1 + 1 + 1 ≠ w.heap.size + 1 + 1 := by omega
  have nz3 : w.heap.size ≠ w.heap.size + 1 + 1 + 1 := by omega
  have nz4 : w.heap.size + 1 + 1 + 1 + 1 ≠ w.heap.size + 1 + 1 + 1 := by omega
  have nz5 : w.heap.size + 1 + 1 ≠ w.heap.size + 1 + 1 + 1 := by omega
  have nz6 : w.heap.size + 1 + 1 + 1 ≠ w.heap.size + 1 + 1 := by omega
  go_region
  all_goals
    obtain ⟨o1, o2, o3, o4⟩ := put8 KZ.out (.int .i64 (askR st ⟨ok, of_, oc, od⟩).1.limit) (.slice ta0 (askR st ⟨ok, of_, oc, od⟩).1.q0.length tk0) (.slice ta1 (askR st ⟨ok, of_, oc, od⟩).1.q1.length tk1) (.bool (askR st ⟨ok, of_, oc, od⟩).1.c0) (.bool (askR st ⟨ok, of_, oc, od⟩).1.c1) (.int .i64 (askR st ⟨ok, of_, oc, od⟩).1.tks) (.slice taw (askR st ⟨ok, of_, oc, od⟩).1.ws.length tkw) (.slice taa (askR st ⟨ok, of_, oc, od⟩).1.ans.length tka)
    obtain ⟨p1, p2, p3, p4⟩ := put4 (o4 K5.out nz6) (.int .i64 (askR st ⟨ok, of_, oc, od⟩).2.1) (.string ⟨#[]⟩) (.int .i64 (askR st ⟨ok, of_, oc, od⟩).2.2) (.slice none 0 0)
    have kz := (p4 o1 nz5).drew
    have k5 := p1.drew
    have r0 := (p2 (o2 MR.out.r0 (by decide)) (by decide)).drew
    have r1 := (p2 (o2 MR.out.r1 (by decide)) (by decide)).drew
    have r2 := (p2 (o2 MR.out.rw_ (by decide)) (by decide)).drew
    have r3 := (p2 (o2 MR.out.ra (by decide)) (by decide)).drew
    have ra := (p2 (o2 MW.out (by decide)) (by decide)).drew
    have rb := (p3 (o3 MB.out (show w.heap.size ≤ w.heap.size + 1 + 1 by omega)) (show w.heap.size ≤ w.heap.size + 1 + 1 + 1 by omega)).drew
    have ro := MR.out.o.to (p3 (o3 (Below.refl 0 _) (Nat.zero_le _)) (Nat.zero_le _)).drew.size
    clear o1 o2 o3 o4 p1 p2 p3 p4
    go_wp2_with fail
    exact bodyPost_ret (res60_47 rfl _ _ (w.heap.size + 1 + 1) (w.heap.size + 1 + 1 + 1) _ _ _ _ _ _ _ _ _ _ _ _ rfl rfl kz k5) rfl ⟨⟨.slice ta0 (askR st ⟨ok, of_, oc, od⟩).1.q0.length tk0, .slice ta1 (askR st ⟨ok, of_, oc, od⟩).1.q1.length tk1, .slice taw (askR st ⟨ok, of_, oc, od⟩).1.ws.length tkw, .slice taa (askR st ⟨ok, of_, oc, od⟩).1.ans.length tka⟩, .slice none 0 0, rfl, ⟨r0, r1, r2, r3, ro⟩, ra, rb⟩
set_option maxRecDepth 100000 in
set_option maxHeartbeats 3200000 in
theorem ref_read (t of_ oc : Int) (od : ByteArray) (hd : od.size ≤ 9000) {N : Nat} {l : Int} (S : Sl) (st : St) (hg : Rg N l st) (hN : N ≤ 880) (w : World) (hR : Ref F w S st) :
    Calls Try.prog 23 #[rpV S st, .agg #[.int .i64 1, .int .i64 t, .int .i64 0, .int .i64 of_, .int .i64 oc, .string od]] w (RefSays F w (onceR st ⟨0, of_, oc, od⟩).1 (onceR st ⟨0, of_, oc, od⟩).2.1 (onceR st ⟨0, of_, oc, od⟩).2.2.1 (onceR st ⟨0, of_, oc, od⟩).2.2.2 []) := by
  have C := Lib.hid (fun W (hb : Below w.heap.size w W) => rat_any ⟨0, of_, oc, od⟩ hd (N := N) (l := l) S st hg.G (by omega) hg.B W (hR.below hb))
  obtain ⟨za0, zk0, za1, zk1, zaw, zkw, zaa, zka, rfl⟩ := hR.open
  clear hR
  unfold rpV at *
  have BB0 := Lib.hid (show Below w.heap.size w ((((((w.alloc (.cells #[.int .i64 st.limit, .slice za0 st.q0.length zk0, .slice za1 st.q1.length zk1, .bool st.c0, .bool st.c1, .int .i64 st.tks, .slice zaw st.ws.length zkw, .slice zaa st.ans.length zka] 60)).alloc (.cells #[.int .i64 1, .int .i64 t, .int .i64 0, .int .i64 of_, .int .i64 oc, .string od] 44)).alloc (.cells #[.int .i64 0, .slice none 0 0, .slice none 0 0, .bool false, .bool false, .int .i64 0, .slice none 0 0, .slice none 0 0] 60)).alloc (.cells #[.int .i64 0, .string ⟨#[]⟩, .int .i64 0, .slice none 0 0] 47)).alloc (.cells #[.int .i64 0, .string ⟨#[]⟩, .int .i64 0, .slice none 0 0] 47)).alloc (.cells #[.int .i64 0, .int .i64 of_, .int .i64 oc, .string od] 107)) from ((((((Below.refl _ _).alloc (Nat.le_refl _) _).alloc (by simp) _).alloc (by simp; omega) _).alloc (by simp; omega) _).alloc (by simp; omega) _).alloc (by simp; omega) _)
  have KA0 := Lib.hid (show Blk ((((((w.alloc (.cells #[.int .i64 st.limit, .slice za0 st.q0.length zk0, .slice za1 st.q1.length zk1, .bool st.c0, .bool st.c1, .int .i64 st.tks, .slice zaw st.ws.length zkw, .slice zaa st.ans.length zka] 60)).alloc (.cells #[.int .i64 1, .int .i64 t, .int .i64 0, .int .i64 of_, .int .i64 oc, .string od] 44)).alloc (.cells #[.int .i64 0, .slice none 0 0, .slice none 0 0, .bool false, .bool false, .int .i64 0, .slice none 0 0, .slice none 0 0] 60)).alloc (.cells #[.int .i64 0, .string ⟨#[]⟩, .int .i64 0, .slice none 0 0] 47)).alloc (.cells #[.int .i64 0, .string ⟨#[]⟩, .int .i64 0, .slice none 0 0] 47)).alloc (.cells #[.int .i64 0, .int .i64 of_, .int .i64 oc, .string od] 107)) (w.heap.size) 60 [.int .i64 st.limit, .slice za0 st.q0.length zk0, .slice za1 st.q1.length zk1, .bool st.c0, .bool st.c1, .int .i64 st.tks, .slice zaw st.ws.length zkw, .slice zaa st.ans.length zka] from (((((Blk.new w 60 _).alloc _).alloc _).alloc _).alloc _).alloc _)
  have KT0 := Lib.hid (show Blk ((((((w.alloc (.cells #[.int .i64 st.limit, .slice za0 st.q0.length zk0, .slice za1 st.q1.length zk1, .bool st.c0, .bool st.c1, .int .i64 st.tks, .slice zaw st.ws.length zkw, .slice zaa st.ans.length zka] 60)).alloc (.cells #[.int .i64 1, .int .i64 t, .int .i64 0, .int .i64 of_, .int .i64 oc, .string od] 44)).alloc (.cells #[.int .i64 0, .slice none 0 0, .slice none 0 0, .bool false, .bool false, .int .i64 0, .slice none 0 0, .slice none 0 0] 60)).alloc (.cells #[.int .i64 0, .string ⟨#[]⟩, .int .i64 0, .slice none 0 0] 47)).alloc (.cells #[.int .i64 0, .string ⟨#[]⟩, .int .i64 0, .slice none 0 0] 47)).alloc (.cells #[.int .i64 0, .int .i64 of_, .int .i64 oc, .string od] 107)) (w.heap.size + 1) 44 [.int .i64 1, .int .i64 t, .int .i64 0, .int .i64 of_, .int .i64 oc, .string od] from ((((blk_at (by simp) 44 [_, _, _, _, _, _]).alloc _).alloc _).alloc _).alloc _)
  have KZ0 := Lib.hid (show Blk ((((((w.alloc (.cells #[.int .i64 st.limit, .slice za0 st.q0.length zk0, .slice za1 st.q1.length zk1, .bool st.c0, .bool st.c1, .int .i64 st.tks, .slice zaw st.ws.length zkw, .slice zaa st.ans.length zka] 60)).alloc (.cells #[.int .i64 1, .int .i64 t, .int .i64 0, .int .i64 of_, .int .i64 oc, .string od] 44)).alloc (.cells #[.int .i64 0, .slice none 0 0, .slice none 0 0, .bool false, .bool false, .int .i64 0, .slice none 0 0, .slice none 0 0] 60)).alloc (.cells #[.int .i64 0, .string ⟨#[]⟩, .int .i64 0, .slice none 0 0] 47)).alloc (.cells #[.int .i64 0, .string ⟨#[]⟩, .int .i64 0, .slice none 0 0] 47)).alloc (.cells #[.int .i64 0, .int .i64 of_, .int .i64 oc, .string od] 107)) (w.heap.size + 1 + 1) 60 [.int .i64 0, .slice none 0 0, .slice none 0 0, .bool false, .bool false, .int .i64 0, .slice none 0 0, .slice none 0 0] from (((blk_at (by simp) 60 [_, _, _, _, _, _, _, _]).alloc _).alloc _).alloc _)
  have K50 := Lib.hid (show Blk ((((((w.alloc (.cells #[.int .i64 st.limit, .slice za0 st.q0.length zk0, .slice za1 st.q1.length zk1, .bool st.c0, .bool st.c1, .int .i64 st.tks, .slice zaw st.ws.length zkw, .slice zaa st.ans.length zka] 60)).alloc (.cells #[.int .i64 1, .int .i64 t, .int .i64 0, .int .i64 of_, .int .i64 oc, .string od] 44)).alloc (.cells #[.int .i64 0, .slice none 0 0, .slice none 0 0, .bool false, .bool false, .int .i64 0, .slice none 0 0, .slice none 0 0] 60)).alloc (.cells #[.int .i64 0, .string ⟨#[]⟩, .int .i64 0, .slice none 0 0] 47)).alloc (.cells #[.int .i64 0, .string ⟨#[]⟩, .int .i64 0, .slice none 0 0] 47)).alloc (.cells #[.int .i64 0, .int .i64 of_, .int .i64 oc, .string od] 107)) (w.heap.size + 1 + 1 + 1) 47 [.int .i64 0, .string ⟨#[]⟩, .int .i64 0, .slice none 0 0] from ((blk_at (by simp) 47 [_, _, _, _]).alloc _).alloc _)
  have K60 := Lib.hid (show Blk ((((((w.alloc (.cells #[.int .i64 st.limit, .slice za0 st.q0.length zk0, .slice za1 st.q1.length zk1, .bool st.c0, .bool st.c1, .int .i64 st.tks, .slice zaw st.ws.length zkw, .slice zaa st.ans.length zka] 60)).alloc (.cells #[.int .i64 1, .int .i64 t, .int .i64 0, .int .i64 of_, .int .i64 oc, .string od] 44)).alloc (.cells #[.int .i64 0, .slice none 0 0, .slice none 0 0, .bool false, .bool false, .int .i64 0, .slice none 0 0, .slice none 0 0] 60)).alloc (.cells #[.int .i64 0, .string ⟨#[]⟩, .int .i64 0, .slice none 0 0] 47)).alloc (.cells #[.int .i64 0, .string ⟨#[]⟩, .int .i64 0, .slice none 0 0] 47)).alloc (.cells #[.int .i64 0, .int .i64 of_, .int .i64 oc, .string od] 107)) (w.heap.size + 1 + 1 + 1 + 1) 47 [.int .i64 0, .string ⟨#[]⟩, .int .i64 0, .slice none 0 0] from (blk_at (by simp) 47 [_, _, _, _]).alloc _)
  have K70 := Lib.hid (show Blk ((((((w.alloc (.cells #[.int .i64 st.limit, .slice za0 st.q0.length zk0, .slice za1 st.q1.length zk1, .bool st.c0, .bool st.c1, .int .i64 st.tks, .slice zaw st.ws.length zkw, .slice zaa st.ans.length zka] 60)).alloc (.cells #[.int .i64 1, .int .i64 t, .int .i64 0, .int .i64 of_, .int .i64 oc, .string od] 44)).alloc (.cells #[.int .i64 0, .slice none 0 0, .slice none 0 0, .bool false, .bool false, .int .i64 0, .slice none 0 0, .slice none 0 0] 60)).alloc (.cells #[.int .i64 0, .string ⟨#[]⟩, .int .i64 0, .slice none 0 0] 47)).alloc (.cells #[.int .i64 0, .string ⟨#[]⟩, .int .i64 0, .slice none 0 0] 47)).alloc (.cells #[.int .i64 0, .int .i64 of_, .int .i64 oc, .string od] 107)) (w.heap.size + 1 + 1 + 1 + 1 + 1) 107 [.int .i64 0, .int .i64 of_, .int .i64 oc, .string od] from blk_at (by simp) 107 [_, _, _, _])
  go_enter Try.func23, Try.ntmps23
  go_upto_region 31 with (go_at_call 45; refine (C.out _ BB0.out).mono ?_; rintro e v1 ⟨S1, he1, R1, hb⟩; obtain ⟨ta0, tk0, ta1, tk1, taw, tkw, taa, tka, rfl⟩ := R1.open; (try unfold rpV at he1); (try dsimp only at he1); subst he1; have HR1 := Lib.hid R1; have BB1 := Lib.hid (keepBelow BB0.out hb); have KA1 := Lib.hid (keepBlk hb KA0.out); have a0 : v1.cell? ⟨w.heap.size, 0, none⟩ = some (.int .i64 st.limit) := KA1.out.cell 0; have a1 : v1.cell? ⟨w.heap.size, 1, none⟩ = some (.slice za0 st.q0.length zk0) := KA1.out.cell 1; have a2 : v1.cell? ⟨w.heap.size, 2, none⟩ = some (.slice za1 st.q1.length zk1) := KA1.out.cell 2; have a3 : v1.cell? ⟨w.heap.size, 3, none⟩ = some (.bool st.c0) := KA1.out.cell 3; have a4 : v1.cell? ⟨w.heap.size, 4, none⟩ = some (.bool st.c1) := KA1.out.cell 4; have a5 : v1.cell? ⟨w.heap.size, 5, none⟩ = some (.int .i64 st.tks) := KA1.out.cell 5; have a6 : v1.cell? ⟨w.heap.size, 6, none⟩ = some (.slice zaw st.ws.length zkw) := KA1.out.cell 6; have a7 : v1.cell? ⟨w.heap.size, 7, none⟩ = some (.slice zaa st.ans.length zka) := KA1.out.cell 7; have K61 := Lib.hid (keepBlk hb K60.out); have d0 : v1.cell? ⟨w.heap.size + 1 + 1 + 1 + 1, 0, none⟩ = some (.int .i64 0) := K61.out.cell 0; have d1 : v1.cell? ⟨w.heap.size + 1 + 1 + 1 + 1, 1, none⟩ = some (.string ⟨#[]⟩) := K61.out.cell 1; have d2 : v1.cell? ⟨w.heap.size + 1 + 1 + 1 + 1, 2, none⟩ = some (.int .i64 0) := K61.out.cell 2; have d3 : v1.cell? ⟨w.heap.size + 1 + 1 + 1 + 1, 3, none⟩ = some (.slice none 0 0) := K61.out.cell 3; have KZ1 := Lib.hid (keepBlk hb KZ0.out); have K51 := Lib.hid (keepBlk hb K50.out); have fA1 := fun i => KA1.out.frozen i; have f61 := fun i => K61.out.frozen i; clear hb R1)
  refine gen_world (fun wx => Mid F w ⟨.slice ta0 (onceR st ⟨0, of_, oc, od⟩).1.q0.length tk0, .slice ta1 (onceR st ⟨0, of_, oc, od⟩).1.q1.length tk1, .slice taw (onceR st ⟨0, of_, oc, od⟩).1.ws.length tkw, .slice taa (onceR st ⟨0, of_, oc, od⟩).1.ans.length tka⟩ (onceR st ⟨0, of_, oc, od⟩).1 (onceR st ⟨0, of_, oc, od⟩).2.1 (onceR st ⟨0, of_, oc, od⟩).2.2.1 (onceR st ⟨0, of_, oc, od⟩).2.2.2 (.slice none 0 0) [] wx) ?_ (fun wc hcut => ?_)
  · obtain ⟨o1, o2, o3, o4⟩ := put8 KA1.out (.int .i64 (onceR st ⟨0, of_, oc, od⟩).1.limit) (.slice ta0 (onceR st ⟨0, of_, oc, od⟩).1.q0.length tk0) (.slice ta1 (onceR st ⟨0, of_, oc, od⟩).1.q1.length tk1) (.bool (onceR st ⟨0, of_, oc, od⟩).1.c0) (.bool (onceR st ⟨0, of_, oc, od⟩).1.c1) (.int .i64 (onceR st ⟨0, of_, oc, od⟩).1.tks) (.slice taw (onceR st ⟨0, of_, oc, od⟩).1.ws.length tkw) (.slice taa (onceR st ⟨0, of_, oc, od⟩).1.ans.length tka)
    have q6 := o4 K61.out (show w.heap.size + 1 + 1 + 1 + 1 ≠ w.heap.size by omega)
    exact ⟨(((o1.far (p := ⟨w.heap.size + 1 + 1 + 1 + 1, 1, none⟩) (show w.heap.size ≠ w.heap.size + 1 + 1 + 1 + 1 by omega) _).far (p := ⟨w.heap.size + 1 + 1 + 1 + 1, 0, none⟩) (show w.heap.size ≠ w.heap.size + 1 + 1 + 1 + 1 by omega) _).far (p := ⟨w.heap.size + 1 + 1 + 1 + 1, 2, none⟩) (show w.heap.size ≠ w.heap.size + 1 + 1 + 1 + 1 by omega) _), (((q6.set_ 1 _).set_ 0 _).set_ 2 _), ((((o4 KZ1.out (show w.heap.size + 1 + 1 ≠ w.heap.size by omega)).far (p := ⟨w.heap.size + 1 + 1 + 1 + 1, 1, none⟩) (show w.heap.size + 1 + 1 ≠ w.heap.size + 1 + 1 + 1 + 1 by omega) _).far (p := ⟨w.heap.size + 1 + 1 + 1 + 1, 0, none⟩) (show w.heap.size + 1 + 1 ≠ w.heap.size + 1 + 1 + 1 + 1 by omega) _).far (p := ⟨w.heap.size + 1 + 1 + 1 + 1, 2, none⟩) (show w.heap.size + 1 + 1 ≠ w.heap.size + 1 + 1 + 1 + 1 by omega) _), ((((o4 K51.out (show w.heap.size + 1 + 1 + 1 ≠ w.heap.size by omega)).far (p := ⟨w.heap.size + 1 + 1 + 1 + 1, 1, none⟩) (show w.heap.size + 1 + 1 + 1 ≠ w.heap.size + 1 + 1 + 1 + 1 by omega) _).far (p := ⟨w.heap.size + 1 + 1 + 1 + 1, 0, none⟩) (show w.heap.size + 1 + 1 + 1 ≠ w.heap.size + 1 + 1 + 1 + 1 by omega) _).far (p := ⟨w.heap.size + 1 + 1 + 1 + 1, 2, none⟩) (show w.heap.size + 1 + 1 + 1 ≠ w.heap.size + 1 + 1 + 1 + 1 by omega) _), ((((Ref.mk (S := ⟨.slice ta0 (onceR st ⟨0, of_, oc, od⟩).1.q0.length tk0, .slice ta1 (onceR st ⟨0, of_, oc, od⟩).1.q1.length tk1, .slice taw (onceR st ⟨0, of_, oc, od⟩).1.ws.length tkw, .slice taa (onceR st ⟨0, of_, oc, od⟩).1.ans.length tka⟩) (st := (onceR st ⟨0, of_, oc, od⟩).1) (o2 HR1.out.r0 (by decide)) (o2 HR1.out.r1 (by decide)) (o2 HR1.out.rw_ (by decide)) (o2 HR1.out.ra (by decide)) (HR1.out.o.to (o3 (Below.refl 0 _) (Nat.zero_le _)).size)).set47 (i := 1) q6 _).set47 (i := 0) (q6.set_ 1 _) _).set47 (i := 2) ((q6.set_ 1 _).set_ 0 _) _), Row.nil _ _ _, ((((o3 BB1.out (Nat.le_refl _)).setCell (p := ⟨w.heap.size + 1 + 1 + 1 + 1, 1, none⟩) (show w.heap.size ≤ w.heap.size + 1 + 1 + 1 + 1 by omega) _).setCell (p := ⟨w.heap.size + 1 + 1 + 1 + 1, 0, none⟩) (show w.heap.size ≤ w.heap.size + 1 + 1 + 1 + 1 by omega) _).setCell (p := ⟨w.heap.size + 1 + 1 + 1 + 1, 2, none⟩) (show w.heap.size ≤ w.heap.size + 1 + 1 + 1 + 1 by omega) _)⟩
  obtain ⟨hx, h6, hz, h5, hr, hw, hb⟩ := hcut
  have KX := Lib.hid hx
  have K6 := Lib.hid h6
  have KZ := Lib.hid hz
  have K5 := Lib.hid h5
  have MR := Lib.hid hr
  have MW := Lib.hid hw
  have MB := Lib.hid hb
  clear hx h6 hz h5 hr hw hb
  have g0 : wc.cell? ⟨w.heap.size, 0, none⟩ = some (.int .i64 (onceR st ⟨0, of_, oc, od⟩).1.limit) := KX.out.cell 0
  have g1 : wc.cell? ⟨w.heap.size, 1, none⟩ = some (.slice ta0 (onceR st ⟨0, of_, oc, od⟩).1.q0.length tk0) := KX.out.cell 1
  have g2 : wc.cell? ⟨w.heap.size, 2, none⟩ = some (.slice ta1 (onceR st ⟨0, of_, oc, od⟩).1.q1.length tk1) := KX.out.cell 2
  have g3 : wc.cell? ⟨w.heap.size, 3, none⟩ = some (.bool (onceR st ⟨0, of_, oc, od⟩).1.c0) := KX.out.cell 3
  have g4 : wc.cell? ⟨w.heap.size, 4, none⟩ = some (.bool (onceR st ⟨0, of_, oc, od⟩).1.c1) := KX.out.cell 4
  have g5 : wc.cell? ⟨w.heap.size, 5, none⟩ = some (.int .i64 (onceR st ⟨0, of_, oc, od⟩).1.tks) := KX.out.cell 5
  have g6 : wc.cell? ⟨w.heap.size, 6, none⟩ = some (.slice taw (onceR st ⟨0, of_, oc, od⟩).1.ws.length tkw) := KX.out.cell 6
  have g7 : wc.cell? ⟨w.heap.size, 7, none⟩ = some (.slice taa (onceR st ⟨0, of_, oc, od⟩).1.ans.length tka) := KX.out.cell 7
  have h0 : wc.cell? ⟨w.heap.size + 1 + 1 + 1 + 1, 0, none⟩ = some (.int .i64 (onceR st ⟨0, of_, oc, od⟩).2.1) := K6.out.cell 0
  have h1 : wc.cell? ⟨w.heap.size + 1 + 1 + 1 + 1, 1, none⟩ = some (.string (onceR st ⟨0, of_, oc, od⟩).2.2.1) := K6.out.cell 1
  have h2 : wc.cell? ⟨w.heap.size + 1 + 1 + 1 + 1, 2, none⟩ = some (.int .i64 (onceR st ⟨0, of_, oc, od⟩).2.2.2) := K6.out.cell 2
  have h3 : wc.cell? ⟨w.heap.size + 1 + 1 + 1 + 1, 3, none⟩ = some (.slice none 0 0) := K6.out.cell 3
  have z0 : wc.cell? ⟨w.heap.size + 1 + 1, 0, none⟩ = some (.int .i64 0) := KZ.out.cell 0
  have z1 : wc.cell? ⟨w.heap.size + 1 + 1, 1, none⟩ = some (.slice none 0 0) := KZ.out.cell 1
  have z2 : wc.cell? ⟨w.heap.size + 1 + 1, 2, none⟩ = some (.slice none 0 0) := KZ.out.cell 2
  have z3 : wc.cell? ⟨w.heap.size + 1 + 1, 3, none⟩ = some (.bool false) := KZ.out.cell 3
  have z4 : wc.cell? ⟨w.heap.size + 1 + 1, 4, none⟩ = some (.bool false) := KZ.out.cell 4
  have z5 : wc.cell? ⟨w.heap.size + 1 + 1, 5, none⟩ = some (.int .i64 0) := KZ.out.cell 5
  have z6 : wc.cell? ⟨w.heap.size + 1 + 1, 6, none⟩ = some (.slice none 0 0) := KZ.out.cell 6
  have z7 : wc.cell? ⟨w.heap.size + 1 + 1, 7, none⟩ = some (.slice none 0 0) := KZ.out.cell 7
  have y0 : wc.cell? ⟨w.heap.size + 1 + 1 + 1, 0, none⟩ = some (.int .i64 0) := K5.out.cell 0
  have y1 : wc.cell? ⟨w.heap.size + 1 + 1 + 1, 1, none⟩ = some (.string ⟨#[]⟩) := K5.out.cell 1
  have y2 : wc.cell? ⟨w.heap.size + 1 + 1 + 1, 2, none⟩ = some (.int .i64 0) := K5.out.cell 2
  have y3 : wc.cell? ⟨w.heap.size + 1 + 1 + 1, 3, none⟩ = some (.slice none 0 0) := K5.out.cell 3
  have fz := fun i => KZ.out.frozen i
  have fy := fun i => K5.out.frozen i
  have nz1 : w.heap.size ≠ w.heap.size + 1 + 1 := by omega
  have nz2 : w.heap.size + 1 + 1 + 1 + 1 ≠ w.heap.size + 1 + 1 := by omega
  have nz3 : w.heap.size ≠ w.heap.size + 1 + 1 + 1 := by omega
  have nz4 : w.heap.size + 1 + 1 + 1 + 1 ≠ w.heap.size + 1 + 1 + 1 := by omega
  have nz5 : w.heap.size + 1 + 1 ≠ w.heap.size + 1 + 1 + 1 := by omega
  have nz6 : w.heap.size + 1 + 1 + 1 ≠ w.heap.size + 1 + 1 := by omega
  go_region
  all_goals
    obtain ⟨o1, o2, o3, o4⟩ := put8 KZ.out (.int .i64 (onceR st ⟨0, of_, oc, od⟩).1.limit) (.slice ta0 (onceR st ⟨0, of_, oc, od⟩).1.q0.length tk0) (.slice ta1 (onceR st ⟨0, of_, oc, od⟩).1.q1.length tk1) (.bool (onceR st ⟨0, of_, oc, od⟩).1.c0) (.bool (onceR st ⟨0, of_, oc, od⟩).1.c1) (.int .i64 (onceR st ⟨0, of_, oc, od⟩).1.tks) (.slice taw (onceR st ⟨0, of_, oc, od⟩).1.ws.length tkw) (.slice taa (onceR st ⟨0, of_, oc, od⟩).1.ans.length tka)
    obtain ⟨p1, p2, p3, p4⟩ := put4 (o4 K5.out nz6) (.int .i64 (onceR st ⟨0, of_, oc, od⟩).2.1) (.string (onceR st ⟨0, of_, oc, od⟩).2.2.1) (.int .i64 (onceR st ⟨0, of_, oc, od⟩).2.2.2) (.slice none 0 0)
    have kz := (p4 o1 nz5).drew
    have k5 := p1.drew
    have r0 := (p2 (o2 MR.out.r0 (by decide)) (by decide)).drew
    have r1 := (p2 (o2 MR.out.r1 (by decide)) (by decide)).drew
    have r2 := (p2 (o2 MR.out.rw_ (by decide)) (by decide)).drew
    have r3 := (p2 (o2 MR.out.ra (by decide)) (by decide)).drew
    have ra := (p2 (o2 MW.out (by decide)) (by decide)).drew
    have rb := (p3 (o3 MB.out (show w.heap.size ≤ w.heap.size + 1 + 1 by omega)) (show w.heap.size ≤ w.heap.size + 1 + 1 + 1 by omega)).drew
    have ro := MR.out.o.to (p3 (o3 (Below.refl 0 _) (Nat.zero_le _)) (Nat.zero_le _)).drew.size
    clear o1 o2 o3 o4 p1 p2 p3 p4
    go_wp2_with fail
    exact bodyPost_ret (res60_47 rfl _ _ (w.heap.size + 1 + 1) (w.heap.size + 1 + 1 + 1) _ _ _ _ _ _ _ _ _ _ _ _ rfl rfl kz k5) rfl ⟨⟨.slice ta0 (onceR st ⟨0, of_, oc, od⟩).1.q0.length tk0, .slice ta1 (onceR st ⟨0, of_, oc, od⟩).1.q1.length tk1, .slice taw (onceR st ⟨0, of_, oc, od⟩).1.ws.length tkw, .slice taa (onceR st ⟨0, of_, oc, od⟩).1.ans.length tka⟩, .slice none 0 0, rfl, ⟨r0, r1, r2, r3, ro⟩, ra, rb⟩
set_option maxRecDepth 100000 in
set_option maxHeartbeats 3200000 in
theorem ref_write (t ok of_ oc : Int) (od : ByteArray) (hd : od.size ≤ 9000) (hok : (ok != 0) = true) {N : Nat} {l : Int} (S : Sl) (st : St) (hg : Rg N l st) (hN : N ≤ 880) (w : World) (hR : Ref F w S st) :
    Calls Try.prog 23 #[rpV S st, .agg #[.int .i64 1, .int .i64 t, .int .i64 ok, .int .i64 of_, .int .i64 oc, .string od]] w (RefSays F w (onceR st ⟨1, of_, oc, od⟩).1 (onceR st ⟨1, of_, oc, od⟩).2.1 (onceR st ⟨1, of_, oc, od⟩).2.2.1 (onceR st ⟨1, of_, oc, od⟩).2.2.2 []) := by
  have C := Lib.hid (fun W (hb : Below w.heap.size w W) => rat_any ⟨1, of_, oc, od⟩ hd (N := N) (l := l) S st hg.G (by omega) hg.B W (hR.below hb))
  obtain ⟨za0, zk0, za1, zk1, zaw, zkw, zaa, zka, rfl⟩ := hR.open
  clear hR
  unfold rpV at *
  have BB0 := Lib.hid (show Below w.heap.size w ((((((w.alloc (.cells #[.int .i64 st.limit, .slice za0 st.q0.length zk0, .slice za1 st.q1.length zk1, .bool st.c0, .bool st.c1, .int .i64 st.tks, .slice zaw st.ws.length zkw, .slice zaa st.ans.length zka] 60)).alloc (.cells #[.int .i64 1, .int .i64 t, .int .i64 ok, .int .i64 of_, .int .i64 oc, .string od] 44)).alloc (.cells #[.int .i64 0, .slice none 0 0, .slice none 0 0, .bool false, .bool false, .int .i64 0, .slice none 0 0, .slice none 0 0] 60)).alloc (.cells #[.int .i64 0, .string ⟨#[]⟩, .int .i64 0, .slice none 0 0] 47)).alloc (.cells #[.int .i64 0, .string ⟨#[]⟩, .int .i64 0, .slice none 0 0] 47)).alloc (.cells #[.int .i64 1, .int .i64 of_, .int .i64 oc, .string od] 107)) from ((((((Below.refl _ _).alloc (Nat.le_refl _) _).alloc (by simp) _).alloc (by simp; omega) _).alloc (by simp; omega) _).alloc (by simp; omega) _).alloc (by simp; omega) _)
  have KA0 := Lib.hid (show Blk ((((((w.alloc (.cells #[.int .i64 st.limit, .slice za0 st.q0.length zk0, .slice za1 st.q1.length zk1, .bool st.c0, .bool st.c1, .int .i64 st.tks, .slice zaw st.ws.length zkw, .slice zaa st.ans.length zka] 60)).alloc (.cells #[.int .i64 1, .int .i64 t, .int .i64 ok, .int .i64 of_, .int .i64 oc, .string od] 44)).alloc (.cells #[.int .i64 0, .slice none 0 0, .slice none 0 0, .bool false, .bool false, .int .i64 0, .slice none 0 0, .slice none 0 0] 60)).alloc (.cells #[.int .i64 0, .string ⟨#[]⟩, .int .i64 0, .slice none 0 0] 47)).alloc (.cells #[.int .i64 0, .string ⟨#[]⟩, .int .i64 0, .slice none 0 0] 47)).alloc (.cells #[.int .i64 1, .int .i64 of_, .int .i64 oc, .string od] 107)) (w.heap.size) 60 [.int .i64 st.limit, .slice za0 st.q0.length zk0, .slice za1 st.q1.length zk1, .bool st.c0, .bool st.c1, .int .i64 st.tks, .slice zaw st.ws.length zkw, .slice zaa st.ans.length zka] from (((((Blk.new w 60 _).alloc _).alloc _).alloc _).alloc _).alloc _)
  have KT0 := Lib.hid (show Blk ((((((w.alloc (.cells #[.int .i64 st.limit, .slice za0 st.q0.length zk0, .slice za1 st.q1.length zk1, .bool st.c0, .bool st.c1, .int .i64 st.tks, .slice zaw st.ws.length zkw, .slice zaa st.ans.length zka] 60)).alloc (.cells #[.int .i64 1, .int .i64 t, .int .i64 ok, .int .i64 of_, .int .i64 oc, .string od] 44)).alloc (.cells #[.int .i64 0, .slice none 0 0, .slice none 0 0, .bool false, .bool false, .int .i64 0, .slice none 0 0, .slice none 0 0] 60)).alloc (.cells #[.int .i64 0, .string ⟨#[]⟩, .int .i64 0, .slice none 0 0] 47)).alloc (.cells #[.int .i64 0, .string ⟨#[]⟩, .int .i64 0, .slice none 0 0] 47)).alloc (.cells #[.int .i64 1, .int .i64 of_, .int .i64 oc, .string od] 107)) (w.heap.size + 1) 44 [.int .i64 1, .int .i64 t, .int .i64 ok, .int .i64 of_, .int .i64 oc, .string od] from ((((blk_at (by simp) 44 [_, _, _, _, _, _]).alloc _).alloc _).alloc _).alloc _)
  have KZ0 := Lib.hid (show Blk ((((((w.alloc (.cells #[.int .i64 st.limit, .slice za0 st.q0.length zk0, .slice za1 st.q1.length zk1, .bool st.c0, .bool st.c1, .int .i64 st.tks, .slice zaw st.ws.length zkw, .slice zaa st.ans.length zka] 60)).alloc (.cells #[.int .i64 1, .int .i64 t, .int .i64 ok, .int .i64 of_, .int .i64 oc, .string od] 44)).alloc (.cells #[.int .i64 0, .slice none 0 0, .slice none 0 0, .bool false, .bool false, .int .i64 0, .slice none 0 0, .slice none 0 0] 60)).alloc (.cells #[.int .i64 0, .string ⟨#[]⟩, .int .i64 0, .slice none 0 0] 47)).alloc (.cells #[.int .i64 0, .string ⟨#[]⟩, .int .i64 0, .slice none 0 0] 47)).alloc (.cells #[.int .i64 1, .int .i64 of_, .int .i64 oc, .string od] 107)) (w.heap.size + 1 + 1) 60 [.int .i64 0, .slice none 0 0, .slice none 0 0, .bool false, .bool false, .int .i64 0, .slice none 0 0, .slice none 0 0] from (((blk_at (by simp) 60 [_, _, _, _, _, _, _, _]).alloc _).alloc _).alloc _)
  have K50 := Lib.hid (show Blk ((((((w.alloc (.cells #[.int .i64 st.limit, .slice za0 st.q0.length zk0, .slice za1 st.q1.length zk1, .bool st.c0, .bool st.c1, .int .i64 st.tks, .slice zaw st.ws.length zkw, .slice zaa st.ans.length zka] 60)).alloc (.cells #[.int .i64 1, .int .i64 t, .int .i64 ok, .int .i64 of_, .int .i64 oc, .string od] 44)).alloc (.cells #[.int .i64 0, .slice none 0 0, .slice none 0 0, .bool false, .bool false, .int .i64 0, .slice none 0 0, .slice none 0 0] 60)).alloc (.cells #[.int .i64 0, .string ⟨#[]⟩, .int .i64 0, .slice none 0 0] 47)).alloc (.cells #[.int .i64 0, .string ⟨#[]⟩, .int .i64 0, .slice none 0 0] 47)).alloc (.cells #[.int .i64 1, .int .i64 of_, .int .i64 oc, .string od] 107)) (w.heap.size + 1 + 1 + 1) 47 [.int .i64 0, .string ⟨#[]⟩, .int .i64 0, .slice none 0 0] from ((blk_at (by simp) 47 [_, _, _, _]).alloc _).alloc _)
  have K60 := Lib.hid (show Blk ((((((w.alloc (.cells #[.int .i64 st.limit, .slice za0 st.q0.length zk0, .slice za1 st.q1.length zk1, .bool st.c0, .bool st.c1, .int .i64 st.tks, .slice zaw st.ws.length zkw, .slice zaa st.ans.length zka] 60)).alloc (.cells #[.int .i64 1, .int .i64 t, .int .i64 ok, .int .i64 of_, .int .i64 oc, .string od] 44)).alloc (.cells #[.int .i64 0, .slice none 0 0, .slice none 0 0, .bool false, .bool false, .int .i64 0, .slice none 0 0, .slice none 0 0] 60)).alloc (.cells #[.int .i64 0, .string ⟨#[]⟩, .int .i64 0, .slice none 0 0] 47)).alloc (.cells #[.int .i64 0, .string ⟨#[]⟩, .int .i64 0, .slice none 0 0] 47)).alloc (.cells #[.int .i64 1, .int .i64 of_, .int .i64 oc, .string od] 107)) (w.heap.size + 1 + 1 + 1 + 1) 47 [.int .i64 0, .string ⟨#[]⟩, .int .i64 0, .slice none 0 0] from (blk_at (by simp) 47 [_, _, _, _]).alloc _)
  have K70 := Lib.hid (show Blk ((((((w.alloc (.cells #[.int .i64 st.limit, .slice za0 st.q0.length zk0, .slice za1 st.q1.length zk1, .bool st.c0, .bool st.c1, .int .i64 st.tks, .slice zaw st.ws.length zkw, .slice zaa st.ans.length zka] 60)).alloc (.cells #[.int .i64 1, .int .i64 t, .int .i64 ok, .int .i64 of_, .int .i64 oc, .string od] 44)).alloc (.cells #[.int .i64 0, .slice none 0 0, .slice none 0 0, .bool false, .bool false, .int .i64 0, .slice none 0 0, .slice none 0 0] 60)).alloc (.cells #[.int .i64 0, .string ⟨#[]⟩, .int .i64 0, .slice none 0 0] 47)).alloc (.cells #[.int .i64 0, .string ⟨#[]⟩, .int .i64 0, .slice none 0 0] 47)).alloc (.cells #[.int .i64 1, .int .i64 of_, .int .i64 oc, .string od] 107)) (w.heap.size + 1 + 1 + 1 + 1 + 1) 107 [.int .i64 1, .int .i64 of_, .int .i64 oc, .string od] from blk_at (by simp) 107 [_, _, _, _])
  go_enter Try.func23, Try.ntmps23
  go_upto_region 31 with (go_at_call 45; refine (C.out _ BB0.out).mono ?_; rintro e v1 ⟨S1, he1, R1, hb⟩; obtain ⟨ta0, tk0, ta1, tk1, taw, tkw, taa, tka, rfl⟩ := R1.open; (try unfold rpV at he1); (try dsimp only at he1); subst he1; have HR1 := Lib.hid R1; have BB1 := Lib.hid (keepBelow BB0.out hb); have KA1 := Lib.hid (keepBlk hb KA0.out); have a0 : v1.cell? ⟨w.heap.size, 0, none⟩ = some (.int .i64 st.limit) := KA1.out.cell 0; have a1 : v1.cell? ⟨w.heap.size, 1, none⟩ = some (.slice za0 st.q0.length zk0) := KA1.out.cell 1; have a2 : v1.cell? ⟨w.heap.size, 2, none⟩ = some (.slice za1 st.q1.length zk1) := KA1.out.cell 2; have a3 : v1.cell? ⟨w.heap.size, 3, none⟩ = some (.bool st.c0) := KA1.out.cell 3; have a4 : v1.cell? ⟨w.heap.size, 4, none⟩ = some (.bool st.c1) := KA1.out.cell 4; have a5 : v1.cell? ⟨w.heap.size, 5, none⟩ = some (.int .i64 st.tks) := KA1.out.cell 5; have a6 : v1.cell? ⟨w.heap.size, 6, none⟩ = some (.slice zaw st.ws.length zkw) := KA1.out.cell 6; have a7 : v1.cell? ⟨w.heap.size, 7, none⟩ = some (.slice zaa st.ans.length zka) := KA1.out.cell 7; have K61 := Lib.hid (keepBlk hb K60.out); have d0 : v1.cell? ⟨w.heap.size + 1 + 1 + 1 + 1, 0, none⟩ = some (.int .i64 0) := K61.out.cell 0; have d1 : v1.cell? ⟨w.heap.size + 1 + 1 + 1 + 1, 1, none⟩ = some (.string ⟨#[]⟩) := K61.out.cell 1; have d2 : v1.cell? ⟨w.heap.size + 1 + 1 + 1 + 1, 2, none⟩ = some (.int .i64 0) := K61.out.cell 2; have d3 : v1.cell? ⟨w.heap.size + 1 + 1 + 1 + 1, 3, none⟩ = some (.slice none 0 0) := K61.out.cell 3; have KZ1 := Lib.hid (keepBlk hb KZ0.out); have K51 := Lib.hid (keepBlk hb K50.out); have fA1 := fun i => KA1.out.frozen i; have f61 := fun i => K61.out.frozen i; clear hb R1)
  refine gen_world (fun wx => Mid F w ⟨.slice ta0 (onceR st ⟨1, of_, oc, od⟩).1.q0.length tk0, .slice ta1 (onceR st ⟨1, of_, oc, od⟩).1.q1.length tk1, .slice taw (onceR st ⟨1, of_, oc, od⟩).1.ws.length tkw, .slice taa (onceR st ⟨1, of_, oc, od⟩).1.ans.length tka⟩ (onceR st ⟨1, of_, oc, od⟩).1 (onceR st ⟨1, of_, oc, od⟩).2.1 (onceR st ⟨1, of_, oc, od⟩).2.2.1 (onceR st ⟨1, of_, oc, od⟩).2.2.2 (.slice none 0 0) [] wx) ?_ (fun wc hcut => ?_)
  · obtain ⟨o1, o2, o3, o4⟩ := put8 KA1.out (.int .i64 (onceR st ⟨1, of_, oc, od⟩).1.limit) (.slice ta0 (onceR st ⟨1, of_, oc, od⟩).1.q0.length tk0) (.slice ta1 (onceR st ⟨1, of_, oc, od⟩).1.q1.length tk1) (.bool (onceR st ⟨1, of_, oc, od⟩).1.c0) (.bool (onceR st ⟨1, of_, oc, od⟩).1.c1) (.int .i64 (onceR st ⟨1, of_, oc, od⟩).1.tks) (.slice taw (onceR st ⟨1, of_, oc, od⟩).1.ws.length tkw) (.slice taa (onceR st ⟨1, of_, oc, od⟩).1.ans.length tka)
    have q6 := o4 K61.out (show w.heap.size + 1 + 1 + 1 + 1 ≠ w.heap.size by omega)
    exact ⟨(((o1.far (p := ⟨w.heap.size + 1 + 1 + 1 + 1, 1, none⟩) (show w.heap.size ≠ w.heap.size + 1 + 1 + 1 + 1 by omega) _).far (p := ⟨w.heap.size + 1 + 1 + 1 + 1, 0, none⟩) (show w.heap.size ≠ w.heap.size + 1 + 1 + 1 + 1 by omega) _).far (p := ⟨w.heap.size + 1 + 1 + 1 + 1, 2, none⟩) (show w.heap.size ≠ w.heap.size + 1 + 1 + 1 + 1 by omega) _), (((q6.set_ 1 _).set_ 0 _).set_ 2 _), ((((o4 KZ1.out (show w.heap.size + 1 + 1 ≠ w.heap.size by omega)).far (p := ⟨w.heap.size + 1 + 1 + 1 + 1, 1, none⟩) (show w.heap.size + 1 + 1 ≠ w.heap.size + 1 + 1 + 1 + 1 by omega) _).far (p := ⟨w.heap.size + 1 + 1 + 1 + 1, 0, none⟩) (show w.heap.size + 1 + 1 ≠ w.heap.size + 1 + 1 + 1 + 1 by omega) _).far (p := ⟨w.heap.size + 1 + 1 + 1 + 1, 2, none⟩) (show w.heap.size + 1 + 1 ≠ w.heap.size + 1 + 1 + 1 + 1 by omega) _), ((((o4 K51.out (show w.heap.size + 1 + 1 + 1 ≠ w.heap.size by omega)).far (p := ⟨w.heap.size + 1 + 1 + 1 + 1, 1, none⟩) (show w.heap.size + 1 + 1 + 1 ≠ w.heap.size + 1 + 1 + 1 + 1 by omega) _).far (p := ⟨w.heap.size + 1 + 1 + 1 + 1, 0, none⟩) (show w.heap.size + 1 + 1 + 1 ≠ w.heap.size + 1 + 1 + 1 + 1 by omega) _).far (p := ⟨w.heap.size + 1 + 1 + 1 + 1, 2, none⟩) (show w.heap.size + 1 + 1 + 1 ≠ w.heap.size + 1 + 1 + 1 + 1 by omega) _), ((((Ref.mk (S := ⟨.slice ta0 (onceR st ⟨1, of_, oc, od⟩).1.q0.length tk0, .slice ta1 (onceR st ⟨1, of_, oc, od⟩).1.q1.length tk1, .slice taw (onceR st ⟨1, of_, oc, od⟩).1.ws.length tkw, .slice taa (onceR st ⟨1, of_, oc, od⟩).1.ans.length tka⟩) (st := (onceR st ⟨1, of_, oc, od⟩).1) (o2 HR1.out.r0 (by decide)) (o2 HR1.out.r1 (by decide)) (o2 HR1.out.rw_ (by decide)) (o2 HR1.out.ra (by decide)) (HR1.out.o.to (o3 (Below.refl 0 _) (Nat.zero_le _)).size)).set47 (i := 1) q6 _).set47 (i := 0) (q6.set_ 1 _) _).set47 (i := 2) ((q6.set_ 1 _).set_ 0 _) _), Row.nil _ _ _, ((((o3 BB1.out (Nat.le_refl _)).setCell (p := ⟨w.heap.size + 1 + 1 + 1 + 1, 1, none⟩) (show w.heap.size ≤ w.heap.size + 1 + 1 + 1 + 1 by omega) _).setCell (p := ⟨w.heap.size + 1 + 1 + 1 + 1, 0, none⟩) (show w.heap.size ≤ w.heap.size + 1 + 1 + 1 + 1 by omega) _).setCell (p := ⟨w.heap.size + 1 + 1 + 1 + 1, 2, none⟩) (show w.heap.size ≤ w.heap.size + 1 + 1 + 1 + 1 by omega) _)⟩
  obtain ⟨hx, h6, hz, h5, hr, hw, hb⟩ := hcut
  have KX := Lib.hid hx
  have K6 := Lib.hid h6
  have KZ := Lib.hid hz
  have K5 := Lib.hid h5
  have MR := Lib.hid hr
  have MW := Lib.hid hw
  have MB := Lib.hid hb
  clear hx h6 hz h5 hr hw hb
  have g0 : wc.cell? ⟨w.heap.size, 0, none⟩ = some (.int .i64 (onceR st ⟨1, of_, oc, od⟩).1.limit) := KX.out.cell 0
  have g1 : wc.cell? ⟨w.heap.size, 1, none⟩ = some (.slice ta0 (onceR st ⟨1, of_, oc, od⟩).1.q0.length tk0) := KX.out.cell 1
  have g2 : wc.cell? ⟨w.heap.size, 2, none⟩ = some (.slice ta1 (onceR st ⟨1, of_, oc, od⟩).1.q1.length tk1) := KX.out.cell 2
  have g3 : wc.cell? ⟨w.heap.size, 3, none⟩ = some (.bool (onceR st ⟨1, of_, oc, od⟩).1.c0) := KX.out.cell 3
  have g4 : wc.cell? ⟨w.heap.size, 4, none⟩ = some (.bool (onceR st ⟨1, of_, oc, od⟩).1.c1) := KX.out.cell 4
  have g5 : wc.cell? ⟨w.heap.size, 5, none⟩ = some (.int .i64 (onceR st ⟨1, of_, oc, od⟩).1.tks) := KX.out.cell 5
  have g6 : wc.cell? ⟨w.heap.size, 6, none⟩ = some (.slice taw (onceR st ⟨1, of_, oc, od⟩).1.ws.length tkw) := KX.out.cell 6
  have g7 : wc.cell? ⟨w.heap.size, 7, none⟩ = some (.slice taa (onceR st ⟨1, of_, oc, od⟩).1.ans.length tka) := KX.out.cell 7
  have h0 : wc.cell? ⟨w.heap.size + 1 + 1 + 1 + 1, 0, none⟩ = some (.int .i64 (onceR st ⟨1, of_, oc, od⟩).2.1) := K6.out.cell 0
  have h1 : wc.cell? ⟨w.heap.size + 1 + 1 + 1 + 1, 1, none⟩ = some (.string (onceR st ⟨1, of_, oc, od⟩).2.2.1) := K6.out.cell 1
  have h2 : wc.cell? ⟨w.heap.size + 1 + 1 + 1 + 1, 2, none⟩ = some (.int .i64 (onceR st ⟨1, of_, oc, od⟩).2.2.2) := K6.out.cell 2
  have h3 : wc.cell? ⟨w.heap.size + 1 + 1 + 1 + 1, 3, none⟩ = some (.slice none 0 0) := K6.out.cell 3
  have z0 : wc.cell? ⟨w.heap.size + 1 + 1, 0, none⟩ = some (.int .i64 0) := KZ.out.cell 0
  have z1 : wc.cell? ⟨w.heap.size + 1 + 1, 1, none⟩ = some (.slice none 0 0) := KZ.out.cell 1
  have z2 : wc.cell? ⟨w.heap.size + 1 + 1, 2, none⟩ = some (.slice none 0 0) := KZ.out.cell 2
  have z3 : wc.cell? ⟨w.heap.size + 1 + 1, 3, none⟩ = some (.bool false) := KZ.out.cell 3
  have z4 : wc.cell? ⟨w.heap.size + 1 + 1, 4, none⟩ = some (.bool false) := KZ.out.cell 4
  have z5 : wc.cell? ⟨w.heap.size + 1 + 1, 5, none⟩ = some (.int .i64 0) := KZ.out.cell 5
  have z6 : wc.cell? ⟨w.heap.size + 1 + 1, 6, none⟩ = some (.slice none 0 0) := KZ.out.cell 6
  have z7 : wc.cell? ⟨w.heap.size + 1 + 1, 7, none⟩ = some (.slice none 0 0) := KZ.out.cell 7
  have y0 : wc.cell? ⟨w.heap.size + 1 + 1 + 1, 0, none⟩ = some (.int .i64 0) := K5.out.cell 0
  have y1 : wc.cell? ⟨w.heap.size + 1 + 1 + 1, 1, none⟩ = some (.string ⟨#[]⟩) := K5.out.cell 1
  have y2 : wc.cell? ⟨w.heap.size + 1 + 1 + 1, 2, none⟩ = some (.int .i64 0) := K5.out.cell 2
  have y3 : wc.cell? ⟨w.heap.size + 1 + 1 + 1, 3, none⟩ = some (.slice none 0 0) := K5.out.cell 3
  have fz := fun i => KZ.out.frozen i
  have fy := fun i => K5.out.frozen i
  have nz1 : w.heap.size ≠ w.heap.size + 1 + 1 := by omega
  have nz2 : w.heap.size + 1 + 1 + 1 + 1 ≠ w.heap.size + 1 + 1 := by omega
  have nz3 : w.heap.size ≠ w.heap.size + 1 + 1 + 1 := by omega
  have nz4 : w.heap.size + 1 + 1 + 1 + 1 ≠ w.heap.size + 1 + 1 + 1 := by omega
  have nz5 : w.heap.size + 1 + 1 ≠ w.heap.size + 1 + 1 + 1 := by omega
  have nz6 : w.heap.size + 1 + 1 + 1 ≠ w.heap.size + 1 + 1 := by omega
  go_region
  all_goals
    obtain ⟨o1, o2, o3, o4⟩ := put8 KZ.out (.int .i64 (onceR st ⟨1, of_, oc, od⟩).1.limit) (.slice ta0 (onceR st ⟨1, of_, oc, od⟩).1.q0.length tk0) (.slice ta1 (onceR st ⟨1, of_, oc, od⟩).1.q1.length tk1) (.bool (onceR st ⟨1, of_, oc, od⟩).1.c0) (.bool (onceR st ⟨1, of_, oc, od⟩).1.c1) (.int .i64 (onceR st ⟨1, of_, oc, od⟩).1.tks) (.slice taw (onceR st ⟨1, of_, oc, od⟩).1.ws.length tkw) (.slice taa (onceR st ⟨1, of_, oc, od⟩).1.ans.length tka)
    obtain ⟨p1, p2, p3, p4⟩ := put4 (o4 K5.out nz6) (.int .i64 (onceR st ⟨1, of_, oc, od⟩).2.1) (.string (onceR st ⟨1, of_, oc, od⟩).2.2.1) (.int .i64 (onceR st ⟨1, of_, oc, od⟩).2.2.2) (.slice none 0 0)
    have kz := (p4 o1 nz5).drew
    have k5 := p1.drew
    have r0 := (p2 (o2 MR.out.r0 (by decide)) (by decide)).drew
    have r1 := (p2 (o2 MR.out.r1 (by decide)) (by decide)).drew
    have r2 := (p2 (o2 MR.out.rw_ (by decide)) (by decide)).drew
    have r3 := (p2 (o2 MR.out.ra (by decide)) (by decide)).drew
    have ra := (p2 (o2 MW.out (by decide)) (by decide)).drew
    have rb := (p3 (o3 MB.out (show w.heap.size ≤ w.heap.size + 1 + 1 by omega)) (show w.heap.size ≤ w.heap.size + 1 + 1 + 1 by omega)).drew
    have ro := MR.out.o.to (p3 (o3 (Below.refl 0 _) (Nat.zero_le _)) (Nat.zero_le _)).drew.size
    clear o1 o2 o3 o4 p1 p2 p3 p4
    go_wp2_with fail
    exact bodyPost_ret (res60_47 rfl _ _ (w.heap.size + 1 + 1) (w.heap.size + 1 + 1 + 1) _ _ _ _ _ _ _ _ _ _ _ _ rfl rfl kz k5) rfl ⟨⟨.slice ta0 (onceR st ⟨1, of_, oc, od⟩).1.q0.length tk0, .slice ta1 (onceR st ⟨1, of_, oc, od⟩).1.q1.length tk1, .slice taw (onceR st ⟨1, of_, oc, od⟩).1.ws.length tkw, .slice taa (onceR st ⟨1, of_, oc, od⟩).1.ans.length tka⟩, .slice none 0 0, rfl, ⟨r0, r1, r2, r3, ro⟩, ra, rb⟩
set_option maxRecDepth 100000 in
set_option maxHeartbeats 3200000 in
theorem ref_send0 (t ok oc : Int) (od : ByteArray) (hd : od.size ≤ 9000) {N : Nat} {l : Int} (S : Sl) (st : St) (hg : Rg N l st) (hN : N ≤ 880) (w : World) (hR : Ref F w S st) :
    Calls Try.prog 23 #[rpV S st, .agg #[.int .i64 6, .int .i64 t, .int .i64 ok, .int .i64 0, .int .i64 oc, .string od]] w (RefSays F w (onceR st ⟨1, 0, 0, od⟩).1 0 ⟨#[]⟩ (onceR st ⟨1, 0, 0, od⟩).2.2.2 []) := by
  have C := Lib.hid (fun W (hb : Below w.heap.size w W) => rat_any ⟨1, 0, 0, od⟩ hd (N := N) (l := l) S st hg.G (by omega) hg.B W (hR.below hb))
  obtain ⟨za0, zk0, za1, zk1, zaw, zkw, zaa, zka, rfl⟩ := hR.open
  clear hR
  unfold rpV at *
  have BB0 := Lib.hid (show Below w.heap.size w ((((((w.alloc (.cells #[.int .i64 st.limit, .slice za0 st.q0.length zk0, .slice za1 st.q1.length zk1, .bool st.c0, .bool st.c1, .int .i64 st.tks, .slice zaw st.ws.length zkw, .slice zaa st.ans.length zka] 60)).alloc (.cells #[.int .i64 6, .int .i64 t, .int .i64 ok, .int .i64 0, .int .i64 oc, .string od] 44)).alloc (.cells #[.int .i64 0, .slice none 0 0, .slice none 0 0, .bool false, .bool false, .int .i64 0, .slice none 0 0, .slice none 0 0] 60)).alloc (.cells #[.int .i64 0, .string ⟨#[]⟩, .int .i64 0, .slice none 0 0] 47)).alloc (.cells #[.int .i64 0, .string ⟨#[]⟩, .int .i64 0, .slice none 0 0] 47)).alloc (.cells #[.int .i64 ok, .int .i64 0, .int .i64 oc, .string od] 107)) from ((((((Below.refl _ _).alloc (Nat.le_refl _) _).alloc (by simp) _).alloc (by simp; omega) _).alloc (by simp; omega) _).alloc (by simp; omega) _).alloc (by simp; omega) _)
  have KA0 := Lib.hid (show Blk ((((((w.alloc (.cells #[.int .i64 st.limit, .slice za0 st.q0.length zk0, .slice za1 st.q1.length zk1, .bool st.c0, .bool st.c1, .int .i64 st.tks, .slice zaw st.ws.length zkw, .slice zaa st.ans.length zka] 60)).alloc (.cells #[.int .i64 6, .int .i64 t, .int .i64 ok, .int .i64 0, .int .i64 oc, .string od] 44)).alloc (.cells #[.int .i64 0, .slice none 0 0, .slice none 0 0, .bool false, .bool false, .int .i64 0, .slice none 0 0, .slice none 0 0] 60)).alloc (.cells #[.int .i64 0, .string ⟨#[]⟩, .int .i64 0, .slice none 0 0] 47)).alloc (.cells #[.int .i64 0, .string ⟨#[]⟩, .int .i64 0, .slice none 0 0] 47)).alloc (.cells #[.int .i64 ok, .int .i64 0, .int .i64 oc, .string od] 107)) (w.heap.size) 60 [.int .i64 st.limit, .slice za0 st.q0.length zk0, .slice za1 st.q1.length zk1, .bool st.c0, .bool st.c1, .int .i64 st.tks, .slice zaw st.ws.length zkw, .slice zaa st.ans.length zka] from (((((Blk.new w 60 _).alloc _).alloc _).alloc _).alloc _).alloc _)
  have KT0 := Lib.hid (show Blk ((((((w.alloc (.cells #[.int .i64 st.limit, .slice za0 st.q0.length zk0, .slice za1 st.q1.length zk1, .bool st.c0, .bool st.c1, .int .i64 st.tks, .slice zaw st.ws.length zkw, .slice zaa st.ans.length zka] 60)).alloc (.cells #[.int .i64 6, .int .i64 t, .int .i64 ok, .int .i64 0, .int .i64 oc, .string od] 44)).alloc (.cells #[.int .i64 0, .slice none 0 0, .slice none 0 0, .bool false, .bool false, .int .i64 0, .slice none 0 0, .slice none 0 0] 60)).alloc (.cells #[.int .i64 0, .string ⟨#[]⟩, .int .i64 0, .slice none 0 0] 47)).alloc (.cells #[.int .i64 0, .string ⟨#[]⟩, .int .i64 0, .slice none 0 0] 47)).alloc (.cells #[.int .i64 ok, .int .i64 0, .int .i64 oc, .string od] 107)) (w.heap.size + 1) 44 [.int .i64 6, .int .i64 t, .int .i64 ok, .int .i64 0, .int .i64 oc, .string od] from ((((blk_at (by simp) 44 [_, _, _, _, _, _]).alloc _).alloc _).alloc _).alloc _)
  have KZ0 := Lib.hid (show Blk ((((((w.alloc (.cells #[.int .i64 st.limit, .slice za0 st.q0.length zk0, .slice za1 st.q1.length zk1, .bool st.c0, .bool st.c1, .int .i64 st.tks, .slice zaw st.ws.length zkw, .slice zaa st.ans.length zka] 60)).alloc (.cells #[.int .i64 6, .int .i64 t, .int .i64 ok, .int .i64 0, .int .i64 oc, .string od] 44)).alloc (.cells #[.int .i64 0, .slice none 0 0, .slice none 0 0, .bool false, .bool false, .int .i64 0, .slice none 0 0, .slice none 0 0] 60)).alloc (.cells #[.int .i64 0, .string ⟨#[]⟩, .int .i64 0, .slice none 0 0] 47)).alloc (.cells #[.int .i64 0, .string ⟨#[]⟩, .int .i64 0, .slice none 0 0] 47)).alloc (.cells #[.int .i64 ok, .int .i64 0, .int .i64 oc, .string od] 107)) (w.heap.size + 1 + 1) 60 [.int .i64 0, .slice none 0 0, .slice none 0 0, .bool false, .bool false, .int .i64 0, .slice none 0 0, .slice none 0 0] from (((blk_at (by simp) 60 [_, _, _, _, _, _, _, _]).alloc _).alloc _).alloc _)
  have K50 := Lib.hid (show Blk ((((((w.alloc (.cells #[.int .i64 st.limit, .slice za0 st.q0.length zk0, .slice za1 st.q1.length zk1, .bool st.c0, .bool st.c1, .int .i64 st.tks, .slice zaw st.ws.length zkw, .slice zaa st.ans.length zka] 60)).alloc (.cells #[.int .i64 6, .int .i64 t, .int .i64 ok, .int .i64 0, .int .i64 oc, .string od] 44)).alloc (.cells #[.int .i64 0, .slice none 0 0, .slice none 0 0, .bool false, .bool false, .int .i64 0, .slice none 0 0, .slice none 0 0] 60)).alloc (.cells #[.int .i64 0, .string ⟨#[]⟩, .int .i64 0, .slice none 0 0] 47)).alloc (.cells #[.int .i64 0, .string ⟨#[]⟩, .int .i64 0, .slice none 0 0] 47)).alloc (.cells #[.int .i64 ok, .int .i64 0, .int .i64 oc, .string od] 107)) (w.heap.size + 1 + 1 + 1) 47 [.int .i64 0, .string ⟨#[]⟩, .int .i64 0, .slice none 0 0] from ((blk_at (by simp) 47 [_, _, _, _]).alloc _).alloc _)
  have K60 := Lib.hid (show Blk ((((((w.alloc (.cells #[.int .i64 st.limit, .slice za0 st.q0.length zk0, .slice za1 st.q1.length zk1, .bool st.c0, .bool st.c1, .int .i64 st.tks, .slice zaw st.ws.length zkw, .slice zaa st.ans.length zka] 60)).alloc (.cells #[.int .i64 6, .int .i64 t, .int .i64 ok, .int .i64 0, .int .i64 oc, .string od] 44)).alloc (.cells #[.int .i64 0, .slice none 0 0, .slice none 0 0, .bool false, .bool false, .int .i64 0, .slice none 0 0, .slice none 0 0] 60)).alloc (.cells #[.int .i64 0, .string ⟨#[]⟩, .int .i64 0, .slice none 0 0] 47)).alloc (.cells #[.int .i64 0, .string ⟨#[]⟩, .int .i64 0, .slice none 0 0] 47)).alloc (.cells #[.int .i64 ok, .int .i64 0, .int .i64 oc, .string od] 107)) (w.heap.size + 1 + 1 + 1 + 1) 47 [.int .i64 0, .string ⟨#[]⟩, .int .i64 0, .slice none 0 0] from (blk_at (by simp) 47 [_, _, _, _]).alloc _)
  have K70 := Lib.hid (show Blk ((((((w.alloc (.cells #[.int .i64 st.limit, .slice za0 st.q0.length zk0, .slice za1 st.q1.length zk1, .bool st.c0, .bool st.c1, .int .i64 st.tks, .slice zaw st.ws.length zkw, .slice zaa st.ans.length zka] 60)).alloc (.cells #[.int .i64 6, .int .i64 t, .int .i64 ok, .int .i64 0, .int .i64 oc, .string od] 44)).alloc (.cells #[.int .i64 0, .slice none 0 0, .slice none 0 0, .bool false, .bool false, .int .i64 0, .slice none 0 0, .slice none 0 0] 60)).alloc (.cells #[.int .i64 0, .string ⟨#[]⟩, .int .i64 0, .slice none 0 0] 47)).alloc (.cells #[.int .i64 0, .string ⟨#[]⟩, .int .i64 0, .slice none 0 0] 47)).alloc (.cells #[.int .i64 ok, .int .i64 0, .int .i64 oc, .string od] 107)) (w.heap.size + 1 + 1 + 1 + 1 + 1) 107 [.int .i64 ok, .int .i64 0, .int .i64 oc, .string od] from blk_at (by simp) 107 [_, _, _, _])
  go_enter Try.func23, Try.ntmps23
  go_upto_region 31 with (go_at_call 45; refine (C.out _ BB0.out).mono ?_; rintro e v1 ⟨S1, he1, R1, hb⟩; obtain ⟨ta0, tk0, ta1, tk1, taw, tkw, taa, tka, rfl⟩ := R1.open; (try unfold rpV at he1); (try dsimp only at he1); subst he1; have HR1 := Lib.hid R1; have BB1 := Lib.hid (keepBelow BB0.out hb); have KA1 := Lib.hid (keepBlk hb KA0.out); have a0 : v1.cell? ⟨w.heap.size, 0, none⟩ = some (.int .i64 st.limit) := KA1.out.cell 0; have a1 : v1.cell? ⟨w.heap.size, 1, none⟩ = some (.slice za0 st.q0.length zk0) := KA1.out.cell 1; have a2 : v1.cell? ⟨w.heap.size, 2, none⟩ = some (.slice za1 st.q1.length zk1) := KA1.out.cell 2; have a3 : v1.cell? ⟨w.heap.size, 3, none⟩ = some (.bool st.c0) := KA1.out.cell 3; have a4 : v1.cell? ⟨w.heap.size, 4, none⟩ = some (.bool st.c1) := KA1.out.cell 4; have a5 : v1.cell? ⟨w.heap.size, 5, none⟩ = some (.int .i64 st.tks) := KA1.out.cell 5; have a6 : v1.cell? ⟨w.heap.size, 6, none⟩ = some (.slice zaw st.ws.length zkw) := KA1.out.cell 6; have a7 : v1.cell? ⟨w.heap.size, 7, none⟩ = some (.slice zaa st.ans.length zka) := KA1.out.cell 7; have K61 := Lib.hid (keepBlk hb K60.out); have d0 : v1.cell? ⟨w.heap.size + 1 + 1 + 1 + 1, 0, none⟩ = some (.int .i64 0) := K61.out.cell 0; have d1 : v1.cell? ⟨w.heap.size + 1 + 1 + 1 + 1, 1, none⟩ = some (.string ⟨#[]⟩) := K61.out.cell 1; have d2 : v1.cell? ⟨w.heap.size + 1 + 1 + 1 + 1, 2, none⟩ = some (.int .i64 0) := K61.out.cell 2; have d3 : v1.cell? ⟨w.heap.size + 1 + 1 + 1 + 1, 3, none⟩ = some (.slice none 0 0) := K61.out.cell 3; have KZ1 := Lib.hid (keepBlk hb KZ0.out); have K51 := Lib.hid (keepBlk hb K50.out); have fA1 := fun i => KA1.out.frozen i; have f61 := fun i => K61.out.frozen i; clear hb R1)
  refine gen_world (fun wx => Mid F w ⟨.slice ta0 (onceR st ⟨1, 0, 0, od⟩).1.q0.length tk0, .slice ta1 (onceR st ⟨1, 0, 0, od⟩).1.q1.length tk1, .slice taw (onceR st ⟨1, 0, 0, od⟩).1.ws.length tkw, .slice taa (onceR st ⟨1, 0, 0, od⟩).1.ans.length tka⟩ (onceR st ⟨1, 0, 0, od⟩).1 0 ⟨#[]⟩ (onceR st ⟨1, 0, 0, od⟩).2.2.2 (.slice none 0 0) [] wx) ?_ (fun wc hcut => ?_)
  · obtain ⟨o1, o2, o3, o4⟩ := put8 KA1.out (.int .i64 (onceR st ⟨1, 0, 0, od⟩).1.limit) (.slice ta0 (onceR st ⟨1, 0, 0, od⟩).1.q0.length tk0) (.slice ta1 (onceR st ⟨1, 0, 0, od⟩).1.q1.length tk1) (.bool (onceR st ⟨1, 0, 0, od⟩).1.c0) (.bool (onceR st ⟨1, 0, 0, od⟩).1.c1) (.int .i64 (onceR st ⟨1, 0, 0, od⟩).1.tks) (.slice taw (onceR st ⟨1, 0, 0, od⟩).1.ws.length tkw) (.slice taa (onceR st ⟨1, 0, 0, od⟩).1.ans.length tka)
    have q6 := o4 K61.out (show w.heap.size + 1 + 1 + 1 + 1 ≠ w.heap.size by omega)
    exact ⟨(o1.far (p := ⟨w.heap.size + 1 + 1 + 1 + 1, 2, none⟩) (show w.heap.size ≠ w.heap.size + 1 + 1 + 1 + 1 by omega) _), (q6.set_ 2 _), ((o4 KZ1.out (show w.heap.size + 1 + 1 ≠ w.heap.size by omega)).far (p := ⟨w.heap.size + 1 + 1 + 1 + 1, 2, none⟩) (show w.heap.size + 1 + 1 ≠ w.heap.size + 1 + 1 + 1 + 1 by omega) _), ((o4 K51.out (show w.heap.size + 1 + 1 + 1 ≠ w.heap.size by omega)).far (p := ⟨w.heap.size + 1 + 1 + 1 + 1, 2, none⟩) (show w.heap.size + 1 + 1 + 1 ≠ w.heap.size + 1 + 1 + 1 + 1 by omega) _), ((Ref.mk (S := ⟨.slice ta0 (onceR st ⟨1, 0, 0, od⟩).1.q0.length tk0, .slice ta1 (onceR st ⟨1, 0, 0, od⟩).1.q1.length tk1, .slice taw (onceR st ⟨1, 0, 0, od⟩).1.ws.length tkw, .slice taa (onceR st ⟨1, 0, 0, od⟩).1.ans.length tka⟩) (st := (onceR st ⟨1, 0, 0, od⟩).1) (o2 HR1.out.r0 (by decide)) (o2 HR1.out.r1 (by decide)) (o2 HR1.out.rw_ (by decide)) (o2 HR1.out.ra (by decide)) (HR1.out.o.to (o3 (Below.refl 0 _) (Nat.zero_le _)).size)).set47 (i := 2) q6 _), Row.nil _ _ _, ((o3 BB1.out (Nat.le_refl _)).setCell (p := ⟨w.heap.size + 1 + 1 + 1 + 1, 2, none⟩) (show w.heap.size ≤ w.heap.size + 1 + 1 + 1 + 1 by omega) _)⟩
  obtain ⟨hx, h6, hz, h5, hr, hw, hb⟩ := hcut
  have KX := Lib.hid hx
  have K6 := Lib.hid h6
  have KZ := Lib.hid hz
  have K5 := Lib.hid h5
  have MR := Lib.hid hr
  have MW := Lib.hid hw
  have MB := Lib.hid hb
  clear hx h6 hz h5 hr hw hb
  have g0 : wc.cell? ⟨w.heap.size, 0, none⟩ = some (.int .i64 (onceR st ⟨1, 0, 0, od⟩).1.limit) := KX.out.cell 0
  have g1 : wc.cell? ⟨w.heap.size, 1, none⟩ = some (.slice ta0 (onceR st ⟨1, 0, 0, od⟩).1.q0.length tk0) := KX.out.cell 1
  have g2 : wc.cell? ⟨w.heap.size, 2, none⟩ = some (.slice ta1 (onceR st ⟨1, 0, 0, od⟩).1.q1.length tk1) := KX.out.cell 2
  have g3 : wc.cell? ⟨w.heap.size, 3, none⟩ = some (.bool (onceR st ⟨1, 0, 0, od⟩).1.c0) := KX.out.cell 3
  have g4 : wc.cell? ⟨w.heap.size, 4, none⟩ = some (.bool (onceR st ⟨1, 0, 0, od⟩).1.c1) := KX.out.cell 4
  have g5 : wc.cell? ⟨w.heap.size, 5, none⟩ = some (.int .i64 (onceR st ⟨1, 0, 0, od⟩).1.tks) := KX.out.cell 5
  have g6 : wc.cell? ⟨w.heap.size, 6, none⟩ = some (.slice taw (onceR st ⟨1, 0, 0, od⟩).1.ws.length tkw) := KX.out.cell 6
  have g7 : wc.cell? ⟨w.heap.size, 7, none⟩ = some (.slice taa (onceR st ⟨1, 0, 0, od⟩).1.ans.length tka) := KX.out.cell 7
  have h0 : wc.cell? ⟨w.heap.size + 1 + 1 + 1 + 1, 0, none⟩ = some (.int .i64 0) := K6.out.cell 0
  have h1 : wc.cell? ⟨w.heap.size + 1 + 1 + 1 + 1, 1, none⟩ = some (.string ⟨#[]⟩) := K6.out.cell 1
  have h2 : wc.cell? ⟨w.heap.size + 1 + 1 + 1 + 1, 2, none⟩ = some (.int .i64 (onceR st ⟨1, 0, 0, od⟩).2.2.2) := K6.out.cell 2
  have h3 : wc.cell? ⟨w.heap.size + 1 + 1 + 1 + 1, 3, none⟩ = some (.slice none 0 0) := K6.out.cell 3
  have z0 : wc.cell? ⟨w.heap.size + 1 + 1, 0, none⟩ = some (.int .i64 0) := KZ.out.cell 0
  have z1 : wc.cell? ⟨w.heap.size + 1 + 1, 1, none⟩ = some (.slice none 0 0) := KZ.out.cell 1
  have z2 : wc.cell? ⟨w.heap.size + 1 + 1, 2, none⟩ = some (.slice none 0 0) := KZ.out.cell 2
  have z3 : wc.cell? ⟨w.heap.size + 1 + 1, 3, none⟩ = some (.bool false) := KZ.out.cell 3
  have z4 : wc.cell? ⟨w.heap.size + 1 + 1, 4, none⟩ = some (.bool false) := KZ.out.cell 4
  have z5 : wc.cell? ⟨w.heap.size + 1 + 1, 5, none⟩ = some (.int .i64 0) := KZ.out.cell 5
  have z6 : wc.cell? ⟨w.heap.size + 1 + 1, 6, none⟩ = some (.slice none 0 0) := KZ.out.cell 6
  have z7 : wc.cell? ⟨w.heap.size + 1 + 1, 7, none⟩ = some (.slice none 0 0) := KZ.out.cell 7
  have y0 : wc.cell? ⟨w.heap.size + 1 + 1 + 1, 0, none⟩ = some (.int .i64 0) := K5.out.cell 0
  have y1 : wc.cell? ⟨w.heap.size + 1 + 1 + 1, 1, none⟩ = some (.string ⟨#[]⟩) := K5.out.cell 1
  have y2 : wc.cell? ⟨w.heap.size + 1 + 1 + 1, 2, none⟩ = some (.int .i64 0) := K5.out.cell 2
  have y3 : wc.cell? ⟨w.heap.size + 1 + 1 + 1, 3, none⟩ = some (.slice none 0 0) := K5.out.cell 3
  have fz := fun i => KZ.out.frozen i
  have fy := fun i => K5.out.frozen i
  have nz1 : w.heap.size ≠ w.heap.size + 1 + 1 := by omega
  have nz2 : w.heap.size + 1 + 1 + 1 + 1 ≠ w.heap.size + 1 + 1 := by omega
  have nz3 : w.heap.size ≠ w.heap.size + 1 + 1 + 1 := by omega
  have nz4 : w.heap.size + 1 + 1 + 1 + 1 ≠ w.heap.size + 1 + 1 + 1 := by omega
  have nz5 : w.heap.size + 1 + 1 ≠ w.heap.size + 1 + 1 + 1 := by omega
  have nz6 : w.heap.size + 1 + 1 + 1 ≠ w.heap.size + 1 + 1 := by omega
  go_region
  all_goals
    obtain ⟨o1, o2, o3, o4⟩ := put8 KZ.out (.int .i64 (onceR st ⟨1, 0, 0, od⟩).1.limit) (.slice ta0 (onceR st ⟨1, 0, 0, od⟩).1.q0.length tk0) (.slice ta1 (onceR st ⟨1, 0, 0, od⟩).1.q1.length tk1) (.bool (onceR st ⟨1, 0, 0, od⟩).1.c0) (.bool (onceR st ⟨1, 0, 0, od⟩).1.c1) (.int .i64 (onceR st ⟨1, 0, 0, od⟩).1.tks) (.slice taw (onceR st ⟨1, 0, 0, od⟩).1.ws.length tkw) (.slice taa (onceR st ⟨1, 0, 0, od⟩).1.ans.length tka)
    obtain ⟨p1, p2, p3, p4⟩ := put4 (o4 K5.out nz6) (.int .i64 0) (.string ⟨#[]⟩) (.int .i64 (onceR st ⟨1, 0, 0, od⟩).2.2.2) (.slice none 0 0)
    have kz := (p4 o1 nz5).drew
    have k5 := p1.drew
    have r0 := (p2 (o2 MR.out.r0 (by decide)) (by decide)).drew
    have r1 := (p2 (o2 MR.out.r1 (by decide)) (by decide)).drew
    have r2 := (p2 (o2 MR.out.rw_ (by decide)) (by decide)).drew
    have r3 := (p2 (o2 MR.out.ra (by decide)) (by decide)).drew
    have ra := (p2 (o2 MW.out (by decide)) (by decide)).drew
    have rb := (p3 (o3 MB.out (show w.heap.size ≤ w.heap.size + 1 + 1 by omega)) (show w.heap.size ≤ w.heap.size + 1 + 1 + 1 by omega)).drew
    have ro := MR.out.o.to (p3 (o3 (Below.refl 0 _) (Nat.zero_le _)) (Nat.zero_le _)).drew.size
    clear o1 o2 o3 o4 p1 p2 p3 p4
    go_wp2_with fail
    exact bodyPost_ret (res60_47 rfl _ _ (w.heap.size + 1 + 1) (w.heap.size + 1 + 1 + 1) _ _ _ _ _ _ _ _ _ _ _ _ rfl rfl kz k5) rfl ⟨⟨.slice ta0 (onceR st ⟨1, 0, 0, od⟩).1.q0.length tk0, .slice ta1 (onceR st ⟨1, 0, 0, od⟩).1.q1.length tk1, .slice taw (onceR st ⟨1, 0, 0, od⟩).1.ws.length tkw, .slice taa (onceR st ⟨1, 0, 0, od⟩).1.ans.length tka⟩, .slice none 0 0, rfl, ⟨r0, r1, r2, r3, ro⟩, ra, rb⟩
set_option maxRecDepth 100000 in
set_option maxHeartbeats 3200000 in
theorem ref_recv0 (t ok oc : Int) (od : ByteArray) {N : Nat} {l : Int} (S : Sl) (st : St) (hg : Rg N l st) (hN : N ≤ 880) (w : World) (hR : Ref F w S st) :
    Calls Try.prog 23 #[rpV S st, .agg #[.int .i64 7, .int .i64 t, .int .i64 ok, .int .i64 0, .int .i64 oc, .string od]] w (RefSays F w (recvR st 0).1 0 (recvR st 0).2.1 (recvR st 0).2.2 []) := by
  have C := Lib.hid (fun W (hb : Below w.heap.size w W) => rrecv_any 0 (.inl rfl) (N := N) (l := l) hg.L S st hg.G (by omega) hg.B hg.X W (hR.below hb))
  obtain ⟨za0, zk0, za1, zk1, zaw, zkw, zaa, zka, rfl⟩ := hR.open
  clear hR
  unfold rpV at *
  have BB0 := Lib.hid (show Below w.heap.size w ((((((w.alloc (.cells #[.int .i64 st.limit, .slice za0 st.q0.length zk0, .slice za1 st.q1.length zk1, .bool st.c0, .bool st.c1, .int .i64 st.tks, .slice zaw st.ws.length zkw, .slice zaa st.ans.length zka] 60)).alloc (.cells #[.int .i64 7, .int .i64 t, .int .i64 ok, .int .i64 0, .int .i64 oc, .string od] 44)).alloc (.cells #[.int .i64 0, .slice none 0 0, .slice none 0 0, .bool false, .bool false, .int .i64 0, .slice none 0 0, .slice none 0 0] 60)).alloc (.cells #[.int .i64 0, .string ⟨#[]⟩, .int .i64 0, .slice none 0 0] 47)).alloc (.cells #[.int .i64 0, .string ⟨#[]⟩, .int .i64 0, .slice none 0 0] 47)).alloc (.cells #[.int .i64 ok, .int .i64 0, .int .i64 oc, .string od] 107)) from ((((((Below.refl _ _).alloc (Nat.le_refl _) _).alloc (by simp) _).alloc (by simp; omega) _).alloc (by simp; omega) _).alloc (by simp; omega) _).alloc (by simp; omega) _)
  have KA0 := Lib.hid (show Blk ((((((w.alloc (.cells #[.int .i64 st.limit, .slice za0 st.q0.length zk0, .slice za1 st.q1.length zk1, .bool st.c0, .bool st.c1, .int .i64 st.tks, .slice zaw st.ws.length zkw, .slice zaa st.ans.length zka] 60)).alloc (.cells #[.int .i64 7, .int .i64 t, .int .i64 ok, .int .i64 0, .int .i64 oc, .string od] 44)).alloc (.cells #[.int .i64 0, .slice none 0 0, .slice none 0 0, .bool false, .bool false, .int .i64 0, .slice none 0 0, .slice none 0 0] 60)).alloc (.cells #[.int .i64 0, .string ⟨#[]⟩, .int .i64 0, .slice none 0 0] 47)).alloc (.cells #[.int .i64 0, .string ⟨#[]⟩, .int .i64 0, .slice none 0 0] 47)).alloc (.cells #[.int .i64 ok, .int .i64 0, .int .i64 oc, .string od] 107)) (w.heap.size) 60 [.int .i64 st.limit, .slice za0 st.q0.length zk0, .slice za1 st.q1.length zk1, .bool st.c0, .bool st.c1, .int .i64 st.tks, .slice zaw st.ws.length zkw, .slice zaa st.ans.length zka] from (((((Blk.new w 60 _).alloc _).alloc _).alloc _).alloc _).alloc _)
  have KT0 := Lib.hid (show Blk ((((((w.alloc (.cells #[.int .i64 st.limit, .slice za0 st.q0.length zk0, .slice za1 st.q1.length zk1, .bool st.c0, .bool st.c1, .int .i64 st.tks, .slice zaw st.ws.length zkw, .slice zaa st.ans.length zka] 60)).alloc (.cells #[.int .i64 7, .int .i64 t, .int .i64 ok, .int .i64 0, .int .i64 oc, .string od] 44)).alloc (.cells #[.int .i64 0, .slice none 0 0, .slice none 0 0, .bool false, .bool false, .int .i64 0, .slice none 0 0, .slice none 0 0] 60)).alloc (.cells #[.int .i64 0, .string ⟨#[]⟩, .int .i64 0, .slice none 0 0] 47)).alloc (.cells #[.int .i64 0, .string ⟨#[]⟩, .int .i64 0, .slice none 0 0] 47)).alloc (.cells #[.int .i64 ok, .int .i64 0, .int .i64 oc, .string od] 107)) (w.heap.size + 1) 44 [.int .i64 7, .int .i64 t, .int .i64 ok, .int .i64 0, .int .i64 oc, .string od] from ((((blk_at (by simp) 44 [_, _, _, _, _, _]).alloc _).alloc _).alloc _).alloc _)
  have KZ0 := Lib.hid (show Blk ((((((w.alloc (.cells #[.int .i64 st.limit, .slice za0 st.q0.length zk0, .slice za1 st.q1.length zk1, .bool st.c0, .bool st.c1, .int .i64 st.tks, .slice zaw st.ws.length zkw, .slice zaa st.ans.length zka] 60)).alloc (.cells #[.int .i64 7, .int .i64 t, .int .i64 ok, .int .i64 0, .int .i64 oc, .string od] 44)).alloc (.cells #[.int .i64 0, .slice none 0 0, .slice none 0 0, .bool false, .bool false, .int .i64 0, .slice none 0 0, .slice none 0 0] 60)).alloc (.cells #[.int .i64 0, .string ⟨#[]⟩, .int .i64 0, .slice none 0 0] 47)).alloc (.cells #[.int .i64 0, .string ⟨#[]⟩, .int .i64 0, .slice none 0 0] 47)).alloc (.cells #[.int .i64 ok, .int .i64 0, .int .i64 oc, .string od] 107)) (w.heap.size + 1 + 1) 60 [.int .i64 0, .slice none 0 0, .slice none 0 0, .bool false, .bool false, .int .i64 0, .slice none 0 0, .slice none 0 0] from (((blk_at (by simp) 60 [_, _, _, _, _, _, _, _]).alloc _).alloc _).alloc _)
  have K50 := Lib.hid (show Blk ((((((w.alloc (.cells #[.int .i64 st.limit, .slice za0 st.q0.length zk0, .slice za1 st.q1.length zk1, .bool st.c0, .bool st.c1, .int .i64 st.tks, .slice zaw st.ws.length zkw, .slice zaa st.ans.length zka] 60)).alloc (.cells #[.int .i64 7, .int .i64 t, .int .i64 ok, .int .i64 0, .int .i64 oc, .string od] 44)).alloc (.cells #[.int .i64 0, .slice none 0 0, .slice none 0 0, .bool false, .bool false, .int .i64 0, .slice none 0 0, .slice none 0 0] 60)).alloc (.cells #[.int .i64 0, .string ⟨#[]⟩, .int .i64 0, .slice none 0 0] 47)).alloc (.cells #[.int .i64 0, .string ⟨#[]⟩, .int .i64 0, .slice none 0 0] 47)).alloc (.cells #[.int .i64 ok, .int .i64 0, .int .i64 oc, .string od] 107)) (w.heap.size + 1 + 1 + 1) 47 [.int .i64 0, .string ⟨#[]⟩, .int .i64 0, .slice none 0 0] from ((blk_at (by simp) 47 [_, _, _, _]).alloc _).alloc _)
  have K60 := Lib.hid (show Blk ((((((w.alloc (.cells #[.int .i64 st.limit, .slice za0 st.q0.length zk0, .slice za1 st.q1.length zk1, .bool st.c0, .bool st.c1, .int .i64 st.tks, .slice zaw st.ws.length zkw, .slice zaa st.ans.length zka] 60)).alloc (.cells #[.int .i64 7, .int .i64 t, .int .i64 ok, .int .i64 0, .int .i64 oc, .string od] 44)).alloc (.cells #[.int .i64 0, .slice none 0 0, .slice none 0 0, .bool false, .bool false, .int .i64 0, .slice none 0 0, .slice none 0 0] 60)).alloc (.cells #[.int .i64 0, .string ⟨#[]⟩, .int .i64 0, .slice none 0 0] 47)).alloc (.cells #[.int .i64 0, .string ⟨#[]⟩, .int .i64 0, .slice none 0 0] 47)).alloc (.cells #[.int .i64 ok, .int .i64 0, .int .i64 oc, .string od] 107)) (w.heap.size + 1 + 1 + 1 + 1) 47 [.int .i64 0, .string ⟨#[]⟩, .int .i64 0, .slice none 0 0] from (blk_at (by simp) 47 [_, _, _, _]).alloc _)
  have K70 := Lib.hid (show Blk ((((((w.alloc (.cells #[.int .i64 st.limit, .slice za0 st.q0.length zk0, .slice za1 st.q1.length zk1, .bool st.c0, .bool st.c1, .int .i64 st.tks, .slice zaw st.ws.length zkw, .slice zaa st.ans.length zka] 60)).alloc (.cells #[.int .i64 7, .int .i64 t, .int .i64 ok, .int .i64 0, .int .i64 oc, .string od] 44)).alloc (.cells #[.int .i64 0, .slice none 0 0, .slice none 0 0, .bool false, .bool false, .int .i64 0, .slice none 0 0, .slice none 0 0] 60)).alloc (.cells #[.int .i64 0, .string ⟨#[]⟩, .int .i64 0, .slice none 0 0] 47)).alloc (.cells #[.int .i64 0, .string ⟨#[]⟩, .int .i64 0, .slice none 0 0] 47)).alloc (.cells #[.int .i64 ok, .int .i64 0, .int .i64 oc, .string od] 107)) (w.heap.size + 1 + 1 + 1 + 1 + 1) 107 [.int .i64 ok, .int .i64 0, .int .i64 oc, .string od] from blk_at (by simp) 107 [_, _, _, _])
  go_enter Try.func23, Try.ntmps23
  go_upto_region 31 with (go_at_call 50; refine (C.out _ BB0.out).mono ?_; rintro e v1 ⟨S1, he1, R1, hb⟩; obtain ⟨ta0, tk0, ta1, tk1, taw, tkw, taa, tka, rfl⟩ := R1.open; (try unfold rpV at he1); (try dsimp only at he1); subst he1; have HR1 := Lib.hid R1; have BB1 := Lib.hid (keepBelow BB0.out hb); have KA1 := Lib.hid (keepBlk hb KA0.out); have a0 : v1.cell? ⟨w.heap.size, 0, none⟩ = some (.int .i64 st.limit) := KA1.out.cell 0; have a1 : v1.cell? ⟨w.heap.size, 1, none⟩ = some (.slice za0 st.q0.length zk0) := KA1.out.cell 1; have a2 : v1.cell? ⟨w.heap.size, 2, none⟩ = some (.slice za1 st.q1.length zk1) := KA1.out.cell 2; have a3 : v1.cell? ⟨w.heap.size, 3, none⟩ = some (.bool st.c0) := KA1.out.cell 3; have a4 : v1.cell? ⟨w.heap.size, 4, none⟩ = some (.bool st.c1) := KA1.out.cell 4; have a5 : v1.cell? ⟨w.heap.size, 5, none⟩ = some (.int .i64 st.tks) := KA1.out.cell 5; have a6 : v1.cell? ⟨w.heap.size, 6, none⟩ = some (.slice zaw st.ws.length zkw) := KA1.out.cell 6; have a7 : v1.cell? ⟨w.heap.size, 7, none⟩ = some (.slice zaa st.ans.length zka) := KA1.out.cell 7; have K61 := Lib.hid (keepBlk hb K60.out); have d0 : v1.cell? ⟨w.heap.size + 1 + 1 + 1 + 1, 0, none⟩ = some (.int .i64 0) := K61.out.cell 0; have d1 : v1.cell? ⟨w.heap.size + 1 + 1 + 1 + 1, 1, none⟩ = some (.string ⟨#[]⟩) := K61.out.cell 1; have d2 : v1.cell? ⟨w.heap.size + 1 + 1 + 1 + 1, 2, none⟩ = some (.int .i64 0) := K61.out.cell 2; have d3 : v1.cell? ⟨w.heap.size + 1 + 1 + 1 + 1, 3, none⟩ = some (.slice none 0 0) := K61.out.cell 3; have KZ1 := Lib.hid (keepBlk hb KZ0.out); have K51 := Lib.hid (keepBlk hb K50.out); have fA1 := fun i => KA1.out.frozen i; have f61 := fun i => K61.out.frozen i; clear hb R1)
  refine gen_world (fun wx => Mid F w ⟨.slice ta0 (recvR st 0).1.q0.length tk0, .slice ta1 (recvR st 0).1.q1.length tk1, .slice taw (recvR st 0).1.ws.length tkw, .slice taa (recvR st 0).1.ans.length tka⟩ (recvR st 0).1 0 (recvR st 0).2.1 (recvR st 0).2.2 (.slice none 0 0) [] wx) ?_ (fun wc hcut => ?_)
  · obtain ⟨o1, o2, o3, o4⟩ := put8 KA1.out (.int .i64 (recvR st 0).1.limit) (.slice ta0 (recvR st 0).1.q0.length tk0) (.slice ta1 (recvR st 0).1.q1.length tk1) (.bool (recvR st 0).1.c0) (.bool (recvR st 0).1.c1) (.int .i64 (recvR st 0).1.tks) (.slice taw (recvR st 0).1.ws.length tkw) (.slice taa (recvR st 0).1.ans.length tka)
    have q6 := o4 K61.out (show w.heap.size + 1 + 1 + 1 + 1 ≠ w.heap.size by omega)
    exact ⟨((o1.far (p := ⟨w.heap.size + 1 + 1 + 1 + 1, 1, none⟩) (show w.heap.size ≠ w.heap.size + 1 + 1 + 1 + 1 by omega) _).far (p := ⟨w.heap.size + 1 + 1 + 1 + 1, 2, none⟩) (show w.heap.size ≠ w.heap.size + 1 + 1 + 1 + 1 by omega) _), ((q6.set_ 1 _).set_ 2 _), (((o4 KZ1.out (show w.heap.size + 1 + 1 ≠ w.heap.size by omega)).far (p := ⟨w.heap.size + 1 + 1 + 1 + 1, 1, none⟩) (show w.heap.size + 1 + 1 ≠ w.heap.size + 1 + 1 + 1 + 1 by omega) _).far (p := ⟨w.heap.size + 1 + 1 + 1 + 1, 2, none⟩) (show w.heap.size + 1 + 1 ≠ w.heap.size + 1 + 1 + 1 + 1 by omega) _), (((o4 K51.out (show w.heap.size + 1 + 1 + 1 ≠ w.heap.size by omega)).far (p := ⟨w.heap.size + 1 + 1 + 1 + 1, 1, none⟩) (show w.heap.size + 1 + 1 + 1 ≠ w.heap.size + 1 + 1 + 1 + 1 by omega) _).far (p := ⟨w.heap.size + 1 + 1 + 1 + 1, 2, none⟩) (show w.heap.size + 1 + 1 + 1 ≠ w.heap.size + 1 + 1 + 1 + 1 by omega) _), (((Ref.mk (S := ⟨.slice ta0 (recvR st 0).1.q0.length tk0, .slice ta1 (recvR st 0).1.q1.length tk1, .slice taw (recvR st 0).1.ws.length tkw, .slice taa (recvR st 0).1.ans.length tka⟩) (st := (recvR st 0).1) (o2 HR1.out.r0 (by decide)) (o2 HR1.out.r1 (by decide)) (o2 HR1.out.rw_ (by decide)) (o2 HR1.out.ra (by decide)) (HR1.out.o.to (o3 (Below.refl 0 _) (Nat.zero_le _)).size)).set47 (i := 1) q6 _).set47 (i := 2) (q6.set_ 1 _) _), Row.nil _ _ _, (((o3 BB1.out (Nat.le_refl _)).setCell (p := ⟨w.heap.size + 1 + 1 + 1 + 1, 1, none⟩) (show w.heap.size ≤ w.heap.size + 1 + 1 + 1 + 1 by omega) _).setCell (p := ⟨w.heap.size + 1 + 1 + 1 + 1, 2, none⟩) (show w.heap.size ≤ w.heap.size + 1 + 1 + 1 + 1 by omega) _)⟩
  obtain ⟨hx, h6, hz, h5, hr, hw, hb⟩ := hcut
  have KX := Lib.hid hx
  have K6 := Lib.hid h6
  have KZ := Lib.hid hz
  have K5 := Lib.hid h5
  have MR := Lib.hid hr
  have MW := Lib.hid hw
  have MB := Lib.hid hb
  clear hx h6 hz h5 hr hw hb
  have g0 : wc.cell? ⟨w.heap.size, 0, none⟩ = some (.int .i64 (recvR st 0).1.limit) := KX.out.cell 0
  have g1 : wc.cell? ⟨w.heap.size, 1, none⟩ = some (.slice ta0 (recvR st 0).1.q0.length tk0) := KX.out.cell 1
  have g2 : wc.cell? ⟨w.heap.size, 2, none⟩ = some (.slice ta1 (recvR st 0).1.q1.length tk1) := KX.out.cell 2
  have g3 : wc.cell? ⟨w.heap.size, 3, none⟩ = some (.bool (recvR st 0).1.c0) := KX.out.cell 3
  have g4 : wc.cell? ⟨w.heap.size, 4, none⟩ = some (.bool (recvR st 0).1.c1) := KX.out.cell 4
  have g5 : wc.cell? ⟨w.heap.size, 5, none⟩ = some (.int .i64 (recvR st 0).1.tks) := KX.out.cell 5
  have g6 : wc.cell? ⟨w.heap.size, 6, none⟩ = some (.slice taw (recvR st 0).1.ws.length tkw) := KX.out.cell 6
  have g7 : wc.cell? ⟨w.heap.size, 7, none⟩ = some (.slice taa (recvR st 0).1.ans.length tka) := KX.out.cell 7
  have h0 : wc.cell? ⟨w.heap.size + 1 + 1 + 1 + 1, 0, none⟩ = some (.int .i64 0) := K6.out.cell 0
  have h1 : wc.cell? ⟨w.heap.size + 1 + 1 + 1 + 1, 1, none⟩ = some (.string (recvR st 0).2.1) := K6.out.cell 1
  have h2 : wc.cell? ⟨w.heap.size + 1 + 1 + 1 + 1, 2, none⟩ = some (.int .i64 (recvR st 0).2.2) := K6.out.cell 2
  have h3 : wc.cell? ⟨w.heap.size + 1 + 1 + 1 + 1, 3, none⟩ = some (.slice none 0 0) := K6.out.cell 3
  have z0 : wc.cell? ⟨w.heap.size + 1 + 1, 0, none⟩ = some (.int .i64 0) := KZ.out.cell 0
  have z1 : wc.cell? ⟨w.heap.size + 1 + 1, 1, none⟩ = some (.slice none 0 0) := KZ.out.cell 1
  have z2 : wc.cell? ⟨w.heap.size + 1 + 1, 2, none⟩ = some (.slice none 0 0) := KZ.out.cell 2
  have z3 : wc.cell? ⟨w.heap.size + 1 + 1, 3, none⟩ = some (.bool false) := KZ.out.cell 3
  have z4 : wc.cell? ⟨w.heap.size + 1 + 1, 4, none⟩ = some (.bool false) := KZ.out.cell 4
  have z5 : wc.cell? ⟨w.heap.size + 1 + 1, 5, none⟩ = some (.int .i64 0) := KZ.out.cell 5
  have z6 : wc.cell? ⟨w.heap.size + 1 + 1, 6, none⟩ = some (.slice none 0 0) := KZ.out.cell 6
  have z7 : wc.cell? ⟨w.heap.size + 1 + 1, 7, none⟩ = some (.slice none 0 0) := KZ.out.cell 7
  have y0 : wc.cell? ⟨w.heap.size + 1 + 1 + 1, 0, none⟩ = some (.int .i64 0) := K5.out.cell 0
  have y1 : wc.cell? ⟨w.heap.size + 1 + 1 + 1, 1, none⟩ = some (.string ⟨#[]⟩) := K5.out.cell 1
  have y2 : wc.cell? ⟨w.heap.size + 1 + 1 + 1, 2, none⟩ = some (.int .i64 0) := K5.out.cell 2
  have y3 : wc.cell? ⟨w.heap.size + 1 + 1 + 1, 3, none⟩ = some (.slice none 0 0) := K5.out.cell 3
  have fz := fun i => KZ.out.frozen i
  have fy := fun i => K5.out.frozen i
  have nz1 : w.heap.size ≠ w.heap.size + 1 + 1 := by omega
  have nz2 : w.heap.size + 1 + 1 + 1 + 1 ≠ w.heap.size + 1 + 1 := by omega
  have nz3 : w.heap.size ≠ w.heap.size + 1 + 1 + 1 := by omega
  have nz4 : w.heap.size + 1 + 1 + 1 + 1 ≠ w.heap.size + 1 + 1 + 1 := by omega
  have nz5 : w.heap.size + 1 + 1 ≠ w.heap.size + 1 + 1 + 1 := by omega
  have nz6 : w.heap.size + 1 + 1 + 1 ≠ w.heap.size + 1 + 1 := by omega
  go_region
  all_goals
    obtain ⟨o1, o2, o3, o4⟩ := put8 KZ.out (.int .i64 (recvR st 0).1.limit) (.slice ta0 (recvR st 0).1.q0.length tk0) (.slice ta1 (recvR st 0).1.q1.length tk1) (.bool (recvR st 0).1.c0) (.bool (recvR st 0).1.c1) (.int .i64 (recvR st 0).1.tks) (.slice taw (recvR st 0).1.ws.length tkw) (.slice taa (recvR st 0).1.ans.length tka)
    obtain ⟨p1, p2, p3, p4⟩ := put4 (o4 K5.out nz6) (.int .i64 0) (.string (recvR st 0).2.1) (.int .i64 (recvR st 0).2.2) (.slice none 0 0)
    have kz := (p4 o1 nz5).drew
    have k5 := p1.drew
    have r0 := (p2 (o2 MR.out.r0 (by decide)) (by decide)).drew
    have r1 := (p2 (o2 MR.out.r1 (by decide)) (by decide)).drew
    have r2 := (p2 (o2 MR.out.rw_ (by decide)) (by decide)).drew
    have r3 := (p2 (o2 MR.out.ra (by decide)) (by decide)).drew
    have ra := (p2 (o2 MW.out (by decide)) (by decide)).drew
    have rb := (p3 (o3 MB.out (show w.heap.size ≤ w.heap.size + 1 + 1 by omega)) (show w.heap.size ≤ w.heap.size + 1 + 1 + 1 by omega)).drew
    have ro := MR.out.o.to (p3 (o3 (Below.refl 0 _) (Nat.zero_le _)) (Nat.zero_le _)).drew.size
    clear o1 o2 o3 o4 p1 p2 p3 p4
    go_wp2_with fail
    exact bodyPost_ret (res60_47 rfl _ _ (w.heap.size + 1 + 1) (w.heap.size + 1 + 1 + 1) _ _ _ _ _ _ _ _ _ _ _ _ rfl rfl kz k5) rfl ⟨⟨.slice ta0 (recvR st 0).1.q0.length tk0, .slice ta1 (recvR st 0).1.q1.length tk1, .slice taw (recvR st 0).1.ws.length tkw, .slice taa (recvR st 0).1.ans.length tka⟩, .slice none 0 0, rfl, ⟨r0, r1, r2, r3, ro⟩, ra, rb⟩
set_option maxRecDepth 100000 in
set_option maxHeartbeats 3200000 in
theorem ref_send1 (t ok oc : Int) (od : ByteArray) (hd : od.size ≤ 9000) {N : Nat} {l : Int} (S : Sl) (st : St) (hg : Rg N l st) (hN : N ≤ 880) (w : World) (hR : Ref F w S st) :
    Calls Try.prog 23 #[rpV S st, .agg #[.int .i64 6, .int .i64 t, .int .i64 ok, .int .i64 1, .int .i64 oc, .string od]] w (RefSays F w (onceR st ⟨1, 1, 0, od⟩).1 0 ⟨#[]⟩ (onceR st ⟨1, 1, 0, od⟩).2.2.2 []) := by
  have C := Lib.hid (fun W (hb : Below w.heap.size w W) => rat_any ⟨1, 1, 0, od⟩ hd (N := N) (l := l) S st hg.G (by omega) hg.B W (hR.below hb))
  obtain ⟨za0, zk0, za1, zk1, zaw, zkw, zaa, zka, rfl⟩ := hR.open
  clear hR
  unfold rpV at *
  have BB0 := Lib.hid (show Below w.heap.size w ((((((w.alloc (.cells #[.int .i64 st.limit, .slice za0 st.q0.length zk0, .slice za1 st.q1.length zk1, .bool st.c0, .bool st.c1, .int .i64 st.tks, .slice zaw st.ws.length zkw, .slice zaa st.ans.length zka] 60)).alloc (.cells #[.int .i64 6, .int .i64 t, .int .i64 ok, .int .i64 1, .int .i64 oc, .string od] 44)).alloc (.cells #[.int .i64 0, .slice none 0 0, .slice none 0 0, .bool false, .bool false, .int .i64 0, .slice none 0 0, .slice none 0 0] 60)).alloc (.cells #[.int .i64 0, .string ⟨#[]⟩, .int .i64 0, .slice none 0 0] 47)).alloc (.cells #[.int .i64 0, .string ⟨#[]⟩, .int .i64 0, .slice none 0 0] 47)).alloc (.cells #[.int .i64 ok, .int .i64 1, .int .i64 oc, .string od] 107)) from ((((((Below.refl _ _).alloc (Nat.le_refl _) _).alloc (by simp) _).alloc (by simp; omega) _).alloc (by simp; omega) _).alloc (by simp; omega) _).alloc (by simp; omega) _)
  have KA0 := Lib.hid (show Blk ((((((w.alloc (.cells #[.int .i64 st.limit, .slice za0 st.q0.length zk0, .slice za1 st.q1.length zk1, .bool st.c0, .bool st.c1, .int .i64 st.tks, .slice zaw st.ws.length zkw, .slice zaa st.ans.length zka] 60)).alloc (.cells #[.int .i64 6, .int .i64 t, .int .i64 ok, .int .i64 1, .int .i64 oc, .string od] 44)).alloc (.cells #[.int .i64 0, .slice none 0 0, .slice none 0 0, .bool false, .bool false, .int .i64 0, .slice none 0 0, .slice none 0 0] 60)).alloc (.cells #[.int .i64 0, .string ⟨#[]⟩, .int .i64 0, .slice none 0 0] 47)).alloc (.cells #[.int .i64 0, .string ⟨#[]⟩, .int .i64 0, .slice none 0 0] 47)).alloc (.cells #[.int .i64 ok, .int .i64 1, .int .i64 oc, .string od] 107)) (w.heap.size) 60 [.int .i64 st.limit, .slice za0 st.q0.length zk0, .slice za1 st.q1.length zk1, .bool st.c0, .bool st.c1, .int .i64 st.tks, .slice zaw st.ws.length zkw, .slice zaa st.ans.length zka] from (((((Blk.new w 60 _).alloc _).alloc _).alloc _).alloc _).alloc _)
  have KT0 := Lib.hid (show Blk ((((((w.alloc (.cells #[.int .i64 st.limit, .slice za0 st.q0.length zk0, .slice za1 st.q1.length zk1, .bool st.c0, .bool st.c1, .int .i64 st.tks, .slice zaw st.ws.length zkw, .slice zaa st.ans.length zka] 60)).alloc (.cells #[.int .i64 6, .int .i64 t, .int .i64 ok, .int .i64 1, .int .i64 oc, .string od] 44)).alloc (.cells #[.int .i64 0, .slice none 0 0, .slice none 0 0, .bool false, .bool false, .int .i64 0, .slice none 0 0, .slice none 0 0] 60)).alloc (.cells #[.int .i64 0, .string ⟨#[]⟩, .int .i64 0, .slice none 0 0] 47)).alloc (.cells #[.int .i64 0, .string ⟨#[]⟩, .int .i64 0, .slice none 0 0] 47)).alloc (.cells #[.int .i64 ok, .int .i64 1, .int .i64 oc, .string od] 107)) (w.heap.size + 1) 44 [.int .i64 6, .int .i64 t, .int .i64 ok, .int .i64 1, .int .i64 oc, .string od] from ((((blk_at (by simp) 44 [_, _, _, _, _, _]).alloc _).alloc _).alloc _).alloc _)
  have KZ0 := Lib.hid (show Blk ((((((w.alloc (.cells #[.int .i64 st.limit, .slice za0 st.q0.length zk0, .slice za1 st.q1.length zk1, .bool st.c0, .bool st.c1, .int .i64 st.tks, .slice zaw st.ws.length zkw, .slice zaa st.ans.length zka] 60)).alloc (.cells #[.int .i64 6, .int .i64 t, .int .i64 ok, .int .i64 1, .int .i64 oc, .string od] 44)).alloc (.cells #[.int .i64 0, .slice none 0 0, .slice none 0 0, .bool false, .bool false, .int .i64 0, .slice none 0 0, .slice none 0 0] 60)).alloc (.cells #[.int .i64 0, .string ⟨#[]⟩, .int .i64 0, .slice none 0 0] 47)).alloc (.cells #[.int .i64 0, .string ⟨#[]⟩, .int .i64 0, .slice none 0 0] 47)).alloc (.cells #[.int .i64 ok, .int .i64 1, .int .i64 oc, .string od] 107)) (w.heap.size + 1 + 1) 60 [.int .i64 0, .slice none 0 0, .slice none 0 0, .bool false, .bool false, .int .i64 0, .slice none 0 0, .slice none 0 0] from (((blk_at (by simp) 60 [_, _, _, _, _, _, _, _]).alloc _).alloc _).alloc _)
  have K50 := Lib.hid (show Blk ((((((w.alloc (.cells #[.int .i64 st.limit, .slice za0 st.q0.length zk0, .slice za1 st.q1.length zk1, .bool st.c0, .bool st.c1, .int .i64 st.tks, .slice zaw st.ws.length zkw, .slice zaa st.ans.length zka] 60)).alloc (.cells #[.int .i64 6, .int .i64 t, .int .i64 ok, .int .i64 1, .int .i64 oc, .string od] 44)).alloc (.cells #[.int .i64 0, .slice none 0 0, .slice none 0 0, .bool false, .bool false, .int .i64 0, .slice none 0 0, .slice none 0 0] 60)).alloc (.cells #[.int .i64 0, .string ⟨#[]⟩, .int .i64 0, .slice none 0 0] 47)).alloc (.cells #[.int .i64 0, .string ⟨#[]⟩, .int .i64 0, .slice none 0 0] 47)).alloc (.cells #[.int .i64 ok, .int .i64 1, .int .i64 oc, .string od] 107)) (w.heap.size + 1 + 1 + 1) 47 [.int .i64 0, .string ⟨#[]⟩, .int .i64 0, .slice none 0 0] from ((blk_at (by simp) 47 [_, _, _, _]).alloc _).alloc _)
  have K60 := Lib.hid (show Blk ((((((w.alloc (.cells #[.int .i64 st.limit, .slice za0 st.q0.length zk0, .slice za1 st.q1.length zk1, .bool st.c0, .bool st.c1, .int .i64 st.tks, .slice zaw st.ws.length zkw, .slice zaa st.ans.length zka] 60)).alloc (.cells #[.int .i64 6, .int .i64 t, .int .i64 ok, .int .i64 1, .int .i64 oc, .string od] 44)).alloc (.cells #[.int .i64 0, .slice none 0 0, .slice none 0 0, .bool false, .bool false, .int .i64 0, .slice none 0 0, .slice none 0 0] 60)).alloc (.cells #[.int .i64 0, .string ⟨#[]⟩, .int .i64 0, .slice none 0 0] 47)).alloc (.cells #[.int .i64 0, .string ⟨#[]⟩, .int .i64 0, .slice none 0 0] 47)).alloc (.cells #[.int .i64 ok, .int .i64 1, .int .i64 oc, .string od] 107)) (w.heap.size + 1 + 1 + 1 + 1) 47 [.int .i64 0, .string ⟨#[]⟩, .int .i64 0, .slice none 0 0] from (blk_at (by simp) 47 [_, _, _, _]).alloc _)
  have K70 := Lib.hid (show Blk ((((((w.alloc (.cells #[.int .i64 st.limit, .slice za0 st.q0.length zk0, .slice za1 st.q1.length zk1, .bool st.c0, .bool st.c1, .int .i64 st.tks, .slice zaw st.ws.length zkw, .slice zaa st.ans.length zka] 60)).alloc (.cells #[.int .i64 6, .int .i64 t, .int .i64 ok, .int .i64 1, .int .i64 oc, .string od] 44)).alloc (.cells #[.int .i64 0, .slice none 0 0, .slice none 0 0, .bool false, .bool false, .int .i64 0, .slice none 0 0, .slice none 0 0] 60)).alloc (.cells #[.int .i64 0, .string ⟨#[]⟩, .int .i64 0, .slice none 0 0] 47)).alloc (.cells #[.int .i64 0, .string ⟨#[]⟩, .int .i64 0, .slice none 0 0] 47)).alloc (.cells #[.int .i64 ok, .int .i64 1, .int .i64 oc, .string od] 107)) (w.heap.size + 1 + 1 + 1 + 1 + 1) 107 [.int .i64 ok, .int .i64 1, .int .i64 oc, .string od] from blk_at (by simp) 107 [_, _, _, _])
  go_enter Try.func23, Try.ntmps23
  go_upto_region 31 with (go_at_call 45; refine (C.out _ BB0.out).mono ?_; rintro e v1 ⟨S1, he1, R1, hb⟩; obtain ⟨ta0, tk0, ta1, tk1, taw, tkw, taa, tka, rfl⟩ := R1.open; (try unfold rpV at he1); (try dsimp only at he1); subst he1; have HR1 := Lib.hid R1; have BB1 := Lib.hid (keepBelow BB0.out hb); have KA1 := Lib.hid (keepBlk hb KA0.out); have a0 : v1.cell? ⟨w.heap.size, 0, none⟩ = some (.int .i64 st.limit) := KA1.out.cell 0; have a1 : v1.cell? ⟨w.heap.size, 1, none⟩ = some (.slice za0 st.q0.length zk0) := KA1.out.cell 1; have a2 : v1.cell? ⟨w.heap.size, 2, none⟩ = some (.slice za1 st.q1.length zk1) := KA1.out.cell 2; have a3 : v1.cell? ⟨w.heap.size, 3, none⟩ = some (.bool st.c0) := KA1.out.cell 3; have a4 : v1.cell? ⟨w.heap.size, 4, none⟩ = some (.bool st.c1) := KA1.out.cell 4; have a5 : v1.cell? ⟨w.heap.size, 5, none⟩ = some (.int .i64 st.tks) := KA1.out.cell 5; have a6 : v1.cell? ⟨w.heap.size, 6, none⟩ = some (.slice zaw st.ws.length zkw) := KA1.out.cell 6; have a7 : v1.cell? ⟨w.heap.size, 7, none⟩ = some (.slice zaa st.ans.length zka) := KA1.out.cell 7; have K61 := Lib.hid (keepBlk hb K60.out); have d0 : v1.cell? ⟨w.heap.size + 1 + 1 + 1 + 1, 0, none⟩ = some (.int .i64 0) := K61.out.cell 0; have d1 : v1.cell? ⟨w.heap.size + 1 + 1 + 1 + 1, 1, none⟩ = some (.string ⟨#[]⟩) := K61.out.cell 1; have d2 : v1.cell? ⟨w.heap.size + 1 + 1 + 1 + 1, 2, none⟩ = some (.int .i64 0) := K61.out.cell 2; have d3 : v1.cell? ⟨w.heap.size + 1 + 1 + 1 + 1, 3, none⟩ = some (.slice none 0 0) := K61.out.cell 3; have KZ1 := Lib.hid (keepBlk hb KZ0.out); have K51 := Lib.hid (keepBlk hb K50.out); have fA1 := fun i => KA1.out.frozen i; have f61 := fun i => K61.out.frozen i; clear hb R1)
  refine gen_world (fun wx => Mid F w ⟨.slice ta0 (onceR st ⟨1, 1, 0, od⟩).1.q0.length tk0, .slice ta1 (onceR st ⟨1, 1, 0, od⟩).1.q1.length tk1, .slice taw (onceR st ⟨1, 1, 0, od⟩).1.ws.length tkw, .slice taa (onceR st ⟨1, 1, 0, od⟩).1.ans.length tka⟩ (onceR st ⟨1, 1, 0, od⟩).1 0 ⟨#[]⟩ (onceR st ⟨1, 1, 0, od⟩).2.2.2 (.slice none 0 0) [] wx) ?_ (fun wc hcut => ?_)
  · obtain ⟨o1, o2, o3, o4⟩ := put8 KA1.out (.int .i64 (onceR st ⟨1, 1, 0, od⟩).1.limit) (.slice ta0 (onceR st ⟨1, 1, 0, od⟩).1.q0.length tk0) (.slice ta1 (onceR st ⟨1, 1, 0, od⟩).1.q1.length tk1) (.bool (onceR st ⟨1, 1, 0, od⟩).1.c0) (.bool (onceR st ⟨1, 1, 0, od⟩).1.c1) (.int .i64 (onceR st ⟨1, 1, 0, od⟩).1.tks) (.slice taw (onceR st ⟨1, 1, 0, od⟩).1.ws.length tkw) (.slice taa (onceR st ⟨1, 1, 0, od⟩).1.ans.length tka)
    have q6 := o4 K61.out (show w.heap.size + 1 + 1 + 1 + 1 ≠ w.heap.size by omega)
    exact ⟨(o1.far (p := ⟨w.heap.size + 1 + 1 + 1 + 1, 2, none⟩) (show w.heap.size ≠ w.heap.size + 1 + 1 + 1 + 1 by omega) _), (q6.set_ 2 _), ((o4 KZ1.out (show w.heap.size + 1 + 1 ≠ w.heap.size by omega)).far (p := ⟨w.heap.size + 1 + 1 + 1 + 1, 2, none⟩) (show w.heap.size + 1 + 1 ≠ w.heap.size + 1 + 1 + 1 + 1 by omega) _), ((o4 K51.out (show w.heap.size + 1 + 1 + 1 ≠ w.heap.size by omega)).far (p := ⟨w.heap.size + 1 + 1 + 1 + 1, 2, none⟩) (show w.heap.size + 1 + 1 + 1 ≠ w.heap.size + 1 + 1 + 1 + 1 by omega) _), ((Ref.mk (S := ⟨.slice ta0 (onceR st ⟨1, 1, 0, od⟩).1.q0.length tk0, .slice ta1 (onceR st ⟨1, 1, 0, od⟩).1.q1.length tk1, .slice taw (onceR st ⟨1, 1, 0, od⟩).1.ws.length tkw, .slice taa (onceR st ⟨1, 1, 0, od⟩).1.ans.length tka⟩) (st := (onceR st ⟨1, 1, 0, od⟩).1) (o2 HR1.out.r0 (by decide)) (o2 HR1.out.r1 (by decide)) (o2 HR1.out.rw_ (by decide)) (o2 HR1.out.ra (by decide)) (HR1.out.o.to (o3 (Below.refl 0 _) (Nat.zero_le _)).size)).set47 (i := 2) q6 _), Row.nil _ _ _, ((o3 BB1.out (Nat.le_refl _)).setCell (p := ⟨w.heap.size + 1 + 1 + 1 + 1, 2, none⟩) (show w.heap.size ≤ w.heap.size + 1 + 1 + 1 + 1 by omega) _)⟩
  obtain ⟨hx, h6, hz, h5, hr, hw, hb⟩ := hcut
  have KX := Lib.hid hx
  have K6 := Lib.hid h6
  have KZ := Lib.hid hz
  have K5 := Lib.hid h5
  have MR := Lib.hid hr
  have MW := Lib.hid hw
  have MB := Lib.hid hb
  clear hx h6 hz h5 hr hw hb
  have g0 : wc.cell? ⟨w.heap.size, 0, none⟩ = some (.int .i64 (onceR st ⟨1, 1, 0, od⟩).1.limit) := KX.out.cell 0
  have g1 : wc.cell? ⟨w.heap.size, 1, none⟩ = some (.slice ta0 (onceR st ⟨1, 1, 0, od⟩).1.q0.length tk0) := KX.out.cell 1
  have g2 : wc.cell? ⟨w.heap.size, 2, none⟩ = some (.slice ta1 (onceR st ⟨1, 1, 0, od⟩).1.q1.length tk1) := KX.out.cell 2
  have g3 : wc.cell? ⟨w.heap.size, 3, none⟩ = some (.bool (onceR st ⟨1, 1, 0, od⟩).1.c0) := KX.out.cell 3
  have g4 : wc.cell? ⟨w.heap.size, 4, none⟩ = some (.bool (onceR st ⟨1, 1, 0, od⟩).1.c1) := KX.out.cell 4
  have g5 : wc.cell? ⟨w.heap.size, 5, none⟩ = some (.int .i64 (onceR st ⟨1, 1, 0, od⟩).1.tks) := KX.out.cell 5
  have g6 : wc.cell? ⟨w.heap.size, 6, none⟩ = some (.slice taw (onceR st ⟨1, 1, 0, od⟩).1.ws.length tkw) := KX.out.cell 6
  have g7 : wc.cell? ⟨w.heap.size, 7, none⟩ = some (.slice taa (onceR st ⟨1, 1, 0, od⟩).1.ans.length tka) := KX.out.cell 7
  have h0 : wc.cell? ⟨w.heap.size + 1 + 1 + 1 + 1, 0, none⟩ = some (.int .i64 0) := K6.out.cell 0
  have h1 : wc.cell? ⟨w.heap.size + 1 + 1 + 1 + 1, 1, none⟩ = some (.string ⟨#[]⟩) := K6.out.cell 1
  have h2 : wc.cell? ⟨w.heap.size + 1 + 1 + 1 + 1, 2, none⟩ = some (.int .i64 (onceR st ⟨1, 1, 0, od⟩).2.2.2) := K6.out.cell 2
  have h3 : wc.cell? ⟨w.heap.size + 1 + 1 + 1 + 1, 3, none⟩ = some (.slice none 0 0) := K6.out.cell 3
  have z0 : wc.cell? ⟨w.heap.size + 1 + 1, 0, none⟩ = some (.int .i64 0) := KZ.out.cell 0
  have z1 : wc.cell? ⟨w.heap.size + 1 + 1, 1, none⟩ = some (.slice none 0 0) := KZ.out.cell 1
  have z2 : wc.cell? ⟨w.heap.size + 1 + 1, 2, none⟩ = some (.slice none 0 0) := KZ.out.cell 2
  have z3 : wc.cell? ⟨w.heap.size + 1 + 1, 3, none⟩ = some (.bool false) := KZ.out.cell 3
  have z4 : wc.cell? ⟨w.heap.size + 1 + 1, 4, none⟩ = some (.bool false) := KZ.out.cell 4
  have z5 : wc.cell? ⟨w.heap.size + 1 + 1, 5, none⟩ = some (.int .i64 0) := KZ.out.cell 5
  have z6 : wc.cell? ⟨w.heap.size + 1 + 1, 6, none⟩ = some (.slice none 0 0) := KZ.out.cell 6
  have z7 : wc.cell? ⟨w.heap.size + 1 + 1, 7, none⟩ = some (.slice none 0 0) := KZ.out.cell 7
  have y0 : wc.cell? ⟨w.heap.size + 1 + 1 + 1, 0, none⟩ = some (.int .i64 0) := K5.out.cell 0
  have y1 : wc.cell? ⟨w.heap.size + 1 + 1 + 1, 1, none⟩ = some (.string ⟨#[]⟩) := K5.out.cell 1
  have y2 : wc.cell? ⟨w.heap.size + 1 + 1 + 1, 2, none⟩ = some (.int .i64 0) := K5.out.cell 2
  have y3 : wc.cell? ⟨w.heap.size + 1 + 1 + 1, 3, none⟩ = some (.slice none 0 0) := K5.out.cell 3
  have fz := fun i => KZ.out.frozen i
  have fy := fun i => K5.out.frozen i
  have nz1 : w.heap.size ≠ w.heap.size + 1 + 1 := by omega
  have nz2 : w.heap.size + 1 + 1 + 1 + 1 ≠ w.heap.size + 1 + 1 := by omega
  have nz3 : w.heap.size ≠ w.heap.size + 1 + 1 + 1 := by omega
  have nz4 : w.heap.size + 1 + 1 + 1 + 1 ≠ w.heap.size + 1 + 1 + 1 := by omega
  have nz5 : w.heap.size + 1 + 1 ≠ w.heap.size + 1 + 1 + 1 := by omega
  have nz6 : w.heap.size + 1 + 1 + 1 ≠ w.heap.size + 1 + 1 := by omega
  go_region
  all_goals
    obtain ⟨o1, o2, o3, o4⟩ := put8 KZ.out (.int .i64 (onceR st ⟨1, 1, 0, od⟩).1.limit) (.slice ta0 (onceR st ⟨1, 1, 0, od⟩).1.q0.length tk0) (.slice ta1 (onceR st ⟨1, 1, 0, od⟩).1.q1.length tk1) (.bool (onceR st ⟨1, 1, 0, od⟩).1.c0) (.bool (onceR st ⟨1, 1, 0, od⟩).1.c1) (.int .i64 (onceR st ⟨1, 1, 0, od⟩).1.tks) (.slice taw (onceR st ⟨1, 1, 0, od⟩).1.ws.length tkw) (.slice taa (onceR st ⟨1, 1, 0, od⟩).1.ans.length tka)
    obtain ⟨p1, p2, p3, p4⟩ := put4 (o4 K5.out nz6) (.int .i64 0) (.string ⟨#[]⟩) (.int .i64 (onceR st ⟨1, 1, 0, od⟩).2.2.2) (.slice none 0 0)
    have kz := (p4 o1 nz5).drew
    have k5 := p1.drew
    have r0 := (p2 (o2 MR.out.r0 (by decide)) (by decide)).drew
    have r1 := (p2 (o2 MR.out.r1 (by decide)) (by decide)).drew
    have r2 := (p2 (o2 MR.out.rw_ (by decide)) (by decide)).drew
    have r3 := (p2 (o2 MR.out.ra (by decide)) (by decide)).drew
    have ra := (p2 (o2 MW.out (by decide)) (by decide)).drew
    have rb := (p3 (o3 MB.out (show w.heap.size ≤ w.heap.size + 1 + 1 by omega)) (show w.heap.size ≤ w.heap.size + 1 + 1 + 1 by omega)).drew
    have ro := MR.out.o.to (p3 (o3 (Below.refl 0 _) (Nat.zero_le _)) (Nat.zero_le _)).drew.size
    clear o1 o2 o3 o4 p1 p2 p3 p4
    go_wp2_with fail
    exact bodyPost_ret (res60_47 rfl _ _ (w.heap.size + 1 + 1) (w.heap.size + 1 + 1 + 1) _ _ _ _ _ _ _ _ _ _ _ _ rfl rfl kz k5) rfl ⟨⟨.slice ta0 (onceR st ⟨1, 1, 0, od⟩).1.q0.length tk0, .slice ta1 (onceR st ⟨1, 1, 0, od⟩).1.q1.length tk1, .slice taw (onceR st ⟨1, 1, 0, od⟩).1.ws.length tkw, .slice taa (onceR st ⟨1, 1, 0, od⟩).1.ans.length tka⟩, .slice none 0 0, rfl, ⟨r0, r1, r2, r3, ro⟩, ra, rb⟩
set_option maxRecDepth 100000 in
set_option maxHeartbeats 3200000 in
theorem ref_recv1 (t ok oc : Int) (od : ByteArray) {N : Nat} {l : Int} (S : Sl) (st : St) (hg : Rg N l st) (hN : N ≤ 880) (w : World) (hR : Ref F w S st) :
    Calls Try.prog 23 #[rpV S st, .agg #[.int .i64 7, .int .i64 t, .int .i64 ok, .int .i64 1, .int .i64 oc, .string od]] w (RefSays F w (recvR st 1).1 0 (recvR st 1).2.1 (recvR st 1).2.2 []) := by
  have C := Lib.hid (fun W (hb : Below w.heap.size w W) => rrecv_any 1 (.inr rfl) (N := N) (l := l) hg.L S st hg.G (by omega) hg.B hg.X W (hR.below hb))
  obtain ⟨za0, zk0, za1, zk1, zaw, zkw, zaa, zka, rfl⟩ := hR.open
  clear hR
  unfold rpV at *
  have BB0 := Lib.hid (show Below w.heap.size w ((((((w.alloc (.cells #[.int .i64 st.limit, .slice za0 st.q0.length zk0, .slice za1 st.q1.length zk1, .bool st.c0, .bool st.c1, .int .i64 st.tks, .slice zaw st.ws.length zkw, .slice zaa st.ans.length zka] 60)).alloc (.cells #[.int .i64 7, .int .i64 t, .int .i64 ok, .int .i64 1, .int .i64 oc, .string od] 44)).alloc (.cells #[.int .i64 0, .slice none 0 0, .slice none 0 0, .bool false, .bool false, .int .i64 0, .slice none 0 0, .slice none 0 0] 60)).alloc (.cells #[.int .i64 0, .string ⟨#[]⟩, .int .i64 0, .slice none 0 0] 47)).alloc (.cells #[.int .i64 0, .string ⟨#[]⟩, .int .i64 0, .slice none 0 0] 47)).alloc (.cells #[.int .i64 ok, .int .i64 1, .int .i64 oc, .string od] 107)) from ((((((Below.refl _ _).alloc (Nat.le_refl _) _).alloc (by simp) _).alloc (by simp; omega) _).alloc (by simp; omega) _).alloc (by simp; omega) _).alloc (by simp; omega) _)
  have KA0 := Lib.hid (show Blk ((((((w.alloc (.cells #[.int .i64 st.limit, .slice za0 st.q0.length zk0, .slice za1 st.q1.length zk1, .bool st.c0, .bool st.c1, .int .i64 st.tks, .slice zaw st.ws.length zkw, .slice zaa st.ans.length zka] 60)).alloc (.cells #[.int .i64 7, .int .i64 t, .int .i64 ok, .int .i64 1, .int .i64 oc, .string od] 44)).alloc (.cells #[.int .i64 0, .slice none 0 0, .slice none 0 0, .bool false, .bool false, .int .i64 0, .slice none 0 0, .slice none 0 0] 60)).alloc (.cells #[.int .i64 0, .string ⟨#[]⟩, .int .i64 0, .slice none 0 0] 47)).alloc (.cells #[.int .i64 0, .string ⟨#[]⟩, .int .i64 0, .slice none 0 0] 47)).alloc (.cells #[.int .i64 ok, .int .i64 1, .int .i64 oc, .string od] 107)) (w.heap.size) 60 [.int .i64 st.limit, .slice za0 st.q0.length zk0, .slice za1 st.q1.length zk1, .bool st.c0, .bool st.c1, .int .i64 st.tks, .slice zaw st.ws.length zkw, .slice zaa st.ans.length zka] from (((((Blk.new w 60 _).alloc _).alloc _).alloc _).alloc _).alloc _)
  have KT0 := Lib.hid (show Blk ((((((w.alloc (.cells #[.int .i64 st.limit, .slice za0 st.q0.length zk0, .slice za1 st.q1.length zk1, .bool st.c0, .bool st.c1, .int .i64 st.tks, .slice zaw st.ws.length zkw, .slice zaa st.ans.length zka] 60)).alloc (.cells #[.int .i64 7, .int .i64 t, .int .i64 ok, .int .i64 1, .int .i64 oc, .string od] 44)).alloc (.cells #[.int .i64 0, .slice none 0 0, .slice none 0 0, .bool false, .bool false, .int .i64 0, .slice none 0 0, .slice none 0 0] 60)).alloc (.cells #[.int .i64 0, .string ⟨#[]⟩, .int .i64 0, .slice none 0 0] 47)).alloc (.cells #[.int .i64 0, .string ⟨#[]⟩, .int .i64 0, .slice none 0 0] 47)).alloc (.cells #[.int .i64 ok, .int .i64 1, .int .i64 oc, .string od] 107)) (w.heap.size + 1) 44 [.int .i64 7, .int .i64 t, .int .i64 ok, .int .i64 1, .int .i64 oc, .string od] from ((((blk_at (by simp) 44 [_, _, _, _, _, _]).alloc _).alloc _).alloc _).alloc _)
  have KZ0 := Lib.hid (show Blk ((((((w.alloc (.cells #[.int .i64 st.limit, .slice za0 st.q0.length zk0, .slice za1 st.q1.length zk1, .bool st.c0, .bool st.c1, .int .i64 st.tks, .slice zaw st.ws.length zkw, .slice zaa st.ans.length zka] 60)).alloc (.cells #[.int .i64 7, .int .i64 t, .int .i64 ok, .int .i64 1, .int .i64 oc, .string od] 44)).alloc (.cells #[.int .i64 0, .slice none 0 0, .slice none 0 0, .bool false, .bool false, .int .i64 0, .slice none 0 0, .slice none 0 0] 60)).alloc (.cells #[.int .i64 0, .string ⟨#[]⟩, .int .i64 0, .slice none 0 0] 47)).alloc (.cells #[.int .i64 0, .string ⟨#[]⟩, .int .i64 0, .slice none 0 0] 47)).alloc (.cells #[.int .i64 ok, .int .i64 1, .int .i64 oc, .string od] 107)) (w.heap.size + 1 + 1) 60 [.int .i64 0, .slice none 0 0, .slice none 0 0, .bool false, .bool false, .int .i64 0, .slice none 0 0, .slice none 0 0] from (((blk_at (by simp) 60 [_, _, _, _, _, _, _, _]).alloc _).alloc _).alloc _)
  have K50 := Lib.hid (show Blk ((((((w.alloc (.cells #[.int .i64 st.limit, .slice za0 st.q0.length zk0, .slice za1 st.q1.length zk1, .bool st.c0, .bool st.c1, .int .i64 st.tks, .slice zaw st.ws.length zkw, .slice zaa st.ans.length zka] 60)).alloc (.cells #[.int .i64 7, .int .i64 t, .int .i64 ok, .int .i64 1, .int .i64 oc, .string od] 44)).alloc (.cells #[.int .i64 0, .slice none 0 0, .slice none 0 0, .bool false, .bool false, .int .i64 0, .slice none 0 0, .slice none 0 0] 60)).alloc (.cells #[.int .i64 0, .string ⟨#[]⟩, .int .i64 0, .slice none 0 0] 47)).alloc (.cells #[.int .i64 0, .string ⟨#[]⟩, .int .i64 0, .slice none 0 0] 47)).alloc (.cells #[.int .i64 ok, .int .i64 1, .int .i64 oc, .string od] 107)) (w.heap.size + 1 + 1 + 1) 47 [.int .i64 0, .string ⟨#[]⟩, .int .i64 0, .slice none 0 0] from ((blk_at (by simp) 47 [_, _, _, _]).alloc _).alloc _)
  have K60 := Lib.hid (show Blk ((((((w.alloc (.cells #[.int .i64 st.limit, .slice za0 st.q0.length zk0, .slice za1 st.q1.length zk1, .bool st.c0, .bool st.c1, .int .i64 st.tks, .slice zaw st.ws.length zkw, .slice zaa st.ans.length zka] 60)).alloc (.cells #[.int .i64 7, .int .i64 t, .int .i64 ok, .int .i64 1, .int .i64 oc, .string od] 44)).alloc (.cells #[.int .i64 0, .slice none 0 0, .slice none 0 0, .bool false, .bool false, .int .i64 0, .slice none 0 0, .slice none 0 0] 60)).alloc (.cells #[.int .i64 0, .string ⟨#[]⟩, .int .i64 0, .slice none 0 0] 47)).alloc (.cells #[.int .i64 0, .string ⟨#[]⟩, .int .i64 0, .slice none 0 0] 47)).alloc (.cells #[.int .i64 ok, .int .i64 1, .int .i64 oc, .string od] 107)) (w.heap.size + 1 + 1 + 1 + 1) 47 [.int .i64 0, .string ⟨#[]⟩, .int .i64 0, .slice none 0 0] from (blk_at (by simp) 47 [_, _, _, _]).alloc _)
  have K70 := Lib.hid (show Blk ((((((w.alloc (.cells #[.int .i64 st.limit, .slice za0 st.q0.length zk0, .slice za1 st.q1.length zk1, .bool st.c0, .bool st.c1, .int .i64 st.tks, .slice zaw st.ws.length zkw, .slice zaa st.ans.length zka] 60)).alloc (.cells #[.int .i64 7, .int .i64 t, .int .i64 ok, .int .i64 1, .int .i64 oc, .string od] 44)).alloc (.cells #[.int .i64 0, .slice none 0 0, .slice none 0 0, .bool false, .bool false, .int .i64 0, .slice none 0 0, .slice none 0 0] 60)).alloc (.cells #[.int .i64 0, .string ⟨#[]⟩, .int .i64 0, .slice none 0 0] 47)).alloc (.cells #[.int .i64 0, .string ⟨#[]⟩, .int .i64 0, .slice none 0 0] 47)).alloc (.cells #[.int .i64 ok, .int .i64 1, .int .i64 oc, .string od] 107)) (w.heap.size + 1 + 1 + 1 + 1 + 1) 107 [.int .i64 ok, .int .i64 1, .int .i64 oc, .string od] from blk_at (by simp) 107 [_, _, _, _])
  go_enter Try.func23, Try.ntmps23
  go_upto_region 31 with (go_at_call 50; refine (C.out _ BB0.out).mono ?_; rintro e v1 ⟨S1, he1, R1, hb⟩; obtain ⟨ta0, tk0, ta1, tk1, taw, tkw, taa, tka, rfl⟩ := R1.open; (try unfold rpV at he1); (try dsimp only at he1); subst he1; have HR1 := Lib.hid R1; have BB1 := Lib.hid (keepBelow BB0.out hb); have KA1 := Lib.hid (keepBlk hb KA0.out); have a0 : v1.cell? ⟨w.heap.size, 0, none⟩ = some (.int .i64 st.limit) := KA1.out.cell 0; have a1 : v1.cell? ⟨w.heap.size, 1, none⟩ = some (.slice za0 st.q0.length zk0) := KA1.out.cell 1; have a2 : v1.cell? ⟨w.heap.size, 2, none⟩ = some (.slice za1 st.q1.length zk1) := KA1.out.cell 2; have a3 : v1.cell? ⟨w.heap.size, 3, none⟩ = some (.bool st.c0) := KA1.out.cell 3; have a4 : v1.cell? ⟨w.heap.size, 4, none⟩ = some (.bool st.c1) := KA1.out.cell 4; have a5 : v1.cell? ⟨w.heap.size, 5, none⟩ = some (.int .i64 st.tks) := KA1.out.cell 5; have a6 : v1.cell? ⟨w.heap.size, 6, none⟩ = some (.slice zaw st.ws.length zkw) := KA1.out.cell 6; have a7 : v1.cell? ⟨w.heap.size, 7, none⟩ = some (.slice zaa st.ans.length zka) := KA1.out.cell 7; have K61 := Lib.hid (keepBlk hb K60.out); have d0 : v1.cell? ⟨w.heap.size + 1 + 1 + 1 + 1, 0, none⟩ = some (.int .i64 0) := K61.out.cell 0; have d1 : v1.cell? ⟨w.heap.size + 1 + 1 + 1 + 1, 1, none⟩ = some (.string ⟨#[]⟩) := K61.out.cell 1; have d2 : v1.cell? ⟨w.heap.size + 1 + 1 + 1 + 1, 2, none⟩ = some (.int .i64 0) := K61.out.cell 2; have d3 : v1.cell? ⟨w.heap.size + 1 + 1 + 1 + 1, 3, none⟩ = some (.slice none 0 0) := K61.out.cell 3; have KZ1 := Lib.hid (keepBlk hb KZ0.out); have K51 := Lib.hid (keepBlk hb K50.out); have fA1 := fun i => KA1.out.frozen i; have f61 := fun i => K61.out.frozen i; clear hb R1)
  refine gen_world (fun wx => Mid F w ⟨.slice ta0 (recvR st 1).1.q0.length tk0, .slice ta1 (recvR st 1).1.q1.length tk1, .slice taw (recvR st 1).1.ws.length tkw, .slice taa (recvR st 1).1.ans.length tka⟩ (recvR st 1).1 0 (recvR st 1).2.1 (recvR st 1).2.2 (.slice none 0 0) [] wx) ?_ (fun wc hcut => ?_)
  · obtain ⟨o1, o2, o3, o4⟩ := put8 KA1.out (.int .i64 (recvR st 1).1.limit) (.slice ta0 (recvR st 1).1.q0.length tk0) (.slice ta1 (recvR st 1).1.q1.length tk1) (.bool (recvR st 1).1.c0) (.bool (recvR st 1).1.c1) (.int .i64 (recvR st 1).1.tks) (.slice taw (recvR st 1).1.ws.length tkw) (.slice taa (recvR st 1).1.ans.length tka)
    have q6 := o4 K61.out (show w.heap.size + 1 + 1 + 1 + 1 ≠ w.heap.size by omega)
    exact ⟨((o1.far (p := ⟨w.heap.size + 1 + 1 + 1 + 1, 1, none⟩) (show w.heap.size ≠ w.heap.size + 1 + 1 + 1 + 1 by omega) _).far (p := ⟨w.heap.size + 1 + 1 + 1 + 1, 2, none⟩) (show w.heap.size ≠ w.heap.size + 1 + 1 + 1 + 1 by omega) _), ((q6.set_ 1 _).set_ 2 _), (((o4 KZ1.out (show w.heap.size + 1 + 1 ≠ w.heap.size by omega)).far (p := ⟨w.heap.size + 1 + 1 + 1 + 1, 1, none⟩) (show w.heap.size + 1 + 1 ≠ w.heap.size + 1 + 1 + 1 + 1 by omega) _).far (p := ⟨w.heap.size + 1 + 1 + 1 + 1, 2, none⟩) (show w.heap.size + 1 + 1 ≠ w.heap.size + 1 + 1 + 1 + 1 by omega) _), (((o4 K51.out (show w.heap.size + 1 + 1 + 1 ≠ w.heap.size by omega)).far (p := ⟨w.heap.size + 1 + 1 + 1 + 1, 1, none⟩) (show w.heap.size + 1 + 1 + 1 ≠ w.heap.size + 1 + 1 + 1 + 1 by omega) _).far (p := ⟨w.heap.size + 1 + 1 + 1 + 1, 2, none⟩) (show w.heap.size + 1 + 1 + 1 ≠ w.heap.size + 1 + 1 + 1 + 1 by omega) _), (((Ref.mk (S := ⟨.slice ta0 (recvR st 1).1.q0.length tk0, .slice ta1 (recvR st 1).1.q1.length tk1, .slice taw (recvR st 1).1.ws.length tkw, .slice taa (recvR st 1).1.ans.length tka⟩) (st := (recvR st 1).1) (o2 HR1.out.r0 (by decide)) (o2 HR1.out.r1 (by decide)) (o2 HR1.out.rw_ (by decide)) (o2 HR1.out.ra (by decide)) (HR1.out.o.to (o3 (Below.refl 0 _) (Nat.zero_le _)).size)).set47 (i := 1) q6 _).set47 (i := 2) (q6.set_ 1 _) _), Row.nil _ _ _, (((o3 BB1.out (Nat.le_refl _)).setCell (p := ⟨w.heap.size + 1 + 1 + 1 + 1, 1, none⟩) (show w.heap.size ≤ w.heap.size + 1 + 1 + 1 + 1 by omega) _).setCell (p := ⟨w.heap.size + 1 + 1 + 1 + 1, 2, none⟩) (show w.heap.size ≤ w.heap.size + 1 + 1 + 1 + 1 by omega) _)⟩
  obtain ⟨hx, h6, hz, h5, hr, hw, hb⟩ := hcut
  have KX := Lib.hid hx
  have K6 := Lib.hid h6
  have KZ := Lib.hid hz
  have K5 := Lib.hid h5
  have MR := Lib.hid hr
  have MW := Lib.hid hw
  have MB := Lib.hid hb
  clear hx h6 hz h5 hr hw hb
  have g0 : wc.cell? ⟨w.heap.size, 0, none⟩ = some (.int .i64 (recvR st 1).1.limit) := KX.out.cell 0
  have g1 : wc.cell? ⟨w.heap.size, 1, none⟩ = some (.slice ta0 (recvR st 1).1.q0.length tk0) := KX.out.cell 1
  have g2 : wc.cell? ⟨w.heap.size, 2, none⟩ = some (.slice ta1 (recvR st 1).1.q1.length tk1) := KX.out.cell 2
  have g3 : wc.cell? ⟨w.heap.size, 3, none⟩ = some (.bool (recvR st 1).1.c0) := KX.out.cell 3
  have g4 : wc.cell? ⟨w.heap.size, 4, none⟩ = some (.bool (recvR st 1).1.c1) := KX.out.cell 4
  have g5 : wc.cell? ⟨w.heap.size, 5, none⟩ = some (.int .i64 (recvR st 1).1.tks) := KX.out.cell 5
  have g6 : wc.cell? ⟨w.heap.size, 6, none⟩ = some (.slice taw (recvR st 1).1.ws.length tkw) := KX.out.cell 6
  have g7 : wc.cell? ⟨w.heap.size, 7, none⟩ = some (.slice taa (recvR st 1).1.ans.length tka) := KX.out.cell 7
  have h0 : wc.cell? ⟨w.heap.size + 1 + 1 + 1 + 1, 0, none⟩ = some (.int .i64 0) := K6.out.cell 0
  have h1 : wc.cell? ⟨w.heap.size + 1 + 1 + 1 + 1, 1, none⟩ = some (.string (recvR st 1).2.1) := K6.out.cell 1
  have h2 : wc.cell? ⟨w.heap.size + 1 + 1 + 1 + 1, 2, none⟩ = some (.int .i64 (recvR st 1).2.2) := K6.out.cell 2
  have h3 : wc.cell? ⟨w.heap.size + 1 + 1 + 1 + 1, 3, none⟩ = some (.slice none 0 0) := K6.out.cell 3
  have z0 : wc.cell? ⟨w.heap.size + 1 + 1, 0, none⟩ = some (.int .i64 0) := KZ.out.cell 0
  have z1 : wc.cell? ⟨w.heap.size + 1 + 1, 1, none⟩ = some (.slice none 0 0) := KZ.out.cell 1
  have z2 : wc.cell? ⟨w.heap.size + 1 + 1, 2, none⟩ = some (.slice none 0 0) := KZ.out.cell 2
  have z3 : wc.cell? ⟨w.heap.size + 1 + 1, 3, none⟩ = some (.bool false) := KZ.out.cell 3
  have z4 : wc.cell? ⟨w.heap.size + 1 + 1, 4, none⟩ = some (.bool false) := KZ.out.cell 4
  have z5 : wc.cell? ⟨w.heap.size + 1 + 1, 5, none⟩ = some (.int .i64 0) := KZ.out.cell 5
  have z6 : wc.cell? ⟨w.heap.size + 1 + 1, 6, none⟩ = some (.slice none 0 0) := KZ.out.cell 6
  have z7 : wc.cell? ⟨w.heap.size + 1 + 1, 7, none⟩ = some (.slice none 0 0) := KZ.out.cell 7
  have y0 : wc.cell? ⟨w.heap.size + 1 + 1 + 1, 0, none⟩ = some (.int .i64 0) := K5.out.cell 0
  have y1 : wc.cell? ⟨w.heap.size + 1 + 1 + 1, 1, none⟩ = some (.string ⟨#[]⟩) := K5.out.cell 1
  have y2 : wc.cell? ⟨w.heap.size + 1 + 1 + 1, 2, none⟩ = some (.int .i64 0) := K5.out.cell 2
  have y3 : wc.cell? ⟨w.heap.size + 1 + 1 + 1, 3, none⟩ = some (.slice none 0 0) := K5.out.cell 3
  have fz := fun i => KZ.out.frozen i
  have fy := fun i => K5.out.frozen i
  have nz1 : w.heap.size ≠ w.heap.size + 1 + 1 := by omega
  have nz2 : w.heap.size + 1 + 1 + 1 + 1 ≠ w.heap.size + 1 + 1 := by omega
  have nz3 : w.heap.size ≠ w.heap.size + 1 + 1 + 1 := by omega
  have nz4 : w.heap.size + 1 + 1 + 1 + 1 ≠ w.heap.size + 1 + 1 + 1 := by omega
  have nz5 : w.heap.size + 1 + 1 ≠ w.heap.size + 1 + 1 + 1 := by omega
  have nz6 : w.heap.size + 1 + 1 + 1 ≠ w.heap.size + 1 + 1 := by omega
  go_region
  all_goals
    obtain ⟨o1, o2, o3, o4⟩ := put8 KZ.out (.int .i64 (recvR st 1).1.limit) (.slice ta0 (recvR st 1).1.q0.length tk0) (.slice ta1 (recvR st 1).1.q1.length tk1) (.bool (recvR st 1).1.c0) (.bool (recvR st 1).1.c1) (.int .i64 (recvR st 1).1.tks) (.slice taw (recvR st 1).1.ws.length tkw) (.slice taa (recvR st 1).1.ans.length tka)
    obtain ⟨p1, p2, p3, p4⟩ := put4 (o4 K5.out nz6) (.int .i64 0) (.string (recvR st 1).2.1) (.int .i64 (recvR st 1).2.2) (.slice none 0 0)
    have kz := (p4 o1 nz5).drew
    have k5 := p1.drew
    have r0 := (p2 (o2 MR.out.r0 (by decide)) (by decide)).drew
    have r1 := (p2 (o2 MR.out.r1 (by decide)) (by decide)).drew
    have r2 := (p2 (o2 MR.out.rw_ (by decide)) (by decide)).drew
    have r3 := (p2 (o2 MR.out.ra (by decide)) (by decide)).drew
    have ra := (p2 (o2 MW.out (by decide)) (by decide)).drew
    have rb := (p3 (o3 MB.out (show w.heap.size ≤ w.heap.size + 1 + 1 by omega)) (show w.heap.size ≤ w.heap.size + 1 + 1 + 1 by omega)).drew
    have ro := MR.out.o.to (p3 (o3 (Below.refl 0 _) (Nat.zero_le _)) (Nat.zero_le _)).drew.size
    clear o1 o2 o3 o4 p1 p2 p3 p4
    go_wp2_with fail
    exact bodyPost_ret (res60_47 rfl _ _ (w.heap.size + 1 + 1) (w.heap.size + 1 + 1 + 1) _ _ _ _ _ _ _ _ _ _ _ _ rfl rfl kz k5) rfl ⟨⟨.slice ta0 (recvR st 1).1.q0.length tk0, .slice ta1 (recvR st 1).1.q1.length tk1, .slice taw (recvR st 1).1.ws.length tkw, .slice taa (recvR st 1).1.ans.length tka⟩, .slice none 0 0, rfl, ⟨r0, r1, r2, r3, ro⟩, ra, rb⟩
set_option maxRecDepth 100000 in
set_option maxHeartbeats 1600000 in
theorem ref_sendbad (t ok of_ oc : Int) (od : ByteArray) (e0 : (of_ != 0) = true) (e1 : (of_ != 1) = true) (S : Sl) (st : St) (w : World) (hR : Ref F w S st) :
    Calls Try.prog 23 #[rpV S st, .agg #[.int .i64 6, .int .i64 t, .int .i64 ok, .int .i64 of_, .int .i64 oc, .string od]] w (RefSays F w st 0 ⟨#[]⟩ 30 []) := by
  have XW := Lib.hid hR
  obtain ⟨za0, zk0, za1, zk1, zaw, zkw, zaa, zka, rfl⟩ := hR.open
  clear hR
  unfold rpV at *
  have HB := Lib.hid (fun o1 o2 o3 o4 o5 o6 => (show Below w.heap.size w ((((((w.alloc o1).alloc o2).alloc o3).alloc o4).alloc o5).alloc o6) from ((((((Below.refl _ _).alloc (Nat.le_refl _) _).alloc (by simp) _).alloc (by simp; omega) _).alloc (by simp; omega) _).alloc (by simp; omega) _).alloc (by simp; omega) _))
  go_enter Try.func23, Try.ntmps23
  go_wp2_with fail
  exact bodyPost_ret (res60_47 rfl _ _ (w.heap.size + 1 + 1) (w.heap.size + 1 + 1 + 1) _ _ _ _ _ _ _ _ _ _ _ _ rfl rfl ((((blk_at (by simp) 60 [_, _, _, _, _, _, _, _]).alloc _).alloc _).alloc _) (((blk_at (by simp) 47 [_, _, _, _]).alloc _).alloc _)) rfl ⟨⟨.slice za0 st.q0.length zk0, .slice za1 st.q1.length zk1, .slice zaw st.ws.length zkw, .slice zaa st.ans.length zka⟩, .slice none 0 0, rfl, XW.out.below (HB.out _ _ _ _ _ _), Row.nil _ _ _, HB.out _ _ _ _ _ _⟩
set_option maxRecDepth 100000 in
set_option maxHeartbeats 1600000 in
theorem ref_recvbad (t ok of_ oc : Int) (od : ByteArray) (e0 : (of_ != 0) = true) (e1 : (of_ != 1) = true) (S : Sl) (st : St) (w : World) (hR : Ref F w S st) :
    Calls Try.prog 23 #[rpV S st, .agg #[.int .i64 7, .int .i64 t, .int .i64 ok, .int .i64 of_, .int .i64 oc, .string od]] w (RefSays F w st 0 ⟨#[]⟩ 30 []) := by
  have XW := Lib.hid hR
  obtain ⟨za0, zk0, za1, zk1, zaw, zkw, zaa, zka, rfl⟩ := hR.open
  clear hR
  unfold rpV at *
  have HB := Lib.hid (fun o1 o2 o3 o4 o5 o6 => (show Below w.heap.size w ((((((w.alloc o1).alloc o2).alloc o3).alloc o4).alloc o5).alloc o6) from ((((((Below.refl _ _).alloc (Nat.le_refl _) _).alloc (by simp) _).alloc (by simp; omega) _).alloc (by simp; omega) _).alloc (by simp; omega) _).alloc (by simp; omega) _))
  go_enter Try.func23, Try.ntmps23
  go_wp2_with fail
  exact bodyPost_ret (res60_47 rfl _ _ (w.heap.size + 1 + 1) (w.heap.size + 1 + 1 + 1) _ _ _ _ _ _ _ _ _ _ _ _ rfl rfl ((((blk_at (by simp) 60 [_, _, _, _, _, _, _, _]).alloc _).alloc _).alloc _) (((blk_at (by simp) 47 [_, _, _, _]).alloc _).alloc _)) rfl ⟨⟨.slice za0 st.q0.length zk0, .slice za1 st.q1.length zk1, .slice zaw st.ws.length zkw, .slice zaa st.ans.length zka⟩, .slice none 0 0, rfl, XW.out.below (HB.out _ _ _ _ _ _), Row.nil _ _ _, HB.out _ _ _ _ _ _⟩
set_option maxRecDepth 100000 in
set_option maxHeartbeats 3200000 in
theorem ref_else (k t ok of_ oc : Int) (od : ByteArray) (hk : ¬ (0 ≤ k ∧ k ≤ 7)) (S : Sl) (st : St) (w : World) (hR : Ref F w S st) :
    Calls Try.prog 23 #[rpV S st, .agg #[.int .i64 k, .int .i64 t, .int .i64 ok, .int .i64 of_, .int .i64 oc, .string od]] w (RefSays F w st 0 ⟨#[]⟩ 0 []) := by
  have XW := Lib.hid hR
  obtain ⟨za0, zk0, za1, zk1, zaw, zkw, zaa, zka, rfl⟩ := hR.open
  have e0 : (k == 0) = false := by rw [beq_eq_false_iff_ne]; omega
  have e1 : (k == 1) = false := by rw [beq_eq_false_iff_ne]; omega
  have e2 : (k == 2) = false := by rw [beq_eq_false_iff_ne]; omega
  have e3 : (k == 3) = false := by rw [beq_eq_false_iff_ne]; omega
  have e4 : (k == 4) = false := by rw [beq_eq_false_iff_ne]; omega
  have e5 : (k == 5) = false := by rw [beq_eq_false_iff_ne]; omega
  have e6 : (k == 6) = false := by rw [beq_eq_false_iff_ne]; omega
  have e7 : (k == 7) = false := by rw [beq_eq_false_iff_ne]; omega
  clear hR hk
  unfold rpV at *
  have BB0 := Lib.hid (show Below w.heap.size w ((((((w.alloc (.cells #[.int .i64 st.limit, .slice za0 st.q0.length zk0, .slice za1 st.q1.length zk1, .bool st.c0, .bool st.c1, .int .i64 st.tks, .slice zaw st.ws.length zkw, .slice zaa st.ans.length zka] 60)).alloc (.cells #[.int .i64 k, .int .i64 t, .int .i64 ok, .int .i64 of_, .int .i64 oc, .string od] 44)).alloc (.cells #[.int .i64 0, .slice none 0 0, .slice none 0 0, .bool false, .bool false, .int .i64 0, .slice none 0 0, .slice none 0 0] 60)).alloc (.cells #[.int .i64 0, .string ⟨#[]⟩, .int .i64 0, .slice none 0 0] 47)).alloc (.cells #[.int .i64 0, .string ⟨#[]⟩, .int .i64 0, .slice none 0 0] 47)).alloc (.cells #[.int .i64 ok, .int .i64 of_, .int .i64 oc, .string od] 107)) from ((((((Below.refl _ _).alloc (Nat.le_refl _) _).alloc (by simp) _).alloc (by simp; omega) _).alloc (by simp; omega) _).alloc (by simp; omega) _).alloc (by simp; omega) _)
  have KA0 := Lib.hid (show Blk ((((((w.alloc (.cells #[.int .i64 st.limit, .slice za0 st.q0.length zk0, .slice za1 st.q1.length zk1, .bool st.c0, .bool st.c1, .int .i64 st.tks, .slice zaw st.ws.length zkw, .slice zaa st.ans.length zka] 60)).alloc (.cells #[.int .i64 k, .int .i64 t, .int .i64 ok, .int .i64 of_, .int .i64 oc, .string od] 44)).alloc (.cells #[.int .i64 0, .slice none 0 0, .slice none 0 0, .bool false, .bool false, .int .i64 0, .slice none 0 0, .slice none 0 0] 60)).alloc (.cells #[.int .i64 0, .string ⟨#[]⟩, .int .i64 0, .slice none 0 0] 47)).alloc (.cells #[.int .i64 0, .string ⟨#[]⟩, .int .i64 0, .slice none 0 0] 47)).alloc (.cells #[.int .i64 ok, .int .i64 of_, .int .i64 oc, .string od] 107)) (w.heap.size) 60 [.int .i64 st.limit, .slice za0 st.q0.length zk0, .slice za1 st.q1.length zk1, .bool st.c0, .bool st.c1, .int .i64 st.tks, .slice zaw st.ws.length zkw, .slice zaa st.ans.length zka] from (((((Blk.new w 60 _).alloc _).alloc _).alloc _).alloc _).alloc _)
  have KT0 := Lib.hid (show Blk ((((((w.alloc (.cells #[.int .i64 st.limit, .slice za0 st.q0.length zk0, .slice za1 st.q1.length zk1, .bool st.c0, .bool st.c1, .int .i64 st.tks, .slice zaw st.ws.length zkw, .slice zaa st.ans.length zka] 60)).alloc (.cells #[.int .i64 k, .int .i64 t, .int .i64 ok, .int .i64 of_, .int .i64 oc, .string od] 44)).alloc (.cells #[.int .i64 0, .slice none 0 0, .slice none 0 0, .bool false, .bool false, .int .i64 0, .slice none 0 0, .slice none 0 0] 60)).alloc (.cells #[.int .i64 0, .string ⟨#[]⟩, .int .i64 0, .slice none 0 0] 47)).alloc (.cells #[.int .i64 0, .string ⟨#[]⟩, .int .i64 0, .slice none 0 0] 47)).alloc (.cells #[.int .i64 ok, .int .i64 of_, .int .i64 oc, .string od] 107)) (w.heap.size + 1) 44 [.int .i64 k, .int .i64 t, .int .i64 ok, .int .i64 of_, .int .i64 oc, .string od] from ((((blk_at (by simp) 44 [_, _, _, _, _, _]).alloc _).alloc _).alloc _).alloc _)
  have KZ0 := Lib.hid (show Blk ((((((w.alloc (.cells #[.int .i64 st.limit, .slice za0 st.q0.length zk0, .slice za1 st.q1.length zk1, .bool st.c0, .bool st.c1, .int .i64 st.tks, .slice zaw st.ws.length zkw, .slice zaa st.ans.length zka] 60)).alloc (.cells #[.int .i64 k, .int .i64 t, .int .i64 ok, .int .i64 of_, .int .i64 oc, .string od] 44)).alloc (.cells #[.int .i64 0, .slice none 0 0, .slice none 0 0, .bool false, .bool false, .int .i64 0, .slice none 0 0, .slice none 0 0] 60)).alloc (.cells #[.int .i64 0, .string ⟨#[]⟩, .int .i64 0, .slice none 0 0] 47)).alloc (.cells #[.int .i64 0, .string ⟨#[]⟩, .int .i64 0, .slice none 0 0] 47)).alloc (.cells #[.int .i64 ok, .int .i64 of_, .int .i64 oc, .string od] 107)) (w.heap.size + 1 + 1) 60 [.int .i64 0, .slice none 0 0, .slice none 0 0, .bool false, .bool false, .int .i64 0, .slice none 0 0, .slice none 0 0] from (((blk_at (by simp) 60 [_, _, _, _, _, _, _, _]).alloc _).alloc _).alloc _)
  have K50 := Lib.hid (show Blk ((((((w.alloc (.cells #[.int .i64 st.limit, .slice za0 st.q0.length zk0, .slice za1 st.q1.length zk1, .bool st.c0, .bool st.c1, .int .i64 st.tks, .slice zaw st.ws.length zkw, .slice zaa st.ans.length zka] 60)).alloc (.cells #[.int .i64 k, .int .i64 t, .int .i64 ok, .int .i64 of_, .int .i64 oc, .string od] 44)).alloc (.cells #[.int .i64 0, .slice none 0 0, .slice none 0 0, .bool false, .bool false, .int .i64 0, .slice none 0 0, .slice none 0 0] 60)).alloc (.cells #[.int .i64 0, .string ⟨#[]⟩, .int .i64 0, .slice none 0 0] 47)).alloc (.cells #[.int .i64 0, .string ⟨#[]⟩, .int .i64 0, .slice none 0 0] 47)).alloc (.cells #[.int .i64 ok, .int .i64 of_, .int .i64 oc, .string od] 107)) (w.heap.size + 1 + 1 + 1) 47 [.int .i64 0, .string ⟨#[]⟩, .int .i64 0, .slice none 0 0] from ((blk_at (by simp) 47 [_, _, _, _]).alloc _).alloc _)
  have K60 := Lib.hid (show Blk ((((((w.alloc (.cells #[.int .i64 st.limit, .slice za0 st.q0.length zk0, .slice za1 st.q1.length zk1, .bool st.c0, .bool st.c1, .int .i64 st.tks, .slice zaw st.ws.length zkw, .slice zaa st.ans.length zka] 60)).alloc (.cells #[.int .i64 k, .int .i64 t, .int .i64 ok, .int .i64 of_, .int .i64 oc, .string od] 44)).alloc (.cells #[.int .i64 0, .slice none 0 0, .slice none 0 0, .bool false, .bool false, .int .i64 0, .slice none 0 0, .slice none 0 0] 60)).alloc (.cells #[.int .i64 0, .string ⟨#[]⟩, .int .i64 0, .slice none 0 0] 47)).alloc (.cells #[.int .i64 0, .string ⟨#[]⟩, .int .i64 0, .slice none 0 0] 47)).alloc (.cells #[.int .i64 ok, .int .i64 of_, .int .i64 oc, .string od] 107)) (w.heap.size + 1 + 1 + 1 + 1) 47 [.int .i64 0, .string ⟨#[]⟩, .int .i64 0, .slice none 0 0] from (blk_at (by simp) 47 [_, _, _, _]).alloc _)
  have K70 := Lib.hid (show Blk ((((((w.alloc (.cells #[.int .i64 st.limit, .slice za0 st.q0.length zk0, .slice za1 st.q1.length zk1, .bool st.c0, .bool st.c1, .int .i64 st.tks, .slice zaw st.ws.length zkw, .slice zaa st.ans.length zka] 60)).alloc (.cells #[.int .i64 k, .int .i64 t, .int .i64 ok, .int .i64 of_, .int .i64 oc, .string od] 44)).alloc (.cells #[.int .i64 0, .slice none 0 0, .slice none 0 0, .bool false, .bool false, .int .i64 0, .slice none 0 0, .slice none 0 0] 60)).alloc (.cells #[.int .i64 0, .string ⟨#[]⟩, .int .i64 0, .slice none 0 0] 47)).alloc (.cells #[.int .i64 0, .string ⟨#[]⟩, .int .i64 0, .slice none 0 0] 47)).alloc (.cells #[.int .i64 ok, .int .i64 of_, .int .i64 oc, .string od] 107)) (w.heap.size + 1 + 1 + 1 + 1 + 1) 107 [.int .i64 ok, .int .i64 of_, .int .i64 oc, .string od] from blk_at (by simp) 107 [_, _, _, _])
  go_enter Try.func23, Try.ntmps23
  go_upto_region 31 with fail
  refine gen_world (fun wx => Mid F w ⟨.slice za0 st.q0.length zk0, .slice za1 st.q1.length zk1, .slice zaw st.ws.length zkw, .slice zaa st.ans.length zka⟩ st 0 ⟨#[]⟩ 0 (.slice none 0 0) [] wx) ?_ (fun wc hcut => ?_)
  · exact ⟨KA0.out, K60.out, KZ0.out, K50.out, XW.out.below BB0.out, Row.nil _ _ _, BB0.out⟩
  obtain ⟨hx, h6, hz, h5, hr, hw, hb⟩ := hcut
  have KX := Lib.hid hx
  have K6 := Lib.hid h6
  have KZ := Lib.hid hz
  have K5 := Lib.hid h5
  have MR := Lib.hid hr
  have MW := Lib.hid hw
  have MB := Lib.hid hb
  clear hx h6 hz h5 hr hw hb
  have g0 : wc.cell? ⟨w.heap.size, 0, none⟩ = some (.int .i64 st.limit) := KX.out.cell 0
  have g1 : wc.cell? ⟨w.heap.size, 1, none⟩ = some (.slice za0 st.q0.length zk0) := KX.out.cell 1
  have g2 : wc.cell? ⟨w.heap.size, 2, none⟩ = some (.slice za1 st.q1.length zk1) := KX.out.cell 2
  have g3 : wc.cell? ⟨w.heap.size, 3, none⟩ = some (.bool st.c0) := KX.out.cell 3
  have g4 : wc.cell? ⟨w.heap.size, 4, none⟩ = some (.bool st.c1) := KX.out.cell 4
  have g5 : wc.cell? ⟨w.heap.size, 5, none⟩ = some (.int .i64 st.tks) := KX.out.cell 5
  have g6 : wc.cell? ⟨w.heap.size, 6, none⟩ = some (.slice zaw st.ws.length zkw) := KX.out.cell 6
  have g7 : wc.cell? ⟨w.heap.size, 7, none⟩ = some (.slice zaa st.ans.length zka) := KX.out.cell 7
  have h0 : wc.cell? ⟨w.heap.size + 1 + 1 + 1 + 1, 0, none⟩ = some (.int .i64 0) := K6.out.cell 0
  have h1 : wc.cell? ⟨w.heap.size + 1 + 1 + 1 + 1, 1, none⟩ = some (.string ⟨#[]⟩) := K6.out.cell 1
  have h2 : wc.cell? ⟨w.heap.size + 1 + 1 + 1 + 1, 2, none⟩ = some (.int .i64 0) := K6.out.cell 2
  have h3 : wc.cell? ⟨w.heap.size + 1 + 1 + 1 + 1, 3, none⟩ = some (.slice none 0 0) := K6.out.cell 3
  have z0 : wc.cell? ⟨w.heap.size + 1 + 1, 0, none⟩ = some (.int .i64 0) := KZ.out.cell 0
  have z1 : wc.cell? ⟨w.heap.size + 1 + 1, 1, none⟩ = some (.slice none 0 0) := KZ.out.cell 1
  have z2 : wc.cell? ⟨w.heap.size + 1 + 1, 2, none⟩ = some (.slice none 0 0) := KZ.out.cell 2
  have z3 : wc.cell? ⟨w.heap.size + 1 + 1, 3, none⟩ = some (.bool false) := KZ.out.cell 3
  have z4 : wc.cell? ⟨w.heap.size + 1 + 1, 4, none⟩ = some (.bool false) := KZ.out.cell 4
  have z5 : wc.cell? ⟨w.heap.size + 1 + 1, 5, none⟩ = some (.int .i64 0) := KZ.out.cell 5
  have z6 : wc.cell? ⟨w.heap.size + 1 + 1, 6, none⟩ = some (.slice none 0 0) := KZ.out.cell 6
  have z7 : wc.cell? ⟨w.heap.size + 1 + 1, 7, none⟩ = some (.slice none 0 0) := KZ.out.cell 7
  have y0 : wc.cell? ⟨w.heap.size + 1 + 1 + 1, 0, none⟩ = some (.int .i64 0) := K5.out.cell 0
  have y1 : wc.cell? ⟨w.heap.size + 1 + 1 + 1, 1, none⟩ = some (.string ⟨#[]⟩) := K5.out.cell 1
  have y2 : wc.cell? ⟨w.heap.size + 1 + 1 + 1, 2, none⟩ = some (.int .i64 0) := K5.out.cell 2
  have y3 : wc.cell? ⟨w.heap.size + 1 + 1 + 1, 3, none⟩ = some (.slice none 0 0) := K5.out.cell 3
  have fz := fun i => KZ.out.frozen i
  have fy := fun i => K5.out.frozen i
  have nz1 : w.heap.size ≠ w.heap.size + 1 + 1 := by omega
  have nz2 : w.heap.size + 1 + 1 + 1 + 1 ≠ w.heap.size + 1 + 1 := by omega
  have nz3 : w.heap.size ≠ w.heap.size + 1 + 1 + 1 := by omega
  have nz4 : w.heap.size + 1 + 1 + 1 + 1 ≠ w.heap.size + 1 + 1 + 1 := by omega
  have nz5 : w.heap.size + 1 + 1 ≠ w.heap.size + 1 + 1 + 1 := by omega
  have nz6 : w.heap.size + 1 + 1 + 1 ≠ w.heap.size + 1 + 1 := by omega
  go_region
  all_goals
    obtain ⟨o1, o2, o3, o4⟩ := put8 KZ.out (.int .i64 st.limit) (.slice za0 st.q0.length zk0) (.slice za1 st.q1.length zk1) (.bool st.c0) (.bool st.c1) (.int .i64 st.tks) (.slice zaw st.ws.length zkw) (.slice zaa st.ans.length zka)
    obtain ⟨p1, p2, p3, p4⟩ := put4 (o4 K5.out nz6) (.int .i64 0) (.string ⟨#[]⟩) (.int .i64 0) (.slice none 0 0)
    have kz := (p4 o1 nz5).drew
    have k5 := p1.drew
    have r0 := (p2 (o2 MR.out.r0 (by decide)) (by decide)).drew
    have r1 := (p2 (o2 MR.out.r1 (by decide)) (by decide)).drew
    have r2 := (p2 (o2 MR.out.rw_ (by decide)) (by decide)).drew
    have r3 := (p2 (o2 MR.out.ra (by decide)) (by decide)).drew
    have ra := (p2 (o2 MW.out (by decide)) (by decide)).drew
    have rb := (p3 (o3 MB.out (show w.heap.size ≤ w.heap.size + 1 + 1 by omega)) (show w.heap.size ≤ w.heap.size + 1 + 1 + 1 by omega)).drew
    have ro := MR.out.o.to (p3 (o3 (Below.refl 0 _) (Nat.zero_le _)) (Nat.zero_le _)).drew.size
    clear o1 o2 o3 o4 p1 p2 p3 p4
    go_wp2_with fail
    exact bodyPost_ret (res60_47 rfl _ _ (w.heap.size + 1 + 1) (w.heap.size + 1 + 1 + 1) _ _ _ _ _ _ _ _ _ _ _ _ rfl rfl kz k5) rfl ⟨⟨.slice za0 st.q0.length zk0, .slice za1 st.q1.length zk1, .slice zaw st.ws.length zkw, .slice zaa st.ans.length zka⟩, .slice none 0 0, rfl, ⟨r0, r1, r2, r3, ro⟩, ra, rb⟩
end Go.Proofs.Ytmnlojbfdpjjdaa
