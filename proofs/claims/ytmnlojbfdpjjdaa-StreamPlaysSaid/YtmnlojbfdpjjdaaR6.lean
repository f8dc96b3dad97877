/- The reference: without. -/
import Derived.Test.YtmnlojbfdpjjdaaR5
namespace Go.Proofs.Ytmnlojbfdpjjdaa
open Go.RowKit
variable {F : Nat → Prop}
section
variable {w : World} {e size n : Nat}
theorem Row.takeR {a : Option Addr} {cap k : Nat} {xs : List Value} (h : Row w e size (.slice a n cap) n xs) (hk : k ≤ n) : Row w e size (.slice a k cap) k (xs.take (k * size)) := by
  have hks : k * size ≤ n * size := Nat.mul_le_mul_right _ hk
  refine ⟨by rw [List.length_take, h.1]; omega, ?_⟩
  rcases h.2 with ⟨hv, rfl⟩ | ⟨g, off, cap', cs, hv, h1, h2, h3, h4, h5⟩
  · obtain rfl : k = 0 := by omega
    exact .inl ⟨hv, rfl⟩
  · injection hv with e1 _ e2
    subst e1 e2
    refine .inr ⟨g, off, cap, cs, rfl, h1, by omega, h3, h4, fun j hj => ?_⟩
    rw [List.getElem?_take_of_lt hj]
    exact h5 j (by omega)
theorem Row.dropR {g off cap k : Nat} {xs : List Value} (h : Row w e size (.slice (some ⟨g, off, none⟩) n cap) n xs) (hk : k ≤ n) : Row w e size (.slice (some ⟨g, off + k * size, none⟩) (n - k) (cap - k)) (n - k) (xs.drop (k * size)) := by
  have hks : k * size ≤ n * size := Nat.mul_le_mul_right _ hk
  refine ⟨by rw [List.length_drop, h.1, Nat.sub_mul], ?_⟩
  rcases h.2 with ⟨hv, _⟩ | ⟨g', off', cap', cs, hv, h1, h2, h3, h4, h5⟩
  · cases hv
  · injection hv with e1 _ e2
    injection e1 with e1
    injection e1 with e1 e3
    subst e1 e2 e3
    have hkc : k * size ≤ cap * size := Nat.mul_le_mul_right _ (by omega)
    refine .inr ⟨g, off + k * size, cap - k, cs, rfl, h1, by omega, by omega, by rw [Nat.sub_mul]; omega, fun j hj => ?_⟩
    rw [List.getElem?_drop, Nat.add_assoc]
    rw [Nat.sub_mul] at hj
    exact h5 (k * size + j) (by omega)
theorem Row.cap0 {g off cap : Nat} {xs : List Value} (h : Row w e size (.slice (some ⟨g, off, none⟩) n cap) n xs) : Row w e size (.slice (some ⟨g, off, none⟩) 0 0) 0 [] := by
  refine ⟨by simp, ?_⟩
  rcases h.2 with ⟨hv, _⟩ | ⟨g', off', cap', cs, hv, h1, h2, h3, h4, h5⟩
  · cases hv
  · injection hv with e1 _ e2
    injection e1 with e1
    injection e1 with e1 e3
    subst e1 e2 e3
    exact .inr ⟨g, off, 0, cs, rfl, h1, by omega, by unfold maxLen; omega, by omega, fun j hj => by omega⟩
end
theorem rwsC_take (l : List Wt) : ∀ i, rwsC (l.take i) = (rwsC l).take (i * 5) := by
  induction l with
  | nil => intro i; simp [rwsC]
  | cons a l ih =>
    intro i
    cases i with
    | zero => simp [rwsC]
    | succ i =>
      have h := ih i
      simp only [rwsC, List.take_succ_cons, List.flatMap_cons] at h ⊢
      rw [h, show (i + 1) * 5 = (rwC a).length + i * 5 by simp [rwC]; omega, List.take_length_add_append]
theorem rwsC_drop (l : List Wt) : ∀ i, rwsC (l.drop i) = (rwsC l).drop (i * 5) := by
  induction l with
  | nil => intro i; simp [rwsC]
  | cons a l ih =>
    intro i
    cases i with
    | zero => simp
    | succ i =>
      have h := ih i
      simp only [rwsC, List.drop_succ_cons, List.flatMap_cons] at h ⊢
      rw [h, show (i + 1) * 5 = (rwC a).length + i * 5 by simp [rwC]; omega, List.drop_length_add_append]
theorem fin_wit {w V0 w2 : World} {b bz n m : Nat} {x0 x1 x2 x3 x4 x5 x6 x7 : Value} {Z ys : List Value} {A : Option Addr} {C : Nat} (KA : Blk V0 b 60 [x0, x1, x2, x3, x4, x5, x6, x7]) (KC : Blk V0 bz 60 Z) (BW : Below w.heap.size w V0) (B2 : Below V0.heap.size V0 w2) (R2 : Row w2 120 5 (.slice A n C) n ys) (hm : n = m) (hbz : bz ≠ b) (hb : w.heap.size ≤ b) :
    ∃ A' C', Blk (w2.setCell ⟨b, 6, none⟩ (.slice A n C)) b 60 [x0, x1, x2, x3, x4, x5, .slice A' m C', x7] ∧ Blk (w2.setCell ⟨b, 6, none⟩ (.slice A n C)) bz 60 Z ∧ Row (w2.setCell ⟨b, 6, none⟩ (.slice A n C)) 120 5 (.slice A' m C') m ys ∧ Below w.heap.size w (w2.setCell ⟨b, 6, none⟩ (.slice A n C)) := by
  subst hm
  exact ⟨A, C, (keepBlk B2 KA).set_ 6 _, (keepBlk B2 KC).far hbz _, R2.set_ (R2.ne (keepBlk B2 KA) (by decide)) _, (keepBelow BW B2).setCell hb _⟩
set_option maxRecDepth 100000 in
set_option maxHeartbeats 3200000 in
theorem rwithout_any (i : Nat) (S : Sl) (st : St) (hil : i < st.ws.length) (hs : st.ws.length ≤ 200000) (w : World) (hR : Ref F w S st) :
    Calls Try.prog 69 #[rpV S st, .int .i64 i] w fun e w' => ∃ S', e = .returned (rpV S' (without st i)) ∧ Ref F w' S' (without st i) ∧ Below w.heap.size w w' := by
  obtain ⟨i0, hi, hz0, hz1, hz2⟩ := info_parts Try.info120
  obtain ⟨a0, k0, a1, k1, aw, kw, aa, ka, rfl⟩ := hR.open
  have hr : Row w 120 5 (.slice aw st.ws.length kw) st.ws.length (rwsC st.ws) := hR.rw_
  obtain ⟨gb, off, cap, hv, h1, h2, hgb, hcl, _⟩ := hr.open (by omega)
  injection hv with hv1 _ hv3
  subst hv1 hv3
  clear hcl hr
  unfold maxLen at h2
  obtain ⟨V0, hV⟩ : ∃ V0, V0 = (w.alloc (.cells #[.int .i64 st.limit, .slice a0 st.q0.length k0, .slice a1 st.q1.length k1, .bool st.c0, .bool st.c1, .int .i64 st.tks, .slice (some ⟨gb, off, none⟩) st.ws.length kw, .slice aa st.ans.length ka] 60)).alloc (.cells #[.int .i64 0, .slice none 0 0, .slice none 0 0, .bool false, .bool false, .int .i64 0, .slice none 0 0, .slice none 0 0] 60) := ⟨_, rfl⟩
  have KA := Lib.hid (show Blk V0 (w.heap.size) 60 [.int .i64 st.limit, .slice a0 st.q0.length k0, .slice a1 st.q1.length k1, .bool st.c0, .bool st.c1, .int .i64 st.tks, .slice (some ⟨gb, off, none⟩) st.ws.length kw, .slice aa st.ans.length ka] by rw [hV]; exact (Blk.new w 60 _).alloc _)
  have KC := Lib.hid (show Blk V0 (w.heap.size + 1) 60 [.int .i64 0, .slice none 0 0, .slice none 0 0, .bool false, .bool false, .int .i64 0, .slice none 0 0, .slice none 0 0] by rw [hV]; exact blk_at (by simp) 60 [_, _, _, _, _, _, _, _])
  have BW := Lib.hid (show Below w.heap.size w V0 by rw [hV]; exact ((Below.refl _ _).alloc (Nat.le_refl _) _).alloc (by simp) _)
  have HA := Lib.hid (show Row V0 120 5 (.slice (some ⟨gb, off, none⟩) st.ws.length kw) st.ws.length (rwsC st.ws) from hR.rw_.below BW.out)
  have HV := Lib.hid hV
  have XW := Lib.hid hR
  clear hR hV
  have g6 : V0.cell? ⟨w.heap.size, 6, none⟩ = some (.slice (some ⟨gb, off, none⟩) st.ws.length kw) := KA.out.cell 6
  have x6 : ∀ o : Obj, (V0.alloc o).cell? ⟨w.heap.size, 6, none⟩ = some (.slice (some ⟨gb, off, none⟩) st.ws.length kw) := fun o => (World.cell?_alloc_lt V0 o ⟨w.heap.size, 6, none⟩ KA.out.lt).trans g6
  have EB := Lib.hid (show Below V0.heap.size V0 ((V0.alloc (Obj.cells #[] 120)).drew) from ((Below.refl _ _).alloc (Nat.le_refl _) _).drew)
  have ER := Lib.hid (show Row ((V0.alloc (Obj.cells #[] 120)).drew) 120 5 (.slice (some ⟨V0.heap.size, 0, none⟩) 0 0) 0 [] from (show Row (V0.alloc (Obj.cells #[] 120)) 120 5 (.slice (some ⟨V0.heap.size, 0, none⟩) 0 0) 0 [] from Row.empty (Blk.new V0 _ [])))
  have ET := Lib.hid (Row.below (show Row V0 120 5 (.slice (some ⟨gb, off, none⟩) i kw) i (rwsC (st.ws.take i)) by rw [rwsC_take]; exact HA.out.takeR (by omega)) EB.out)
  have ef : ∀ m c, Frsh V0.heap.size (.slice (some ⟨V0.heap.size, 0, none⟩) m c) := fun _ _ => Frsh.at_ (Nat.le_refl _)
  have HEL := Lib.hid (show (st.ws.eraseIdx i).length = i + (st.ws.length - (i + 1)) by rw [List.length_eraseIdx, if_pos hil]; omega)
  have m1 : IntKind.i64.wrap ((i : Int) + 1) = (i : Int) + 1 := IntWalk.i64_in _ (by omega)
  have m2 : (0 : Int) ≤ (i : Int) + 1 := by omega
  have m3 : ((i : Int) + 1).toNat = i + 1 := by omega
  have m4 : (0 : Int) ≤ (i : Int) := by omega
  have m5 : (i : Int) ≤ (kw : Int) := by omega
  have m6 : (i : Int) + 1 ≤ (st.ws.length : Int) := by omega
  have m7 : (st.ws.length : Int) ≤ (kw : Int) := by omega
  unfold rpV
  by_cases hcap : kw = i + 1
  · have hdn : st.ws.length - (i + 1) = 0 := by omega
    subst hcap
    have m8 : (i : Int) ≤ (i : Int) + 1 := by omega
    have HD := Lib.hid (show Row V0 120 5 (.slice (some ⟨gb, off, none⟩) 0 0) 0 (rwsC (st.ws.drop (i + 1))) by rw [List.drop_of_length_le (by omega)]; exact HA.out.cap0)
    have HM := Lib.hid (show i + 0 = i + (st.ws.length - (i + 1)) by rw [hdn])
    clear hdn m5 m7
    have m9 : ((st.ws.length : Nat) : Int) ≤ (i : Int) + 1 := by omega
    have m10 : (i : Int) + 1 ≤ (st.ws.length : Int) := by omega
    go_enter Try.func69, Try.ntmps69
    go_wp2_with fail
    rw [← HV.out]
    go_cut [] (fun wx => ∃ A C, Blk wx (w.heap.size) 60 [.int .i64 st.limit, .slice a0 st.q0.length k0, .slice a1 st.q1.length k1, .bool st.c0, .bool st.c1, .int .i64 st.tks, .slice A (i + (st.ws.length - (i + 1))) C, .slice aa st.ans.length ka] ∧ Blk wx (w.heap.size + 1) 60 [.int .i64 0, .slice none 0 0, .slice none 0 0, .bool false, .bool false, .int .i64 0, .slice none 0 0, .slice none 0 0] ∧ Row wx 120 5 (.slice A (i + (st.ws.length - (i + 1))) C) (i + (st.ws.length - (i + 1))) (rwsC (st.ws.take i) ++ rwsC (st.ws.drop (i + 1))) ∧ Below w.heap.size w wx)
    case first =>
      go_region_law (first
        | (refine step_append_rows rfl (.tmp 5) (.tmp 9) 57 rfl 120 i0 _ 5 48 Try.underlying57 hi hz0 hz1 hz2 rfl (by omega) (v := .slice (some ⟨V0.heap.size, 0, none⟩) 0 0) rfl (u := .slice (some ⟨gb, off, none⟩) i (i + 1)) rfl 0 [] ER.out i (rwsC (st.ws.take i)) ET.out (rwsC_one _) (by unfold maxLen; omega) (by omega) EB.out (ef _ _) ?_; intro A1 C1 w1 R1 F1 B1 G1; simp only [Nat.zero_add, List.nil_append] at R1 F1; have c6 : w1.cell? ⟨w.heap.size, 6, none⟩ = some (.slice (some ⟨gb, off, none⟩) st.ws.length (i + 1)) := (keepBlk B1 KA.out).cell 6; clear G1)
        | (refine step_append_rows rfl (.tmp 10) (.tmp 15) 57 rfl 120 i0 _ 5 48 Try.underlying57 hi hz0 hz1 hz2 rfl (by omega) (v := .slice A1 i C1) rfl (u := .slice (some ⟨gb, off, none⟩) 0 0) rfl i (rwsC (st.ws.take i)) R1 0 (rwsC (st.ws.drop (i + 1))) (HD.out.below B1) (rwsC_one _) (by unfold maxLen; omega) (by omega) B1 F1 ?_; intro A2 C2 w2 R2 F2 B2 G2; have p6 : w2.cell? ⟨w.heap.size, 6, none⟩ = some (.slice (some ⟨gb, off, none⟩) st.ws.length (i + 1)) := (keepBlk B2 KA.out).cell 6; have pf : w2.frozen? ⟨w.heap.size, 6, none⟩ = false := (keepBlk B2 KA.out).frozen 6; have BB2 := Lib.hid B2; have RR2 := Lib.hid R2; clear R2 F2 B2 G2 R1 F1 B1))
      all_goals
        refine (show ∀ a' w', Met _ a' w' → _ from by assumption) _ _ ?_
        refine Met.intro ?_
        refine (show ∀ a' w', _ → _ from by assumption) _ _ ?_
        (repeat apply Exists.intro)
        refine ⟨?_, rfl⟩
        exact fin_wit KA.out KC.out BW.out BB2.out RR2.out HM.out (Nat.succ_ne_self _) (Nat.le_refl _)
    case rest =>
      obtain ⟨A, C, hKA, hKC, hRow, hBel⟩ := hcut
      clear x6 ef m1 m2 m3 m4 m6 m8 m9 m10 h1 h2 hgb hil hs
      have XA := Lib.hid hKA
      have XC := Lib.hid hKC
      have XR := Lib.hid hRow
      have XB := Lib.hid hBel
      clear hKA hKC hRow hBel
      have d0 : wc.cell? ⟨w.heap.size, 0, none⟩ = some (.int .i64 st.limit) := XA.out.cell 0
      have d1 : wc.cell? ⟨w.heap.size, 1, none⟩ = some (.slice a0 st.q0.length k0) := XA.out.cell 1
      have d2 : wc.cell? ⟨w.heap.size, 2, none⟩ = some (.slice a1 st.q1.length k1) := XA.out.cell 2
      have d3 : wc.cell? ⟨w.heap.size, 3, none⟩ = some (.bool st.c0) := XA.out.cell 3
      have d4 : wc.cell? ⟨w.heap.size, 4, none⟩ = some (.bool st.c1) := XA.out.cell 4
      have d5 : wc.cell? ⟨w.heap.size, 5, none⟩ = some (.int .i64 st.tks) := XA.out.cell 5
      have d6 : wc.cell? ⟨w.heap.size, 6, none⟩ = some (.slice A (i + (st.ws.length - (i + 1))) C) := XA.out.cell 6
      have d7 : wc.cell? ⟨w.heap.size, 7, none⟩ = some (.slice aa st.ans.length ka) := XA.out.cell 7
      have e0 : wc.cell? ⟨w.heap.size + 1, 0, none⟩ = some (.int .i64 0) := XC.out.cell 0
      have e1 : wc.cell? ⟨w.heap.size + 1, 1, none⟩ = some (.slice none 0 0) := XC.out.cell 1
      have e2 : wc.cell? ⟨w.heap.size + 1, 2, none⟩ = some (.slice none 0 0) := XC.out.cell 2
      have e3 : wc.cell? ⟨w.heap.size + 1, 3, none⟩ = some (.bool false) := XC.out.cell 3
      have e4 : wc.cell? ⟨w.heap.size + 1, 4, none⟩ = some (.bool false) := XC.out.cell 4
      have e5 : wc.cell? ⟨w.heap.size + 1, 5, none⟩ = some (.int .i64 0) := XC.out.cell 5
      have e6 : wc.cell? ⟨w.heap.size + 1, 6, none⟩ = some (.slice none 0 0) := XC.out.cell 6
      have e7 : wc.cell? ⟨w.heap.size + 1, 7, none⟩ = some (.slice none 0 0) := XC.out.cell 7
      have xf := fun i => XA.out.frozen i
      have zf := fun i => XC.out.frozen i
      go_wp2_with fail
      obtain ⟨o1, o2, o3, o4⟩ := put8 XC.out (.int .i64 st.limit) (.slice a0 st.q0.length k0) (.slice a1 st.q1.length k1) (.bool st.c0) (.bool st.c1) (.int .i64 st.tks) (.slice A (i + (st.ws.length - (i + 1))) C) (.slice aa st.ans.length ka)
      have hb := o3 XB.out (Nat.le_succ _)
      have hrr := XW.out.below hb
      exact bodyPost_ret (res60 rfl _ _ (w.heap.size + 1) _ _ _ _ _ _ _ _ rfl o1) rfl ⟨⟨_, _, .slice A (i + (st.ws.length - (i + 1))) C, _⟩, rfl, ⟨hrr.r0, hrr.r1, by show Row _ 120 5 _ (st.ws.eraseIdx i).length (rwsC (st.ws.eraseIdx i)); rw [HEL.out, List.eraseIdx_eq_take_drop_succ, rwsC_append]; exact o2 XR.out (by decide), hrr.ra, hrr.o⟩, hb⟩
  · have HD := Lib.hid (show Row V0 120 5 (.slice (some ⟨gb, off + (i + 1) * 5, none⟩) (st.ws.length - (i + 1)) (kw - (i + 1))) (st.ws.length - (i + 1)) (rwsC (st.ws.drop (i + 1))) by rw [rwsC_drop]; exact HA.out.dropR (by omega))
    go_enter Try.func69, Try.ntmps69
    go_wp2_with fail
    rw [← HV.out]
    go_cut [] (fun wx => ∃ A C, Blk wx (w.heap.size) 60 [.int .i64 st.limit, .slice a0 st.q0.length k0, .slice a1 st.q1.length k1, .bool st.c0, .bool st.c1, .int .i64 st.tks, .slice A (i + (st.ws.length - (i + 1))) C, .slice aa st.ans.length ka] ∧ Blk wx (w.heap.size + 1) 60 [.int .i64 0, .slice none 0 0, .slice none 0 0, .bool false, .bool false, .int .i64 0, .slice none 0 0, .slice none 0 0] ∧ Row wx 120 5 (.slice A (i + (st.ws.length - (i + 1))) C) (i + (st.ws.length - (i + 1))) (rwsC (st.ws.take i) ++ rwsC (st.ws.drop (i + 1))) ∧ Below w.heap.size w wx)
    case first =>
      go_region_law (first
        | (refine step_append_rows rfl (.tmp 5) (.tmp 9) 57 rfl 120 i0 _ 5 48 Try.underlying57 hi hz0 hz1 hz2 rfl (by omega) (v := .slice (some ⟨V0.heap.size, 0, none⟩) 0 0) rfl (u := .slice (some ⟨gb, off, none⟩) i kw) rfl 0 [] ER.out i (rwsC (st.ws.take i)) ET.out (rwsC_one _) (by unfold maxLen; omega) (by omega) EB.out (ef _ _) ?_; intro A1 C1 w1 R1 F1 B1 G1; simp only [Nat.zero_add, List.nil_append] at R1 F1; have c6 : w1.cell? ⟨w.heap.size, 6, none⟩ = some (.slice (some ⟨gb, off, none⟩) st.ws.length kw) := (keepBlk B1 KA.out).cell 6; clear G1)
        | (refine step_append_rows rfl (.tmp 10) (.tmp 15) 57 rfl 120 i0 _ 5 48 Try.underlying57 hi hz0 hz1 hz2 rfl (by omega) (v := .slice A1 i C1) rfl (u := .slice (some ⟨gb, off + (i + 1) * 5, none⟩) (st.ws.length - (i + 1)) (kw - (i + 1))) rfl i (rwsC (st.ws.take i)) R1 (st.ws.length - (i + 1)) (rwsC (st.ws.drop (i + 1))) (HD.out.below B1) (rwsC_one _) (by unfold maxLen; omega) (by omega) B1 F1 ?_; intro A2 C2 w2 R2 F2 B2 G2; have p6 : w2.cell? ⟨w.heap.size, 6, none⟩ = some (.slice (some ⟨gb, off, none⟩) st.ws.length kw) := (keepBlk B2 KA.out).cell 6; have pf : w2.frozen? ⟨w.heap.size, 6, none⟩ = false := (keepBlk B2 KA.out).frozen 6; have BB2 := Lib.hid B2; have RR2 := Lib.hid R2; clear R2 F2 B2 G2 R1 F1 B1))
      all_goals
        refine (show ∀ a' w', Met _ a' w' → _ from by assumption) _ _ ?_
        refine Met.intro ?_
        refine (show ∀ a' w', _ → _ from by assumption) _ _ ?_
        (repeat apply Exists.intro)
        refine ⟨?_, rfl⟩
        exact fin_wit KA.out KC.out BW.out BB2.out RR2.out rfl (Nat.succ_ne_self _) (Nat.le_refl _)
    case rest =>
      obtain ⟨A, C, hKA, hKC, hRow, hBel⟩ := hcut
      clear x6 ef m1 m2 m3 m4 m5 m6 m7 hcap h1 h2 hgb hil hs
      have XA := Lib.hid hKA
      have XC := Lib.hid hKC
      have XR := Lib.hid hRow
      have XB := Lib.hid hBel
      clear hKA hKC hRow hBel
      have d0 : wc.cell? ⟨w.heap.size, 0, none⟩ = some (.int .i64 st.limit) := XA.out.cell 0
      have d1 : wc.cell? ⟨w.heap.size, 1, none⟩ = some (.slice a0 st.q0.length k0) := XA.out.cell 1
      have d2 : wc.cell? ⟨w.heap.size, 2, none⟩ = some (.slice a1 st.q1.length k1) := XA.out.cell 2
      have d3 : wc.cell? ⟨w.heap.size, 3, none⟩ = some (.bool st.c0) := XA.out.cell 3
      have d4 : wc.cell? ⟨w.heap.size, 4, none⟩ = some (.bool st.c1) := XA.out.cell 4
      have d5 : wc.cell? ⟨w.heap.size, 5, none⟩ = some (.int .i64 st.tks) := XA.out.cell 5
      have d6 : wc.cell? ⟨w.heap.size, 6, none⟩ = some (.slice A (i + (st.ws.length - (i + 1))) C) := XA.out.cell 6
      have d7 : wc.cell? ⟨w.heap.size, 7, none⟩ = some (.slice aa st.ans.length ka) := XA.out.cell 7
      have e0 : wc.cell? ⟨w.heap.size + 1, 0, none⟩ = some (.int .i64 0) := XC.out.cell 0
      have e1 : wc.cell? ⟨w.heap.size + 1, 1, none⟩ = some (.slice none 0 0) := XC.out.cell 1
      have e2 : wc.cell? ⟨w.heap.size + 1, 2, none⟩ = some (.slice none 0 0) := XC.out.cell 2
      have e3 : wc.cell? ⟨w.heap.size + 1, 3, none⟩ = some (.bool false) := XC.out.cell 3
      have e4 : wc.cell? ⟨w.heap.size + 1, 4, none⟩ = some (.bool false) := XC.out.cell 4
      have e5 : wc.cell? ⟨w.heap.size + 1, 5, none⟩ = some (.int .i64 0) := XC.out.cell 5
      have e6 : wc.cell? ⟨w.heap.size + 1, 6, none⟩ = some (.slice none 0 0) := XC.out.cell 6
      have e7 : wc.cell? ⟨w.heap.size + 1, 7, none⟩ = some (.slice none 0 0) := XC.out.cell 7
      have xf := fun i => XA.out.frozen i
      have zf := fun i => XC.out.frozen i
      go_wp2_with fail
      obtain ⟨o1, o2, o3, o4⟩ := put8 XC.out (.int .i64 st.limit) (.slice a0 st.q0.length k0) (.slice a1 st.q1.length k1) (.bool st.c0) (.bool st.c1) (.int .i64 st.tks) (.slice A (i + (st.ws.length - (i + 1))) C) (.slice aa st.ans.length ka)
      have hb := o3 XB.out (Nat.le_succ _)
      have hrr := XW.out.below hb
      exact bodyPost_ret (res60 rfl _ _ (w.heap.size + 1) _ _ _ _ _ _ _ _ rfl o1) rfl ⟨⟨_, _, .slice A (i + (st.ws.length - (i + 1))) C, _⟩, rfl, ⟨hrr.r0, hrr.r1, by show Row _ 120 5 _ (st.ws.eraseIdx i).length (rwsC (st.ws.eraseIdx i)); rw [HEL.out, List.eraseIdx_eq_take_drop_succ, rwsC_append]; exact o2 XR.out (by decide), hrr.ra, hrr.o⟩, hb⟩
end Go.Proofs.Ytmnlojbfdpjjdaa
