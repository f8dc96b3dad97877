/- The reference: answered, without. -/
import Derived.Test.YtmnlojbfdpjjdaaR4
import Derived.Deep.RegionLaw
namespace Go.Proofs.Ytmnlojbfdpjjdaa
open Go.RowKit
variable {F : Nat → Prop}
theorem put8 {w : World} {b : Nat} {z0 z1 z2 z3 z4 z5 z6 z7 : Value} (hB : Blk w b 60 [z0, z1, z2, z3, z4, z5, z6, z7]) (x0 x1 x2 x3 x4 x5 x6 x7 : Value) :
    Blk ((((((((w.setCell ⟨b, 0, none⟩ x0).setCell ⟨b, 1, none⟩ x1).setCell ⟨b, 2, none⟩ x2).setCell ⟨b, 3, none⟩ x3).setCell ⟨b, 4, none⟩ x4).setCell ⟨b, 5, none⟩ x5).setCell ⟨b, 6, none⟩ x6).setCell ⟨b, 7, none⟩ x7) b 60 [x0, x1, x2, x3, x4, x5, x6, x7] ∧ (∀ {e size n : Nat} {v : Value} {xs : List Value}, Row w e size v n xs → e ≠ 60 → Row ((((((((w.setCell ⟨b, 0, none⟩ x0).setCell ⟨b, 1, none⟩ x1).setCell ⟨b, 2, none⟩ x2).setCell ⟨b, 3, none⟩ x3).setCell ⟨b, 4, none⟩ x4).setCell ⟨b, 5, none⟩ x5).setCell ⟨b, 6, none⟩ x6).setCell ⟨b, 7, none⟩ x7) e size v n xs) ∧ (∀ {B : Nat} {a : World}, Below B a w → B ≤ b → Below B a ((((((((w.setCell ⟨b, 0, none⟩ x0).setCell ⟨b, 1, none⟩ x1).setCell ⟨b, 2, none⟩ x2).setCell ⟨b, 3, none⟩ x3).setCell ⟨b, 4, none⟩ x4).setCell ⟨b, 5, none⟩ x5).setCell ⟨b, 6, none⟩ x6).setCell ⟨b, 7, none⟩ x7)) ∧ (∀ {g t : Nat} {cs : List Value}, Blk w g t cs → g ≠ b → Blk ((((((((w.setCell ⟨b, 0, none⟩ x0).setCell ⟨b, 1, none⟩ x1).setCell ⟨b, 2, none⟩ x2).setCell ⟨b, 3, none⟩ x3).setCell ⟨b, 4, none⟩ x4).setCell ⟨b, 5, none⟩ x5).setCell ⟨b, 6, none⟩ x6).setCell ⟨b, 7, none⟩ x7) g t cs) := by
  refine ⟨(((((((hB.set_ 0 x0).set_ 1 x1).set_ 2 x2).set_ 3 x3).set_ 4 x4).set_ 5 x5).set_ 6 x6).set_ 7 x7, fun h he => ?_, fun h he => ?_, fun h he => ?_⟩
  · have hn := h.ne hB he
    exact (((((((h.set_ (p := ⟨b, 0, none⟩) hn x0).set_ (p := ⟨b, 1, none⟩) hn x1).set_ (p := ⟨b, 2, none⟩) hn x2).set_ (p := ⟨b, 3, none⟩) hn x3).set_ (p := ⟨b, 4, none⟩) hn x4).set_ (p := ⟨b, 5, none⟩) hn x5).set_ (p := ⟨b, 6, none⟩) hn x6).set_ (p := ⟨b, 7, none⟩) hn x7
  · exact (((((((h.setCell (p := ⟨b, 0, none⟩) he x0).setCell (p := ⟨b, 1, none⟩) he x1).setCell (p := ⟨b, 2, none⟩) he x2).setCell (p := ⟨b, 3, none⟩) he x3).setCell (p := ⟨b, 4, none⟩) he x4).setCell (p := ⟨b, 5, none⟩) he x5).setCell (p := ⟨b, 6, none⟩) he x6).setCell (p := ⟨b, 7, none⟩) he x7
  · exact (((((((h.far (p := ⟨b, 0, none⟩) he x0).far (p := ⟨b, 1, none⟩) he x1).far (p := ⟨b, 2, none⟩) he x2).far (p := ⟨b, 3, none⟩) he x3).far (p := ⟨b, 4, none⟩) he x4).far (p := ⟨b, 5, none⟩) he x5).far (p := ⟨b, 6, none⟩) he x6).far (p := ⟨b, 7, none⟩) he x7
theorem fin_ans {w V0 w2 : World} {b bz n : Nat} {x0 x1 x2 x3 x4 x5 x6 x7 : Value} {Z ys : List Value} {A : Option Addr} {C : Nat} (KA : Blk V0 b 60 [x0, x1, x2, x3, x4, x5, x6, x7]) (KC : Blk V0 bz 60 Z) (BW : Below w.heap.size w V0) (B2 : Below V0.heap.size V0 w2) (R2 : Row w2 115 4 (.slice A n C) n ys) (hbz : bz ≠ b := by omega) (hb : w.heap.size ≤ b := by omega) :
    ∃ A' C', Blk (w2.setCell ⟨b, 7, none⟩ (.slice A n C)) b 60 [x0, x1, x2, x3, x4, x5, x6, .slice A' n C'] ∧ Blk (w2.setCell ⟨b, 7, none⟩ (.slice A n C)) bz 60 Z ∧ Row (w2.setCell ⟨b, 7, none⟩ (.slice A n C)) 115 4 (.slice A' n C') n ys ∧ Below w.heap.size w (w2.setCell ⟨b, 7, none⟩ (.slice A n C)) :=
  ⟨A, C, (keepBlk B2 KA).set_ 7 _, (keepBlk B2 KC).far hbz _, R2.set_ (R2.ne (keepBlk B2 KA) (by decide)) _, (keepBelow BW B2).setCell hb _⟩
set_option maxRecDepth 100000 in
set_option maxHeartbeats 1600000 in
theorem ranswered_any (at_ an ae : Int) (ad : ByteArray) (S : Sl) (st : St) (hs : st.ans.length ≤ 200000) (w : World) (hR : Ref F w S st) :
    Calls Try.prog 68 #[rpV S st, .agg #[.int .i64 at_, .int .i64 an, .string ad, .int .i64 ae]] w fun e w' => ∃ S', e = .returned (rpV S' (answered st ⟨at_, an, ad, ae⟩)) ∧ Ref F w' S' (answered st ⟨at_, an, ad, ae⟩) ∧ Below w.heap.size w w' := by
  obtain ⟨i0, hi, hz0, hz1, hz2⟩ := info_parts Try.info115
  obtain ⟨a0, k0, a1, k1, aw, kw, aa, ka, rfl⟩ := hR.open
  obtain ⟨V0, hV⟩ : ∃ V0, V0 = ((w.alloc (.cells #[.int .i64 st.limit, .slice a0 st.q0.length k0, .slice a1 st.q1.length k1, .bool st.c0, .bool st.c1, .int .i64 st.tks, .slice aw st.ws.length kw, .slice aa st.ans.length ka] 60)).alloc (.cells #[.int .i64 at_, .int .i64 an, .string ad, .int .i64 ae] 115)).alloc (.cells #[.int .i64 0, .slice none 0 0, .slice none 0 0, .bool false, .bool false, .int .i64 0, .slice none 0 0, .slice none 0 0] 60) := ⟨_, rfl⟩
  have KA := Lib.hid (show Blk V0 (w.heap.size) 60 [.int .i64 st.limit, .slice a0 st.q0.length k0, .slice a1 st.q1.length k1, .bool st.c0, .bool st.c1, .int .i64 st.tks, .slice aw st.ws.length kw, .slice aa st.ans.length ka] by rw [hV]; exact ((Blk.new w 60 _).alloc _).alloc _)
  have KB := Lib.hid (show Blk V0 (w.heap.size + 1) 115 [.int .i64 at_, .int .i64 an, .string ad, .int .i64 ae] by rw [hV]; exact (blk_at (by simp) 115 [_, _, _, _]).alloc _)
  have KC := Lib.hid (show Blk V0 (w.heap.size + 1 + 1) 60 [.int .i64 0, .slice none 0 0, .slice none 0 0, .bool false, .bool false, .int .i64 0, .slice none 0 0, .slice none 0 0] by rw [hV]; exact blk_at (by simp) 60 [_, _, _, _, _, _, _, _])
  have BW := Lib.hid (show Below w.heap.size w V0 by rw [hV]; exact (((Below.refl _ _).alloc (Nat.le_refl _) _).alloc (by simp) _).alloc (by simp; omega) _)
  have HA := Lib.hid (show Row V0 115 4 (.slice aa st.ans.length ka) st.ans.length (ansC st.ans) from hR.ra.below BW.out)
  have HR := Lib.hid (hR.below BW.out)
  have HV := Lib.hid hV
  have one2 : ∀ c ∈ ([.int .i64 at_, .int .i64 an, .string ad, .int .i64 ae] : List Value), c.oneCell' = true := ansC_one [⟨at_, an, ad, ae⟩]
  have hR0 := Lib.hid hR
  clear hR hV
  have EB1 := Lib.hid (show Below V0.heap.size V0 ((V0.alloc (Obj.cells #[] 115)).drew) from ((Below.refl _ _).alloc (Nat.le_refl _) _).drew)
  have ER1 := Lib.hid (show Row ((V0.alloc (Obj.cells #[] 115)).drew) 115 4 (.slice (some ⟨V0.heap.size, 0, none⟩) 0 0) 0 [] from (show Row (V0.alloc (Obj.cells #[] 115)) 115 4 (.slice (some ⟨V0.heap.size, 0, none⟩) 0 0) 0 [] from Row.empty (Blk.new V0 _ [])))
  have ES1 := Lib.hid (Row.below HA.out EB1.out)
  have EB2 := Lib.hid (show Below V0.heap.size V0 (((V0.alloc (Obj.cells #[] 115)).alloc (Obj.cells #[.int .i64 at_, .int .i64 an, .string ad, .int .i64 ae] 115)).drew) from (((Below.refl _ _).alloc (Nat.le_refl _) _).alloc (by simp) _).drew)
  have ER2 := Lib.hid (show Row (((V0.alloc (Obj.cells #[] 115)).alloc (Obj.cells #[.int .i64 at_, .int .i64 an, .string ad, .int .i64 ae] 115)).drew) 115 4 (.slice (some ⟨V0.heap.size, 0, none⟩) 0 0) 0 [] from (show Row ((V0.alloc (Obj.cells #[] 115)).alloc (Obj.cells #[.int .i64 at_, .int .i64 an, .string ad, .int .i64 ae] 115)) 115 4 (.slice (some ⟨V0.heap.size, 0, none⟩) 0 0) 0 [] from Row.empty ((Blk.new V0 _ []).alloc _)))
  have ES2 := Lib.hid (Row.below HA.out EB2.out)
  have EB3 := Lib.hid (show Below V0.heap.size V0 (((V0.alloc (Obj.cells #[.int .i64 at_, .int .i64 an, .string ad, .int .i64 ae] 115)).alloc (Obj.cells #[] 115)).drew) from (((Below.refl _ _).alloc (Nat.le_refl _) _).alloc (by simp) _).drew)
  have ER3 := Lib.hid (show Row (((V0.alloc (Obj.cells #[.int .i64 at_, .int .i64 an, .string ad, .int .i64 ae] 115)).alloc (Obj.cells #[] 115)).drew) 115 4 (.slice (some ⟨V0.heap.size + 1, 0, none⟩) 0 0) 0 [] from (show Row ((V0.alloc (Obj.cells #[.int .i64 at_, .int .i64 an, .string ad, .int .i64 ae] 115)).alloc (Obj.cells #[] 115)) 115 4 (.slice (some ⟨V0.heap.size + 1, 0, none⟩) 0 0) 0 [] from Row.empty (blk_at (by simp) _ [])))
  have ES3 := Lib.hid (Row.below HA.out EB3.out)
  have EN2 := Lib.hid (show Row (((V0.alloc (Obj.cells #[] 115)).alloc (Obj.cells #[.int .i64 at_, .int .i64 an, .string ad, .int .i64 ae] 115)).drew) 115 4 (.slice (some ⟨V0.heap.size + 1, 0, none⟩) 1 1) 1 [.int .i64 at_, .int .i64 an, .string ad, .int .i64 ae] from (show Row (((V0.alloc (Obj.cells #[] 115)).alloc (Obj.cells #[.int .i64 at_, .int .i64 an, .string ad, .int .i64 ae] 115))) 115 4 (.slice (some ⟨V0.heap.size + 1, 0, none⟩) 1 1) 1 [.int .i64 at_, .int .i64 an, .string ad, .int .i64 ae] from Row.one (blk_at (by simp) _ [.int .i64 at_, .int .i64 an, .string ad, .int .i64 ae]) rfl))
  have EN3 := Lib.hid (show Row (((V0.alloc (Obj.cells #[.int .i64 at_, .int .i64 an, .string ad, .int .i64 ae] 115)).alloc (Obj.cells #[] 115)).drew) 115 4 (.slice (some ⟨V0.heap.size, 0, none⟩) 1 1) 1 [.int .i64 at_, .int .i64 an, .string ad, .int .i64 ae] from (show Row (((V0.alloc (Obj.cells #[.int .i64 at_, .int .i64 an, .string ad, .int .i64 ae] 115)).alloc (Obj.cells #[] 115))) 115 4 (.slice (some ⟨V0.heap.size, 0, none⟩) 1 1) 1 [.int .i64 at_, .int .i64 an, .string ad, .int .i64 ae] from Row.one ((Blk.new V0 _ [.int .i64 at_, .int .i64 an, .string ad, .int .i64 ae]).alloc _) rfl))
  have ef : ∀ m c, Frsh V0.heap.size (.slice (some ⟨V0.heap.size, 0, none⟩) m c) := fun _ _ => Frsh.at_ (Nat.le_refl _)
  have ef' : ∀ m c, Frsh V0.heap.size (.slice (some ⟨V0.heap.size + 1, 0, none⟩) m c) := fun _ _ => Frsh.at_ (Nat.le_succ _)
  have u1 : ∀ (o : Obj) b i, b < V0.heap.size → (V0.alloc o).cell? ⟨b, i, none⟩ = V0.cell? ⟨b, i, none⟩ := fun o b i hb => World.cell?_alloc_lt V0 o ⟨b, i, none⟩ hb
  have u2 : ∀ (o o' : Obj) b i, b < V0.heap.size → ((V0.alloc o).alloc o').cell? ⟨b, i, none⟩ = V0.cell? ⟨b, i, none⟩ := fun o o' b i hb => (World.cell?_alloc_lt (V0.alloc o) o' ⟨b, i, none⟩ (by simp; omega)).trans (u1 o b i hb)
  have g7 : V0.cell? ⟨w.heap.size, 7, none⟩ = some (.slice aa st.ans.length ka) := KA.out.cell 7
  have x7 : ∀ o : Obj, (V0.alloc o).cell? ⟨w.heap.size, 7, none⟩ = some (.slice aa st.ans.length ka) := fun o => (u1 o _ _ KA.out.lt).trans g7
  have x7' : ∀ o o' : Obj, ((V0.alloc o).alloc o').cell? ⟨w.heap.size, 7, none⟩ = some (.slice aa st.ans.length ka) := fun o o' => (u2 o o' _ _ KA.out.lt).trans g7
  have h0 : V0.cell? ⟨w.heap.size + 1, 0, none⟩ = some (.int .i64 at_) := KB.out.cell 0
  have y0 : ∀ o : Obj, (V0.alloc o).cell? ⟨w.heap.size + 1, 0, none⟩ = some (.int .i64 at_) := fun o => (u1 o _ _ KB.out.lt).trans h0
  have h1 : V0.cell? ⟨w.heap.size + 1, 1, none⟩ = some (.int .i64 an) := KB.out.cell 1
  have y1 : ∀ o : Obj, (V0.alloc o).cell? ⟨w.heap.size + 1, 1, none⟩ = some (.int .i64 an) := fun o => (u1 o _ _ KB.out.lt).trans h1
  have h2 : V0.cell? ⟨w.heap.size + 1, 2, none⟩ = some (.string ad) := KB.out.cell 2
  have y2 : ∀ o : Obj, (V0.alloc o).cell? ⟨w.heap.size + 1, 2, none⟩ = some (.string ad) := fun o => (u1 o _ _ KB.out.lt).trans h2
  have h3 : V0.cell? ⟨w.heap.size + 1, 3, none⟩ = some (.int .i64 ae) := KB.out.cell 3
  have y3 : ∀ o : Obj, (V0.alloc o).cell? ⟨w.heap.size + 1, 3, none⟩ = some (.int .i64 ae) := fun o => (u1 o _ _ KB.out.lt).trans h3
  clear u1 u2
  unfold rpV
  go_enter Try.func68, Try.ntmps68
  go_wp2_with fail
  rw [← HV.out]
  go_cut [] (fun wx => ∃ A C, Blk wx (w.heap.size) 60 [.int .i64 st.limit, .slice a0 st.q0.length k0, .slice a1 st.q1.length k1, .bool st.c0, .bool st.c1, .int .i64 st.tks, .slice aw st.ws.length kw, .slice A (st.ans.length + 1) C] ∧ Blk wx (w.heap.size + 1 + 1) 60 [.int .i64 0, .slice none 0 0, .slice none 0 0, .bool false, .bool false, .int .i64 0, .slice none 0 0, .slice none 0 0] ∧ Row wx 115 4 (.slice A (st.ans.length + 1) C) (st.ans.length + 1) (ansC st.ans ++ [.int .i64 at_, .int .i64 an, .string ad, .int .i64 ae]) ∧ Below w.heap.size w wx)
  case first =>
    go_region_law (first
      | (refine step_append_rows rfl (.tmp 5) (.tmp 7) 58 rfl 115 i0 _ 4 40 Try.underlying58 hi hz0 hz1 hz2 rfl (by omega) (v := .slice (some ⟨V0.heap.size, 0, none⟩) 0 0) rfl (u := .slice aa st.ans.length ka) rfl 0 [] ER1.out st.ans.length (ansC st.ans) ES1.out (ansC_one _) (by unfold maxLen; omega) (by omega) EB1.out (ef _ _) ?_; intro A1 C1 w1 R1 F1 B1 G1; simp only [Nat.zero_add, List.nil_append] at R1 F1; have NN := True.intro; clear G1; have c0 : w1.cell? ⟨w.heap.size + 1, 0, none⟩ = some (.int .i64 at_) := (keepBlk B1 KB.out).cell 0; have c1 : w1.cell? ⟨w.heap.size + 1, 1, none⟩ = some (.int .i64 an) := (keepBlk B1 KB.out).cell 1; have c2 : w1.cell? ⟨w.heap.size + 1, 2, none⟩ = some (.string ad) := (keepBlk B1 KB.out).cell 2; have c3 : w1.cell? ⟨w.heap.size + 1, 3, none⟩ = some (.int .i64 ae) := (keepBlk B1 KB.out).cell 3)
      | (refine step_append_rows rfl (.tmp 5) (.tmp 7) 58 rfl 115 i0 _ 4 40 Try.underlying58 hi hz0 hz1 hz2 rfl (by omega) (v := .slice (some ⟨V0.heap.size, 0, none⟩) 0 0) rfl (u := .slice aa st.ans.length ka) rfl 0 [] ER2.out st.ans.length (ansC st.ans) ES2.out (ansC_one _) (by unfold maxLen; omega) (by omega) EB2.out (ef _ _) ?_; intro A1 C1 w1 R1 F1 B1 G1; simp only [Nat.zero_add, List.nil_append] at R1 F1; have NN := Lib.hid (EN2.out.grown G1 (by simp [Value.ownBlock])); clear G1; have c0 : w1.cell? ⟨w.heap.size + 1, 0, none⟩ = some (.int .i64 at_) := (keepBlk B1 KB.out).cell 0; have c1 : w1.cell? ⟨w.heap.size + 1, 1, none⟩ = some (.int .i64 an) := (keepBlk B1 KB.out).cell 1; have c2 : w1.cell? ⟨w.heap.size + 1, 2, none⟩ = some (.string ad) := (keepBlk B1 KB.out).cell 2; have c3 : w1.cell? ⟨w.heap.size + 1, 3, none⟩ = some (.int .i64 ae) := (keepBlk B1 KB.out).cell 3)
      | (refine step_append_rows rfl (.tmp 5) (.tmp 7) 58 rfl 115 i0 _ 4 40 Try.underlying58 hi hz0 hz1 hz2 rfl (by omega) (v := .slice (some ⟨V0.heap.size + 1, 0, none⟩) 0 0) rfl (u := .slice aa st.ans.length ka) rfl 0 [] ER3.out st.ans.length (ansC st.ans) ES3.out (ansC_one _) (by unfold maxLen; omega) (by omega) EB3.out (ef' _ _) ?_; intro A1 C1 w1 R1 F1 B1 G1; simp only [Nat.zero_add, List.nil_append] at R1 F1; have NN := Lib.hid (EN3.out.grown G1 (by simp [Value.ownBlock])); clear G1; have c0 : w1.cell? ⟨w.heap.size + 1, 0, none⟩ = some (.int .i64 at_) := (keepBlk B1 KB.out).cell 0; have c1 : w1.cell? ⟨w.heap.size + 1, 1, none⟩ = some (.int .i64 an) := (keepBlk B1 KB.out).cell 1; have c2 : w1.cell? ⟨w.heap.size + 1, 2, none⟩ = some (.string ad) := (keepBlk B1 KB.out).cell 2; have c3 : w1.cell? ⟨w.heap.size + 1, 3, none⟩ = some (.int .i64 ae) := (keepBlk B1 KB.out).cell 3)
      | (refine step_append_rows rfl (.tmp 8) (.tmp 10) 58 rfl 115 i0 _ 4 40 Try.underlying58 hi hz0 hz1 hz2 rfl (by omega) (v := .slice A1 st.ans.length C1) rfl (u := .slice (some ⟨w1.heap.size, 0, none⟩) 1 1) rfl st.ans.length (ansC st.ans) (R1.below ((Below.refl _ _).alloc (Nat.le_refl _) _)) 1 [.int .i64 at_, .int .i64 an, .string ad, .int .i64 ae] (Row.one (Blk.new w1 _ [.int .i64 at_, .int .i64 an, .string ad, .int .i64 ae]) rfl) one2 (by unfold maxLen; omega) (by omega) (B1.alloc B1.size _) F1 ?_; intro A2 C2 w2 R2 F2 B2 G2; have p7 : w2.cell? ⟨w.heap.size, 7, none⟩ = some (.slice aa st.ans.length ka) := (keepBlk B2 KA.out).cell 7; have pf : w2.frozen? ⟨w.heap.size, 7, none⟩ = false := (keepBlk B2 KA.out).frozen 7; have BB2 := Lib.hid B2; have RR2 := Lib.hid R2; clear R2 F2 B2 G2 R1 F1 B1 NN)
      | (refine step_append_rows rfl (.tmp 8) (.tmp 10) 58 rfl 115 i0 _ 4 40 Try.underlying58 hi hz0 hz1 hz2 rfl (by omega) (v := .slice A1 st.ans.length C1) rfl (u := .slice (some ⟨V0.heap.size + 1, 0, none⟩) 1 1) rfl st.ans.length (ansC st.ans) R1 1 [.int .i64 at_, .int .i64 an, .string ad, .int .i64 ae] NN.out one2 (by unfold maxLen; omega) (by omega) B1 F1 ?_; intro A2 C2 w2 R2 F2 B2 G2; have p7 : w2.cell? ⟨w.heap.size, 7, none⟩ = some (.slice aa st.ans.length ka) := (keepBlk B2 KA.out).cell 7; have pf : w2.frozen? ⟨w.heap.size, 7, none⟩ = false := (keepBlk B2 KA.out).frozen 7; have BB2 := Lib.hid B2; have RR2 := Lib.hid R2; clear R2 F2 B2 G2 R1 F1 B1 NN)
      | (refine step_append_rows rfl (.tmp 8) (.tmp 10) 58 rfl 115 i0 _ 4 40 Try.underlying58 hi hz0 hz1 hz2 rfl (by omega) (v := .slice A1 st.ans.length C1) rfl (u := .slice (some ⟨V0.heap.size, 0, none⟩) 1 1) rfl st.ans.length (ansC st.ans) R1 1 [.int .i64 at_, .int .i64 an, .string ad, .int .i64 ae] NN.out one2 (by unfold maxLen; omega) (by omega) B1 F1 ?_; intro A2 C2 w2 R2 F2 B2 G2; have p7 : w2.cell? ⟨w.heap.size, 7, none⟩ = some (.slice aa st.ans.length ka) := (keepBlk B2 KA.out).cell 7; have pf : w2.frozen? ⟨w.heap.size, 7, none⟩ = false := (keepBlk B2 KA.out).frozen 7; have BB2 := Lib.hid B2; have RR2 := Lib.hid R2; clear R2 F2 B2 G2 R1 F1 B1 NN))
    all_goals
      refine (show ∀ a' w', Met _ a' w' → _ from by assumption) _ _ ?_
      refine Met.intro ?_
      refine (show ∀ a' w', _ → _ from by assumption) _ _ ?_
      (repeat apply Exists.intro)
      refine ⟨?_, rfl⟩
      exact fin_ans KA.out KC.out BW.out BB2.out RR2.out
  case rest =>
    obtain ⟨A, C, hKA, hKC, hRow, hBel⟩ := hcut
    have XA := Lib.hid hKA
    have XC := Lib.hid hKC
    have XR := Lib.hid hRow
    have XB := Lib.hid hBel
    have XW := hR0
    clear hKA hKC hRow hBel
    have d0 : wc.cell? ⟨w.heap.size, 0, none⟩ = some (.int .i64 st.limit) := XA.out.cell 0
    have d1 : wc.cell? ⟨w.heap.size, 1, none⟩ = some (.slice a0 st.q0.length k0) := XA.out.cell 1
    have d2 : wc.cell? ⟨w.heap.size, 2, none⟩ = some (.slice a1 st.q1.length k1) := XA.out.cell 2
    have d3 : wc.cell? ⟨w.heap.size, 3, none⟩ = some (.bool st.c0) := XA.out.cell 3
    have d4 : wc.cell? ⟨w.heap.size, 4, none⟩ = some (.bool st.c1) := XA.out.cell 4
    have d5 : wc.cell? ⟨w.heap.size, 5, none⟩ = some (.int .i64 st.tks) := XA.out.cell 5
    have d6 : wc.cell? ⟨w.heap.size, 6, none⟩ = some (.slice aw st.ws.length kw) := XA.out.cell 6
    have d7 : wc.cell? ⟨w.heap.size, 7, none⟩ = some (.slice A (st.ans.length + 1) C) := XA.out.cell 7
    have e0 : wc.cell? ⟨w.heap.size + 1 + 1, 0, none⟩ = some (.int .i64 0) := XC.out.cell 0
    have e1 : wc.cell? ⟨w.heap.size + 1 + 1, 1, none⟩ = some (.slice none 0 0) := XC.out.cell 1
    have e2 : wc.cell? ⟨w.heap.size + 1 + 1, 2, none⟩ = some (.slice none 0 0) := XC.out.cell 2
    have e3 : wc.cell? ⟨w.heap.size + 1 + 1, 3, none⟩ = some (.bool false) := XC.out.cell 3
    have e4 : wc.cell? ⟨w.heap.size + 1 + 1, 4, none⟩ = some (.bool false) := XC.out.cell 4
    have e5 : wc.cell? ⟨w.heap.size + 1 + 1, 5, none⟩ = some (.int .i64 0) := XC.out.cell 5
    have e6 : wc.cell? ⟨w.heap.size + 1 + 1, 6, none⟩ = some (.slice none 0 0) := XC.out.cell 6
    have e7 : wc.cell? ⟨w.heap.size + 1 + 1, 7, none⟩ = some (.slice none 0 0) := XC.out.cell 7
    have xf := fun i => XA.out.frozen i
    have zf := fun i => XC.out.frozen i
    go_wp2_with fail
    obtain ⟨o1, o2, o3, o4⟩ := put8 XC.out (.int .i64 st.limit) (.slice a0 st.q0.length k0) (.slice a1 st.q1.length k1) (.bool st.c0) (.bool st.c1) (.int .i64 st.tks) (.slice aw st.ws.length kw) (.slice A (st.ans.length + 1) C)
    have hb := o3 XB.out (show w.heap.size ≤ w.heap.size + 1 + 1 by omega)
    have hrr := XW.out.below hb
    exact bodyPost_ret (res60 rfl _ _ (w.heap.size + 1 + 1) _ _ _ _ _ _ _ _ rfl o1) rfl ⟨⟨_, _, _, .slice A (st.ans.length + 1) C⟩, rfl, ⟨hrr.r0, hrr.r1, hrr.rw_, by show Row _ 115 4 _ (st.ans ++ [_]).length (ansC (st.ans ++ [_])); rw [List.length_append, ansC_append]; exact o2 XR.out (by decide), hrr.o⟩, hb⟩
end Go.Proofs.Ytmnlojbfdpjjdaa
