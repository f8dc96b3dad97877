/- The reference: do, of a read. -/
import Derived.Test.YtmnlojbfdpjjdaaR7
namespace Go.Proofs.Ytmnlojbfdpjjdaa
open Go.RowKit
variable {F : Nat → Prop}
set_option maxRecDepth 100000 in
set_option maxHeartbeats 3200000 in
theorem rdo_readp0 (k : Nat) (b : ByteArray) (hcb : k < b.size) (d : ByteArray) (r : List ByteArray) (he : emptyB ⟨0, 0, (k : Int), d⟩ = false) (S : Sl) (st : St) (hqr : st.q0 = b :: r) (hs : Sm st) (w : World) (hR : Ref F w S st) :
    Calls Try.prog 67 #[rpV S st, .agg #[.int .i64 0, .int .i64 0, .int .i64 (k : Int), .string d]] w (DoSays F w ⟨b.extract k b.size :: r, st.q1, st.c0, st.c1, st.limit, st.tks, st.ws, st.ans⟩ (b.extract 0 k) 0) := by
  obtain ⟨i0, hi, hz0, hz1, hz2⟩ := info_parts Try.info9
  have C79 := Lib.hid (fun W => rnothing_any ⟨0, 0, (k : Int), d⟩ ⟨.inl rfl, .inl rfl⟩ W)
  rw [he] at C79
  have hql : r.length ≤ 100000 := by have := hs.q; rw [hqr] at this; simp only [List.length_cons] at this; omega
  have hbz : b.size ≤ 1000000000000 := by have := hs.z; rw [hqr] at this; simp only [sizes] at this; omega
  obtain ⟨a0, k0, a1, k1, aw, kw, aa, ka, rfl⟩ := hR.open
  have hrow := hR.r0
  rw [hqr] at hrow
  obtain ⟨gb, off, cap, hv, h1, h2, hgb, hcl, _⟩ := hrow.open (by simp)
  have hv' : Value.slice a0 (b :: r).length k0 = .slice (some ⟨gb, off, none⟩) (b :: r).length cap := hv
  injection hv' with hv1 _ hv3
  subst hv1 hv3
  simp only [List.length_cons] at h1
  unfold maxLen at h2
  have HX0 := Lib.hid (show w.cell? ⟨gb, off, none⟩ = some (.string b) from hcl 0 (by simp))
  have HRW := Lib.hid (show Row w 9 1 (.slice (some ⟨gb, off, none⟩) (r.length + 1) k0) (r.length + 1) (strC (b :: r)) from by simpa only [hqr, List.length_cons] using hrow)
  have XW := Lib.hid hR
  unfold rpV
  simp only
  rw [show st.q0.length = r.length + 1 by rw [hqr]; rfl]
  clear hcl hrow hR he hs
  have BW := Lib.hid (show Below w.heap.size w (((w.alloc (.cells #[.int .i64 st.limit, .slice (some ⟨gb, off, none⟩) (r.length + 1) k0, .slice a1 st.q1.length k1, .bool st.c0, .bool st.c1, .int .i64 st.tks, .slice aw st.ws.length kw, .slice aa st.ans.length ka] 60)).alloc (.cells #[.int .i64 0, .int .i64 0, .int .i64 (k : Int), .string d] 107)).alloc (.cells #[.int .i64 0, .slice none 0 0, .slice none 0 0, .bool false, .bool false, .int .i64 0, .slice none 0 0, .slice none 0 0] 60)) from (((Below.refl _ _).alloc (Nat.le_refl _) _).alloc (by simp) _).alloc (by simp; omega) _)
  have KA := Lib.hid (show Blk (((w.alloc (.cells #[.int .i64 st.limit, .slice (some ⟨gb, off, none⟩) (r.length + 1) k0, .slice a1 st.q1.length k1, .bool st.c0, .bool st.c1, .int .i64 st.tks, .slice aw st.ws.length kw, .slice aa st.ans.length ka] 60)).alloc (.cells #[.int .i64 0, .int .i64 0, .int .i64 (k : Int), .string d] 107)).alloc (.cells #[.int .i64 0, .slice none 0 0, .slice none 0 0, .bool false, .bool false, .int .i64 0, .slice none 0 0, .slice none 0 0] 60)) (w.heap.size) 60 [.int .i64 st.limit, .slice (some ⟨gb, off, none⟩) (r.length + 1) k0, .slice a1 st.q1.length k1, .bool st.c0, .bool st.c1, .int .i64 st.tks, .slice aw st.ws.length kw, .slice aa st.ans.length ka] from ((Blk.new w 60 _).alloc _).alloc _)
  have KB := Lib.hid (show Blk (((w.alloc (.cells #[.int .i64 st.limit, .slice (some ⟨gb, off, none⟩) (r.length + 1) k0, .slice a1 st.q1.length k1, .bool st.c0, .bool st.c1, .int .i64 st.tks, .slice aw st.ws.length kw, .slice aa st.ans.length ka] 60)).alloc (.cells #[.int .i64 0, .int .i64 0, .int .i64 (k : Int), .string d] 107)).alloc (.cells #[.int .i64 0, .slice none 0 0, .slice none 0 0, .bool false, .bool false, .int .i64 0, .slice none 0 0, .slice none 0 0] 60)) (w.heap.size + 1) 107 [.int .i64 0, .int .i64 0, .int .i64 (k : Int), .string d] from (blk_at (by simp) 107 [_, _, _, _]).alloc _)
  have KC := Lib.hid (show Blk (((w.alloc (.cells #[.int .i64 st.limit, .slice (some ⟨gb, off, none⟩) (r.length + 1) k0, .slice a1 st.q1.length k1, .bool st.c0, .bool st.c1, .int .i64 st.tks, .slice aw st.ws.length kw, .slice aa st.ans.length ka] 60)).alloc (.cells #[.int .i64 0, .int .i64 0, .int .i64 (k : Int), .string d] 107)).alloc (.cells #[.int .i64 0, .slice none 0 0, .slice none 0 0, .bool false, .bool false, .int .i64 0, .slice none 0 0, .slice none 0 0] 60)) (w.heap.size + 1 + 1) 60 [.int .i64 0, .slice none 0 0, .slice none 0 0, .bool false, .bool false, .int .i64 0, .slice none 0 0, .slice none 0 0] from blk_at (by simp) 60 [_, _, _, _, _, _, _, _])
  go_enter Try.func67, Try.ntmps67
  go_upto_region 8 with (go_at_call 79; refine (C79.out _).mono ?_; rintro e V0 ⟨rfl, hb⟩; have JA := Lib.hid (keepBlk hb KA.out); have ja0 : V0.cell? ⟨w.heap.size, 0, none⟩ = some (.int .i64 st.limit) := JA.out.cell 0; have ja1 : V0.cell? ⟨w.heap.size, 1, none⟩ = some (.slice (some ⟨gb, off, none⟩) (r.length + 1) k0) := JA.out.cell 1; have ja2 : V0.cell? ⟨w.heap.size, 2, none⟩ = some (.slice a1 st.q1.length k1) := JA.out.cell 2; have ja3 : V0.cell? ⟨w.heap.size, 3, none⟩ = some (.bool st.c0) := JA.out.cell 3; have ja4 : V0.cell? ⟨w.heap.size, 4, none⟩ = some (.bool st.c1) := JA.out.cell 4; have ja5 : V0.cell? ⟨w.heap.size, 5, none⟩ = some (.int .i64 st.tks) := JA.out.cell 5; have ja6 : V0.cell? ⟨w.heap.size, 6, none⟩ = some (.slice aw st.ws.length kw) := JA.out.cell 6; have ja7 : V0.cell? ⟨w.heap.size, 7, none⟩ = some (.slice aa st.ans.length ka) := JA.out.cell 7; have JB := Lib.hid (keepBlk hb KB.out); have jb0 : V0.cell? ⟨w.heap.size + 1, 0, none⟩ = some (.int .i64 0) := JB.out.cell 0; have jb1 : V0.cell? ⟨w.heap.size + 1, 1, none⟩ = some (.int .i64 0) := JB.out.cell 1; have jb2 : V0.cell? ⟨w.heap.size + 1, 2, none⟩ = some (.int .i64 (k : Int)) := JB.out.cell 2; have jb3 : V0.cell? ⟨w.heap.size + 1, 3, none⟩ = some (.string d) := JB.out.cell 3; have JC := Lib.hid (keepBlk hb KC.out); have jc0 : V0.cell? ⟨w.heap.size + 1 + 1, 0, none⟩ = some (.int .i64 0) := JC.out.cell 0; have jc1 : V0.cell? ⟨w.heap.size + 1 + 1, 1, none⟩ = some (.slice none 0 0) := JC.out.cell 1; have jc2 : V0.cell? ⟨w.heap.size + 1 + 1, 2, none⟩ = some (.slice none 0 0) := JC.out.cell 2; have jc3 : V0.cell? ⟨w.heap.size + 1 + 1, 3, none⟩ = some (.bool false) := JC.out.cell 3; have jc4 : V0.cell? ⟨w.heap.size + 1 + 1, 4, none⟩ = some (.bool false) := JC.out.cell 4; have jc5 : V0.cell? ⟨w.heap.size + 1 + 1, 5, none⟩ = some (.int .i64 0) := JC.out.cell 5; have jc6 : V0.cell? ⟨w.heap.size + 1 + 1, 6, none⟩ = some (.slice none 0 0) := JC.out.cell 6; have jc7 : V0.cell? ⟨w.heap.size + 1 + 1, 7, none⟩ = some (.slice none 0 0) := JC.out.cell 7; have BV := Lib.hid (keepBelow BW.out hb); have jaf := fun i => JA.out.frozen i; have jcf := fun i => JC.out.frozen i; clear hb)
  have hmin : min (k : Int) (b.size : Int) = (k : Int) := by omega
  have z0 : V0.cell? ⟨gb, off, none⟩ = some (.string b) := (BV.out.cell (p := ⟨gb, off, none⟩) hgb).trans HX0.out
  go_quiet (fail)
  obtain ⟨V1, hV1⟩ : ∃ V1, V1 = V0.drewN nq := ⟨_, rfl⟩
  rw [← hV1]
  have LA := Lib.hid (show Blk V1 (w.heap.size) 60 [.int .i64 st.limit, .slice (some ⟨gb, off, none⟩) (r.length + 1) k0, .slice a1 st.q1.length k1, .bool st.c0, .bool st.c1, .int .i64 st.tks, .slice aw st.ws.length kw, .slice aa st.ans.length ka] by rw [hV1]; exact JA.out)
  have LB := Lib.hid (show Blk V1 (w.heap.size + 1) 107 [.int .i64 0, .int .i64 0, .int .i64 (k : Int), .string d] by rw [hV1]; exact JB.out)
  have LC := Lib.hid (show Blk V1 (w.heap.size + 1 + 1) 60 [.int .i64 0, .slice none 0 0, .slice none 0 0, .bool false, .bool false, .int .i64 0, .slice none 0 0, .slice none 0 0] by rw [hV1]; exact JC.out)
  have BV1 := Lib.hid (show Below w.heap.size w V1 by rw [hV1]; exact belowN BV.out _)
  have x0 : V1.cell? ⟨gb, off, none⟩ = some (.string b) := (BV1.out.cell (p := ⟨gb, off, none⟩) hgb).trans HX0.out
  have HGB := Lib.hid (fun w1 (hb : Below V1.heap.size V1 w1) => hb.cell (p := ⟨gb, off, none⟩) (Nat.lt_of_lt_of_le hgb BV1.out.size))
  have EB := Lib.hid (show Below V1.heap.size V1 (V1.alloc (Obj.cells #[] 9)) from (Below.refl _ _).alloc (Nat.le_refl _) _)
  have ER := Lib.hid (show Row (V1.alloc (Obj.cells #[] 9)) 9 1 (.slice (some ⟨V1.heap.size, 0, none⟩) 0 0) 0 [] from Row.empty (Blk.new V1 _ []))
  have x0' : (V1.alloc (Obj.cells #[] 9)).cell? ⟨gb, off, none⟩ = some (.string b) := (HGB.out _ EB.out).trans x0
  clear hV1 z0 ja0 ja1 ja2 ja3 ja4 ja5 ja6 ja7 jb0 jb1 jb2 jb3 jc0 jc1 jc2 jc3 jc4 jc5 jc6 jc7 jaf jcf hgb hqr
  by_cases hcap : k0 = 1
  · obtain rfl : r = [] := List.eq_nil_of_length_eq_zero (by omega)
    subst hcap
    have ES := Lib.hid (Row.below (show Row V1 9 1 (.slice (some ⟨gb, off, none⟩) 0 0) 0 (strC []) from (HRW.out.below BV1.out).cap0) EB.out)
    have MA := Lib.hid (show Blk ((V1.alloc (Obj.cells #[] 9)).alloc (Obj.cells #[.string (b.extract k b.size)] 9)) (w.heap.size) 60 [.int .i64 st.limit, .slice (some ⟨gb, off, none⟩) (0 + 1) 1, .slice a1 st.q1.length k1, .bool st.c0, .bool st.c1, .int .i64 st.tks, .slice aw st.ws.length kw, .slice aa st.ans.length ka] from (LA.out.alloc _).alloc _)
    have MB := Lib.hid (show Blk ((V1.alloc (Obj.cells #[] 9)).alloc (Obj.cells #[.string (b.extract k b.size)] 9)) (w.heap.size + 1) 107 [.int .i64 0, .int .i64 0, .int .i64 (k : Int), .string d] from (LB.out.alloc _).alloc _)
    have MC := Lib.hid (show Blk ((V1.alloc (Obj.cells #[] 9)).alloc (Obj.cells #[.string (b.extract k b.size)] 9)) (w.heap.size + 1 + 1) 60 [.int .i64 0, .slice none 0 0, .slice none 0 0, .bool false, .bool false, .int .i64 0, .slice none 0 0, .slice none 0 0] from (LC.out.alloc _).alloc _)
    have ML := Lib.hid (show Below w.heap.size w ((V1.alloc (Obj.cells #[] 9)).alloc (Obj.cells #[.string (b.extract k b.size)] 9)) from keepBelow BV1.out (((Below.refl _ _).alloc (Nat.le_refl _) _).alloc (by simp) _))
    have MR := Lib.hid (show Row ((V1.alloc (Obj.cells #[] 9)).alloc (Obj.cells #[.string (b.extract k b.size)] 9)) 9 1 (.slice (some ⟨V1.heap.size + 1, 0, none⟩) 1 1) 1 [.string (b.extract k b.size)] from Row.one (blk_at (by simp) _ [_]) rfl)
    have ma0 : ((V1.alloc (Obj.cells #[] 9)).alloc (Obj.cells #[.string (b.extract k b.size)] 9)).cell? ⟨w.heap.size, 0, none⟩ = some (.int .i64 st.limit) := MA.out.cell 0
    have ma1 : ((V1.alloc (Obj.cells #[] 9)).alloc (Obj.cells #[.string (b.extract k b.size)] 9)).cell? ⟨w.heap.size, 1, none⟩ = some (.slice (some ⟨gb, off, none⟩) (0 + 1) 1) := MA.out.cell 1
    have ma2 : ((V1.alloc (Obj.cells #[] 9)).alloc (Obj.cells #[.string (b.extract k b.size)] 9)).cell? ⟨w.heap.size, 2, none⟩ = some (.slice a1 st.q1.length k1) := MA.out.cell 2
    have ma3 : ((V1.alloc (Obj.cells #[] 9)).alloc (Obj.cells #[.string (b.extract k b.size)] 9)).cell? ⟨w.heap.size, 3, none⟩ = some (.bool st.c0) := MA.out.cell 3
    have ma4 : ((V1.alloc (Obj.cells #[] 9)).alloc (Obj.cells #[.string (b.extract k b.size)] 9)).cell? ⟨w.heap.size, 4, none⟩ = some (.bool st.c1) := MA.out.cell 4
    have ma5 : ((V1.alloc (Obj.cells #[] 9)).alloc (Obj.cells #[.string (b.extract k b.size)] 9)).cell? ⟨w.heap.size, 5, none⟩ = some (.int .i64 st.tks) := MA.out.cell 5
    have ma6 : ((V1.alloc (Obj.cells #[] 9)).alloc (Obj.cells #[.string (b.extract k b.size)] 9)).cell? ⟨w.heap.size, 6, none⟩ = some (.slice aw st.ws.length kw) := MA.out.cell 6
    have ma7 : ((V1.alloc (Obj.cells #[] 9)).alloc (Obj.cells #[.string (b.extract k b.size)] 9)).cell? ⟨w.heap.size, 7, none⟩ = some (.slice aa st.ans.length ka) := MA.out.cell 7
    have mb0 : ((V1.alloc (Obj.cells #[] 9)).alloc (Obj.cells #[.string (b.extract k b.size)] 9)).cell? ⟨w.heap.size + 1, 0, none⟩ = some (.int .i64 0) := MB.out.cell 0
    have mb1 : ((V1.alloc (Obj.cells #[] 9)).alloc (Obj.cells #[.string (b.extract k b.size)] 9)).cell? ⟨w.heap.size + 1, 1, none⟩ = some (.int .i64 0) := MB.out.cell 1
    have mb2 : ((V1.alloc (Obj.cells #[] 9)).alloc (Obj.cells #[.string (b.extract k b.size)] 9)).cell? ⟨w.heap.size + 1, 2, none⟩ = some (.int .i64 (k : Int)) := MB.out.cell 2
    have mb3 : ((V1.alloc (Obj.cells #[] 9)).alloc (Obj.cells #[.string (b.extract k b.size)] 9)).cell? ⟨w.heap.size + 1, 3, none⟩ = some (.string d) := MB.out.cell 3
    have mc0 : ((V1.alloc (Obj.cells #[] 9)).alloc (Obj.cells #[.string (b.extract k b.size)] 9)).cell? ⟨w.heap.size + 1 + 1, 0, none⟩ = some (.int .i64 0) := MC.out.cell 0
    have mc1 : ((V1.alloc (Obj.cells #[] 9)).alloc (Obj.cells #[.string (b.extract k b.size)] 9)).cell? ⟨w.heap.size + 1 + 1, 1, none⟩ = some (.slice none 0 0) := MC.out.cell 1
    have mc2 : ((V1.alloc (Obj.cells #[] 9)).alloc (Obj.cells #[.string (b.extract k b.size)] 9)).cell? ⟨w.heap.size + 1 + 1, 2, none⟩ = some (.slice none 0 0) := MC.out.cell 2
    have mc3 : ((V1.alloc (Obj.cells #[] 9)).alloc (Obj.cells #[.string (b.extract k b.size)] 9)).cell? ⟨w.heap.size + 1 + 1, 3, none⟩ = some (.bool false) := MC.out.cell 3
    have mc4 : ((V1.alloc (Obj.cells #[] 9)).alloc (Obj.cells #[.string (b.extract k b.size)] 9)).cell? ⟨w.heap.size + 1 + 1, 4, none⟩ = some (.bool false) := MC.out.cell 4
    have mc5 : ((V1.alloc (Obj.cells #[] 9)).alloc (Obj.cells #[.string (b.extract k b.size)] 9)).cell? ⟨w.heap.size + 1 + 1, 5, none⟩ = some (.int .i64 0) := MC.out.cell 5
    have mc6 : ((V1.alloc (Obj.cells #[] 9)).alloc (Obj.cells #[.string (b.extract k b.size)] 9)).cell? ⟨w.heap.size + 1 + 1, 6, none⟩ = some (.slice none 0 0) := MC.out.cell 6
    have mc7 : ((V1.alloc (Obj.cells #[] 9)).alloc (Obj.cells #[.string (b.extract k b.size)] 9)).cell? ⟨w.heap.size + 1 + 1, 7, none⟩ = some (.slice none 0 0) := MC.out.cell 7
    have maf : ∀ i, ((V1.alloc (Obj.cells #[] 9)).alloc (Obj.cells #[.string (b.extract k b.size)] 9)).frozen? ⟨w.heap.size, i, none⟩ = false := fun i => MA.out.frozen i
    have mcf : ∀ i, ((V1.alloc (Obj.cells #[] 9)).alloc (Obj.cells #[.string (b.extract k b.size)] 9)).frozen? ⟨w.heap.size + 1 + 1, i, none⟩ = false := fun i => MC.out.frozen i
    simp only [List.length_nil]
    go_wp2_with fail
    obtain ⟨o1, o2, o3, o4⟩ := put8 (MC.out.far (p := ⟨w.heap.size, 1, none⟩) (show w.heap.size + 1 + 1 ≠ w.heap.size by omega) (.slice (some ⟨V1.heap.size + 1, 0, none⟩) 1 1)) (.int .i64 st.limit) (.slice (some ⟨V1.heap.size + 1, 0, none⟩) 1 1) (.slice a1 st.q1.length k1) (.bool st.c0) (.bool st.c1) (.int .i64 st.tks) (.slice aw st.ws.length kw) (.slice aa st.ans.length ka)
    have hb := o3 (ML.out.setCell (p := ⟨w.heap.size, 1, none⟩) (Nat.le_refl _) (.slice (some ⟨V1.heap.size + 1, 0, none⟩) 1 1)) (show w.heap.size ≤ w.heap.size + 1 + 1 by omega)
    have hrr := XW.out.below hb
    exact bodyPost_ret (res60_2 rfl _ _ (w.heap.size + 1 + 1) _ _ _ _ _ _ _ _ _ _ rfl rfl rfl o1) rfl ⟨⟨.slice (some ⟨V1.heap.size + 1, 0, none⟩) 1 1, _, _, _⟩, rfl, ⟨(by exact o2 (MR.out.set_ (MR.out.ne MA.out (by decide)) _) (by decide)), hrr.r1, hrr.rw_, hrr.ra, XW.out.o.new0 hb.size (fun j hj => Nat.le_trans BV1.out.size ((Frsh.at_ (Nat.le_succ _)) j hj))⟩, hb⟩
  · have h1' : 1 ≤ k0 := by omega
    have h1i : (1 : Int) ≤ (k0 : Int) := by omega
    have ES := Lib.hid (Row.below (show Row V1 9 1 (.slice (some ⟨gb, off + 1, none⟩) r.length (k0 - 1)) r.length (strC r) from by have h := (HRW.out.below BV1.out).dropR (k := 1) (by omega); simpa [strC] using h) EB.out)
    go_wp2_with (first
      | (at_builtin; refine list_append_n rfl (.tmp 57) (.tmp 59) 22 rfl 9 i0 _ 1 16 Try.underlying22 hi hz0 hz1 hz2 rfl (by omega) (v := .slice (some ⟨V1.heap.size, 0, none⟩) 0 0) rfl (u := .slice (some ⟨gb, off + 1, none⟩) r.length (k0 - 1)) rfl 0 [] ER.out r.length (strC r) ES.out (strC_one _) (by unfold maxLen; omega) (by omega) r.length (Nat.zero_add _) EB.out (Frsh.at_ (Nat.le_refl _)) ?_; intro A1 C1 w1 R1 F1 B1 G1; rw [List.nil_append] at R1; have HB1 := Lib.hid B1; have y0 : w1.cell? ⟨gb, off, none⟩ = some (.string b) := (HGB.out w1 B1).trans x0; have pa0 : w1.cell? ⟨w.heap.size, 0, none⟩ = some (.int .i64 st.limit) := (Lib.hid (keepBlk B1 LA.out)).out.cell 0; have pa1 : w1.cell? ⟨w.heap.size, 1, none⟩ = some (.slice (some ⟨gb, off, none⟩) (r.length + 1) k0) := (Lib.hid (keepBlk B1 LA.out)).out.cell 1; have pa2 : w1.cell? ⟨w.heap.size, 2, none⟩ = some (.slice a1 st.q1.length k1) := (Lib.hid (keepBlk B1 LA.out)).out.cell 2; have pa3 : w1.cell? ⟨w.heap.size, 3, none⟩ = some (.bool st.c0) := (Lib.hid (keepBlk B1 LA.out)).out.cell 3; have pa4 : w1.cell? ⟨w.heap.size, 4, none⟩ = some (.bool st.c1) := (Lib.hid (keepBlk B1 LA.out)).out.cell 4; have pa5 : w1.cell? ⟨w.heap.size, 5, none⟩ = some (.int .i64 st.tks) := (Lib.hid (keepBlk B1 LA.out)).out.cell 5; have pa6 : w1.cell? ⟨w.heap.size, 6, none⟩ = some (.slice aw st.ws.length kw) := (Lib.hid (keepBlk B1 LA.out)).out.cell 6; have pa7 : w1.cell? ⟨w.heap.size, 7, none⟩ = some (.slice aa st.ans.length ka) := (Lib.hid (keepBlk B1 LA.out)).out.cell 7; have pb0 : w1.cell? ⟨w.heap.size + 1, 0, none⟩ = some (.int .i64 0) := (Lib.hid (keepBlk B1 LB.out)).out.cell 0; have pb1 : w1.cell? ⟨w.heap.size + 1, 1, none⟩ = some (.int .i64 0) := (Lib.hid (keepBlk B1 LB.out)).out.cell 1; have pb2 : w1.cell? ⟨w.heap.size + 1, 2, none⟩ = some (.int .i64 (k : Int)) := (Lib.hid (keepBlk B1 LB.out)).out.cell 2; have pb3 : w1.cell? ⟨w.heap.size + 1, 3, none⟩ = some (.string d) := (Lib.hid (keepBlk B1 LB.out)).out.cell 3; have pc0 : w1.cell? ⟨w.heap.size + 1 + 1, 0, none⟩ = some (.int .i64 0) := (Lib.hid (keepBlk B1 LC.out)).out.cell 0; have pc1 : w1.cell? ⟨w.heap.size + 1 + 1, 1, none⟩ = some (.slice none 0 0) := (Lib.hid (keepBlk B1 LC.out)).out.cell 1; have pc2 : w1.cell? ⟨w.heap.size + 1 + 1, 2, none⟩ = some (.slice none 0 0) := (Lib.hid (keepBlk B1 LC.out)).out.cell 2; have pc3 : w1.cell? ⟨w.heap.size + 1 + 1, 3, none⟩ = some (.bool false) := (Lib.hid (keepBlk B1 LC.out)).out.cell 3; have pc4 : w1.cell? ⟨w.heap.size + 1 + 1, 4, none⟩ = some (.bool false) := (Lib.hid (keepBlk B1 LC.out)).out.cell 4; have pc5 : w1.cell? ⟨w.heap.size + 1 + 1, 5, none⟩ = some (.int .i64 0) := (Lib.hid (keepBlk B1 LC.out)).out.cell 5; have pc6 : w1.cell? ⟨w.heap.size + 1 + 1, 6, none⟩ = some (.slice none 0 0) := (Lib.hid (keepBlk B1 LC.out)).out.cell 6; have pc7 : w1.cell? ⟨w.heap.size + 1 + 1, 7, none⟩ = some (.slice none 0 0) := (Lib.hid (keepBlk B1 LC.out)).out.cell 7; have paf : ∀ i, w1.frozen? ⟨w.heap.size, i, none⟩ = false := fun i => (keepBlk B1 LA.out).frozen i; have pcf : ∀ i, w1.frozen? ⟨w.heap.size + 1 + 1, i, none⟩ = false := fun i => (keepBlk B1 LC.out).frozen i; have HR1 := Lib.hid R1; have HF1 := Lib.hid F1; clear R1 F1 B1 G1)
      | (at_builtin; refine list_append_n rfl (.tmp 72) (.tmp 73) 22 rfl 9 i0 _ 1 16 Try.underlying22 hi hz0 hz1 hz2 rfl (by omega) (v := .slice (some ⟨w1.heap.size, 0, none⟩) 1 1) rfl (u := .slice A1 r.length C1) rfl 1 [.string (b.extract k b.size)] (Row.one (Blk.new w1 _ [.string (b.extract k b.size)]) rfl) r.length (strC r) (HR1.out.below ((Below.refl _ _).alloc (Nat.le_refl _) _)) (strC_one _) (by unfold maxLen; omega) (by omega) (r.length + 1) (Nat.add_comm _ _) (HB1.out.alloc HB1.out.size _) (Frsh.at_ HB1.out.size) ?_; intro A2 C2 w2 R2 F2 B2 G2; have qa0 : w2.cell? ⟨w.heap.size, 0, none⟩ = some (.int .i64 st.limit) := (Lib.hid (keepBlk B2 LA.out)).out.cell 0; have qa1 : w2.cell? ⟨w.heap.size, 1, none⟩ = some (.slice (some ⟨gb, off, none⟩) (r.length + 1) k0) := (Lib.hid (keepBlk B2 LA.out)).out.cell 1; have qa2 : w2.cell? ⟨w.heap.size, 2, none⟩ = some (.slice a1 st.q1.length k1) := (Lib.hid (keepBlk B2 LA.out)).out.cell 2; have qa3 : w2.cell? ⟨w.heap.size, 3, none⟩ = some (.bool st.c0) := (Lib.hid (keepBlk B2 LA.out)).out.cell 3; have qa4 : w2.cell? ⟨w.heap.size, 4, none⟩ = some (.bool st.c1) := (Lib.hid (keepBlk B2 LA.out)).out.cell 4; have qa5 : w2.cell? ⟨w.heap.size, 5, none⟩ = some (.int .i64 st.tks) := (Lib.hid (keepBlk B2 LA.out)).out.cell 5; have qa6 : w2.cell? ⟨w.heap.size, 6, none⟩ = some (.slice aw st.ws.length kw) := (Lib.hid (keepBlk B2 LA.out)).out.cell 6; have qa7 : w2.cell? ⟨w.heap.size, 7, none⟩ = some (.slice aa st.ans.length ka) := (Lib.hid (keepBlk B2 LA.out)).out.cell 7; have qb0 : w2.cell? ⟨w.heap.size + 1, 0, none⟩ = some (.int .i64 0) := (Lib.hid (keepBlk B2 LB.out)).out.cell 0; have qb1 : w2.cell? ⟨w.heap.size + 1, 1, none⟩ = some (.int .i64 0) := (Lib.hid (keepBlk B2 LB.out)).out.cell 1; have qb2 : w2.cell? ⟨w.heap.size + 1, 2, none⟩ = some (.int .i64 (k : Int)) := (Lib.hid (keepBlk B2 LB.out)).out.cell 2; have qb3 : w2.cell? ⟨w.heap.size + 1, 3, none⟩ = some (.string d) := (Lib.hid (keepBlk B2 LB.out)).out.cell 3; have qc0 : w2.cell? ⟨w.heap.size + 1 + 1, 0, none⟩ = some (.int .i64 0) := (Lib.hid (keepBlk B2 LC.out)).out.cell 0; have qc1 : w2.cell? ⟨w.heap.size + 1 + 1, 1, none⟩ = some (.slice none 0 0) := (Lib.hid (keepBlk B2 LC.out)).out.cell 1; have qc2 : w2.cell? ⟨w.heap.size + 1 + 1, 2, none⟩ = some (.slice none 0 0) := (Lib.hid (keepBlk B2 LC.out)).out.cell 2; have qc3 : w2.cell? ⟨w.heap.size + 1 + 1, 3, none⟩ = some (.bool false) := (Lib.hid (keepBlk B2 LC.out)).out.cell 3; have qc4 : w2.cell? ⟨w.heap.size + 1 + 1, 4, none⟩ = some (.bool false) := (Lib.hid (keepBlk B2 LC.out)).out.cell 4; have qc5 : w2.cell? ⟨w.heap.size + 1 + 1, 5, none⟩ = some (.int .i64 0) := (Lib.hid (keepBlk B2 LC.out)).out.cell 5; have qc6 : w2.cell? ⟨w.heap.size + 1 + 1, 6, none⟩ = some (.slice none 0 0) := (Lib.hid (keepBlk B2 LC.out)).out.cell 6; have qc7 : w2.cell? ⟨w.heap.size + 1 + 1, 7, none⟩ = some (.slice none 0 0) := (Lib.hid (keepBlk B2 LC.out)).out.cell 7; have qaf : ∀ i, w2.frozen? ⟨w.heap.size, i, none⟩ = false := fun i => (keepBlk B2 LA.out).frozen i; have qcf : ∀ i, w2.frozen? ⟨w.heap.size + 1 + 1, i, none⟩ = false := fun i => (keepBlk B2 LC.out).frozen i; have HR2 := Lib.hid R2; have HB2 := Lib.hid B2; have HF2 := Lib.hid F2; clear R2 F2 B2 G2))
    have MA := Lib.hid (keepBlk HB2.out LA.out)
    have MC := Lib.hid (keepBlk HB2.out LC.out)
    have ML := Lib.hid (keepBelow BV1.out HB2.out)
    have MR := HR2
    obtain ⟨o1, o2, o3, o4⟩ := put8 (MC.out.far (p := ⟨w.heap.size, 1, none⟩) (show w.heap.size + 1 + 1 ≠ w.heap.size by omega) (.slice A2 (r.length + 1) C2)) (.int .i64 st.limit) (.slice A2 (r.length + 1) C2) (.slice a1 st.q1.length k1) (.bool st.c0) (.bool st.c1) (.int .i64 st.tks) (.slice aw st.ws.length kw) (.slice aa st.ans.length ka)
    have hb := o3 (ML.out.setCell (p := ⟨w.heap.size, 1, none⟩) (Nat.le_refl _) (.slice A2 (r.length + 1) C2)) (show w.heap.size ≤ w.heap.size + 1 + 1 by omega)
    have hrr := XW.out.below hb
    exact bodyPost_ret (res60_2 rfl _ _ (w.heap.size + 1 + 1) _ _ _ _ _ _ _ _ _ _ rfl rfl rfl o1) rfl ⟨⟨.slice A2 (r.length + 1) C2, _, _, _⟩, rfl, ⟨(by exact o2 (MR.out.set_ (MR.out.ne MA.out (by decide)) _) (by decide)), hrr.r1, hrr.rw_, hrr.ra, XW.out.o.new0 hb.size (fun j hj => Nat.le_trans BV1.out.size ((HF2.out) j hj))⟩, hb⟩
set_option maxRecDepth 100000 in
set_option maxHeartbeats 3200000 in
theorem rdo_readp1 (k : Nat) (b : ByteArray) (hcb : k < b.size) (d : ByteArray) (r : List ByteArray) (he : emptyB ⟨0, 1, (k : Int), d⟩ = false) (S : Sl) (st : St) (hqr : st.q1 = b :: r) (hs : Sm st) (w : World) (hR : Ref F w S st) :
    Calls Try.prog 67 #[rpV S st, .agg #[.int .i64 0, .int .i64 1, .int .i64 (k : Int), .string d]] w (DoSays F w ⟨st.q0, b.extract k b.size :: r, st.c0, st.c1, st.limit, st.tks, st.ws, st.ans⟩ (b.extract 0 k) 0) := by
  obtain ⟨i0, hi, hz0, hz1, hz2⟩ := info_parts Try.info9
  have C79 := Lib.hid (fun W => rnothing_any ⟨0, 1, (k : Int), d⟩ ⟨.inl rfl, .inr rfl⟩ W)
  rw [he] at C79
  have hql : r.length ≤ 100000 := by have := hs.q; rw [hqr] at this; simp only [List.length_cons] at this; omega
  have hbz : b.size ≤ 1000000000000 := by have := hs.z; rw [hqr] at this; simp only [sizes] at this; omega
  obtain ⟨a0, k0, a1, k1, aw, kw, aa, ka, rfl⟩ := hR.open
  have hrow := hR.r1
  rw [hqr] at hrow
  obtain ⟨gb, off, cap, hv, h1, h2, hgb, hcl, _⟩ := hrow.open (by simp)
  have hv' : Value.slice a1 (b :: r).length k1 = .slice (some ⟨gb, off, none⟩) (b :: r).length cap := hv
  injection hv' with hv1 _ hv3
  subst hv1 hv3
  simp only [List.length_cons] at h1
  unfold maxLen at h2
  have HX0 := Lib.hid (show w.cell? ⟨gb, off, none⟩ = some (.string b) from hcl 0 (by simp))
  have HRW := Lib.hid (show Row w 9 1 (.slice (some ⟨gb, off, none⟩) (r.length + 1) k1) (r.length + 1) (strC (b :: r)) from by simpa only [hqr, List.length_cons] using hrow)
  have XW := Lib.hid hR
  unfold rpV
  simp only
  rw [show st.q1.length = r.length + 1 by rw [hqr]; rfl]
  clear hcl hrow hR he hs
  have BW := Lib.hid (show Below w.heap.size w (((w.alloc (.cells #[.int .i64 st.limit, .slice a0 st.q0.length k0, .slice (some ⟨gb, off, none⟩) (r.length + 1) k1, .bool st.c0, .bool st.c1, .int .i64 st.tks, .slice aw st.ws.length kw, .slice aa st.ans.length ka] 60)).alloc (.cells #[.int .i64 0, .int .i64 1, .int .i64 (k : Int), .string d] 107)).alloc (.cells #[.int .i64 0, .slice none 0 0, .slice none 0 0, .bool false, .bool false, .int .i64 0, .slice none 0 0, .slice none 0 0] 60)) from (((Below.refl _ _).alloc (Nat.le_refl _) _).alloc (by simp) _).alloc (by simp; omega) _)
  have KA := Lib.hid (show Blk (((w.alloc (.cells #[.int .i64 st.limit, .slice a0 st.q0.length k0, .slice (some ⟨gb, off, none⟩) (r.length + 1) k1, .bool st.c0, .bool st.c1, .int .i64 st.tks, .slice aw st.ws.length kw, .slice aa st.ans.length ka] 60)).alloc (.cells #[.int .i64 0, .int .i64 1, .int .i64 (k : Int), .string d] 107)).alloc (.cells #[.int .i64 0, .slice none 0 0, .slice none 0 0, .bool false, .bool false, .int .i64 0, .slice none 0 0, .slice none 0 0] 60)) (w.heap.size) 60 [.int .i64 st.limit, .slice a0 st.q0.length k0, .slice (some ⟨gb, off, none⟩) (r.length + 1) k1, .bool st.c0, .bool st.c1, .int .i64 st.tks, .slice aw st.ws.length kw, .slice aa st.ans.length ka] from ((Blk.new w 60 _).alloc _).alloc _)
  have KB := Lib.hid (show Blk (((w.alloc (.cells #[.int .i64 st.limit, .slice a0 st.q0.length k0, .slice (some ⟨gb, off, none⟩) (r.length + 1) k1, .bool st.c0, .bool st.c1, .int .i64 st.tks, .slice aw st.ws.length kw, .slice aa st.ans.length ka] 60)).alloc (.cells #[.int .i64 0, .int .i64 1, .int .i64 (k : Int), .string d] 107)).alloc (.cells #[.int .i64 0, .slice none 0 0, .slice none 0 0, .bool false, .bool false, .int .i64 0, .slice none 0 0, .slice none 0 0] 60)) (w.heap.size + 1) 107 [.int .i64 0, .int .i64 1, .int .i64 (k : Int), .string d] from (blk_at (by simp) 107 [_, _, _, _]).alloc _)
  have KC := Lib.hid (show Blk (((w.alloc (.cells #[.int .i64 st.limit, .slice a0 st.q0.length k0, .slice (some ⟨gb, off, none⟩) (r.length + 1) k1, .bool st.c0, .bool st.c1, .int .i64 st.tks, .slice aw st.ws.length kw, .slice aa st.ans.length ka] 60)).alloc (.cells #[.int .i64 0, .int .i64 1, .int .i64 (k : Int), .string d] 107)).alloc (.cells #[.int .i64 0, .slice none 0 0, .slice none 0 0, .bool false, .bool false, .int .i64 0, .slice none 0 0, .slice none 0 0] 60)) (w.heap.size + 1 + 1) 60 [.int .i64 0, .slice none 0 0, .slice none 0 0, .bool false, .bool false, .int .i64 0, .slice none 0 0, .slice none 0 0] from blk_at (by simp) 60 [_, _, _, _, _, _, _, _])
  go_enter Try.func67, Try.ntmps67
  go_upto_region 8 with (go_at_call 79; refine (C79.out _).mono ?_; rintro e V0 ⟨rfl, hb⟩; have JA := Lib.hid (keepBlk hb KA.out); have ja0 : V0.cell? ⟨w.heap.size, 0, none⟩ = some (.int .i64 st.limit) := JA.out.cell 0; have ja1 : V0.cell? ⟨w.heap.size, 1, none⟩ = some (.slice a0 st.q0.length k0) := JA.out.cell 1; have ja2 : V0.cell? ⟨w.heap.size, 2, none⟩ = some (.slice (some ⟨gb, off, none⟩) (r.length + 1) k1) := JA.out.cell 2; have ja3 : V0.cell? ⟨w.heap.size, 3, none⟩ = some (.bool st.c0) := JA.out.cell 3; have ja4 : V0.cell? ⟨w.heap.size, 4, none⟩ = some (.bool st.c1) := JA.out.cell 4; have ja5 : V0.cell? ⟨w.heap.size, 5, none⟩ = some (.int .i64 st.tks) := JA.out.cell 5; have ja6 : V0.cell? ⟨w.heap.size, 6, none⟩ = some (.slice aw st.ws.length kw) := JA.out.cell 6; have ja7 : V0.cell? ⟨w.heap.size, 7, none⟩ = some (.slice aa st.ans.length ka) := JA.out.cell 7; have JB := Lib.hid (keepBlk hb KB.out); have jb0 : V0.cell? ⟨w.heap.size + 1, 0, none⟩ = some (.int .i64 0) := JB.out.cell 0; have jb1 : V0.cell? ⟨w.heap.size + 1, 1, none⟩ = some (.int .i64 1) := JB.out.cell 1; have jb2 : V0.cell? ⟨w.heap.size + 1, 2, none⟩ = some (.int .i64 (k : Int)) := JB.out.cell 2; have jb3 : V0.cell? ⟨w.heap.size + 1, 3, none⟩ = some (.string d) := JB.out.cell 3; have JC := Lib.hid (keepBlk hb KC.out); have jc0 : V0.cell? ⟨w.heap.size + 1 + 1, 0, none⟩ = some (.int .i64 0) := JC.out.cell 0; have jc1 : V0.cell? ⟨w.heap.size + 1 + 1, 1, none⟩ = some (.slice none 0 0) := JC.out.cell 1; have jc2 : V0.cell? ⟨w.heap.size + 1 + 1, 2, none⟩ = some (.slice none 0 0) := JC.out.cell 2; have jc3 : V0.cell? ⟨w.heap.size + 1 + 1, 3, none⟩ = some (.bool false) := JC.out.cell 3; have jc4 : V0.cell? ⟨w.heap.size + 1 + 1, 4, none⟩ = some (.bool false) := JC.out.cell 4; have jc5 : V0.cell? ⟨w.heap.size + 1 + 1, 5, none⟩ = some (.int .i64 0) := JC.out.cell 5; have jc6 : V0.cell? ⟨w.heap.size + 1 + 1, 6, none⟩ = some (.slice none 0 0) := JC.out.cell 6; have jc7 : V0.cell? ⟨w.heap.size + 1 + 1, 7, none⟩ = some (.slice none 0 0) := JC.out.cell 7; have BV := Lib.hid (keepBelow BW.out hb); have jaf := fun i => JA.out.frozen i; have jcf := fun i => JC.out.frozen i; clear hb)
  have hmin : min (k : Int) (b.size : Int) = (k : Int) := by omega
  have z0 : V0.cell? ⟨gb, off, none⟩ = some (.string b) := (BV.out.cell (p := ⟨gb, off, none⟩) hgb).trans HX0.out
  go_quiet (fail)
  obtain ⟨V1, hV1⟩ : ∃ V1, V1 = V0.drewN nq := ⟨_, rfl⟩
  rw [← hV1]
  have LA := Lib.hid (show Blk V1 (w.heap.size) 60 [.int .i64 st.limit, .slice a0 st.q0.length k0, .slice (some ⟨gb, off, none⟩) (r.length + 1) k1, .bool st.c0, .bool st.c1, .int .i64 st.tks, .slice aw st.ws.length kw, .slice aa st.ans.length ka] by rw [hV1]; exact JA.out)
  have LB := Lib.hid (show Blk V1 (w.heap.size + 1) 107 [.int .i64 0, .int .i64 1, .int .i64 (k : Int), .string d] by rw [hV1]; exact JB.out)
  have LC := Lib.hid (show Blk V1 (w.heap.size + 1 + 1) 60 [.int .i64 0, .slice none 0 0, .slice none 0 0, .bool false, .bool false, .int .i64 0, .slice none 0 0, .slice none 0 0] by rw [hV1]; exact JC.out)
  have BV1 := Lib.hid (show Below w.heap.size w V1 by rw [hV1]; exact belowN BV.out _)
  have x0 : V1.cell? ⟨gb, off, none⟩ = some (.string b) := (BV1.out.cell (p := ⟨gb, off, none⟩) hgb).trans HX0.out
  have HGB := Lib.hid (fun w1 (hb : Below V1.heap.size V1 w1) => hb.cell (p := ⟨gb, off, none⟩) (Nat.lt_of_lt_of_le hgb BV1.out.size))
  have EB := Lib.hid (show Below V1.heap.size V1 (V1.alloc (Obj.cells #[] 9)) from (Below.refl _ _).alloc (Nat.le_refl _) _)
  have ER := Lib.hid (show Row (V1.alloc (Obj.cells #[] 9)) 9 1 (.slice (some ⟨V1.heap.size, 0, none⟩) 0 0) 0 [] from Row.empty (Blk.new V1 _ []))
  have x0' : (V1.alloc (Obj.cells #[] 9)).cell? ⟨gb, off, none⟩ = some (.string b) := (HGB.out _ EB.out).trans x0
  clear hV1 z0 ja0 ja1 ja2 ja3 ja4 ja5 ja6 ja7 jb0 jb1 jb2 jb3 jc0 jc1 jc2 jc3 jc4 jc5 jc6 jc7 jaf jcf hgb hqr
  by_cases hcap : k1 = 1
  · obtain rfl : r = [] := List.eq_nil_of_length_eq_zero (by omega)
    subst hcap
    have ES := Lib.hid (Row.below (show Row V1 9 1 (.slice (some ⟨gb, off, none⟩) 0 0) 0 (strC []) from (HRW.out.below BV1.out).cap0) EB.out)
    have MA := Lib.hid (show Blk ((V1.alloc (Obj.cells #[] 9)).alloc (Obj.cells #[.string (b.extract k b.size)] 9)) (w.heap.size) 60 [.int .i64 st.limit, .slice a0 st.q0.length k0, .slice (some ⟨gb, off, none⟩) (0 + 1) 1, .bool st.c0, .bool st.c1, .int .i64 st.tks, .slice aw st.ws.length kw, .slice aa st.ans.length ka] from (LA.out.alloc _).alloc _)
    have MB := Lib.hid (show Blk ((V1.alloc (Obj.cells #[] 9)).alloc (Obj.cells #[.string (b.extract k b.size)] 9)) (w.heap.size + 1) 107 [.int .i64 0, .int .i64 1, .int .i64 (k : Int), .string d] from (LB.out.alloc _).alloc _)
    have MC := Lib.hid (show Blk ((V1.alloc (Obj.cells #[] 9)).alloc (Obj.cells #[.string (b.extract k b.size)] 9)) (w.heap.size + 1 + 1) 60 [.int .i64 0, .slice none 0 0, .slice none 0 0, .bool false, .bool false, .int .i64 0, .slice none 0 0, .slice none 0 0] from (LC.out.alloc _).alloc _)
    have ML := Lib.hid (show Below w.heap.size w ((V1.alloc (Obj.cells #[] 9)).alloc (Obj.cells #[.string (b.extract k b.size)] 9)) from keepBelow BV1.out (((Below.refl _ _).alloc (Nat.le_refl _) _).alloc (by simp) _))
    have MR := Lib.hid (show Row ((V1.alloc (Obj.cells #[] 9)).alloc (Obj.cells #[.string (b.extract k b.size)] 9)) 9 1 (.slice (some ⟨V1.heap.size + 1, 0, none⟩) 1 1) 1 [.string (b.extract k b.size)] from Row.one (blk_at (by simp) _ [_]) rfl)
    have ma0 : ((V1.alloc (Obj.cells #[] 9)).alloc (Obj.cells #[.string (b.extract k b.size)] 9)).cell? ⟨w.heap.size, 0, none⟩ = some (.int .i64 st.limit) := MA.out.cell 0
    have ma1 : ((V1.alloc (Obj.cells #[] 9)).alloc (Obj.cells #[.string (b.extract k b.size)] 9)).cell? ⟨w.heap.size, 1, none⟩ = some (.slice a0 st.q0.length k0) := MA.out.cell 1
    have ma2 : ((V1.alloc (Obj.cells #[] 9)).alloc (Obj.cells #[.string (b.extract k b.size)] 9)).cell? ⟨w.heap.size, 2, none⟩ = some (.slice (some ⟨gb, off, none⟩) (0 + 1) 1) := MA.out.cell 2
    have ma3 : ((V1.alloc (Obj.cells #[] 9)).alloc (Obj.cells #[.string (b.extract k b.size)] 9)).cell? ⟨w.heap.size, 3, none⟩ = some (.bool st.c0) := MA.out.cell 3
    have ma4 : ((V1.alloc (Obj.cells #[] 9)).alloc (Obj.cells #[.string (b.extract k b.size)] 9)).cell? ⟨w.heap.size, 4, none⟩ = some (.bool st.c1) := MA.out.cell 4
    have ma5 : ((V1.alloc (Obj.cells #[] 9)).alloc (Obj.cells #[.string (b.extract k b.size)] 9)).cell? ⟨w.heap.size, 5, none⟩ = some (.int .i64 st.tks) := MA.out.cell 5
    have ma6 : ((V1.alloc (Obj.cells #[] 9)).alloc (Obj.cells #[.string (b.extract k b.size)] 9)).cell? ⟨w.heap.size, 6, none⟩ = some (.slice aw st.ws.length kw) := MA.out.cell 6
    have ma7 : ((V1.alloc (Obj.cells #[] 9)).alloc (Obj.cells #[.string (b.extract k b.size)] 9)).cell? ⟨w.heap.size, 7, none⟩ = some (.slice aa st.ans.length ka) := MA.out.cell 7
    have mb0 : ((V1.alloc (Obj.cells #[] 9)).alloc (Obj.cells #[.string (b.extract k b.size)] 9)).cell? ⟨w.heap.size + 1, 0, none⟩ = some (.int .i64 0) := MB.out.cell 0
    have mb1 : ((V1.alloc (Obj.cells #[] 9)).alloc (Obj.cells #[.string (b.extract k b.size)] 9)).cell? ⟨w.heap.size + 1, 1, none⟩ = some (.int .i64 1) := MB.out.cell 1
    have mb2 : ((V1.alloc (Obj.cells #[] 9)).alloc (Obj.cells #[.string (b.extract k b.size)] 9)).cell? ⟨w.heap.size + 1, 2, none⟩ = some (.int .i64 (k : Int)) := MB.out.cell 2
    have mb3 : ((V1.alloc (Obj.cells #[] 9)).alloc (Obj.cells #[.string (b.extract k b.size)] 9)).cell? ⟨w.heap.size + 1, 3, none⟩ = some (.string d) := MB.out.cell 3
    have mc0 : ((V1.alloc (Obj.cells #[] 9)).alloc (Obj.cells #[.string (b.extract k b.size)] 9)).cell? ⟨w.heap.size + 1 + 1, 0, none⟩ = some (.int .i64 0) := MC.out.cell 0
    have mc1 : ((V1.alloc (Obj.cells #[] 9)).alloc (Obj.cells #[.string (b.extract k b.size)] 9)).cell? ⟨w.heap.size + 1 + 1, 1, none⟩ = some (.slice none 0 0) := MC.out.cell 1
    have mc2 : ((V1.alloc (Obj.cells #[] 9)).alloc (Obj.cells #[.string (b.extract k b.size)] 9)).cell? ⟨w.heap.size + 1 + 1, 2, none⟩ = some (.slice none 0 0) := MC.out.cell 2
    have mc3 : ((V1.alloc (Obj.cells #[] 9)).alloc (Obj.cells #[.string (b.extract k b.size)] 9)).cell? ⟨w.heap.size + 1 + 1, 3, none⟩ = some (.bool false) := MC.out.cell 3
    have mc4 : ((V1.alloc (Obj.cells #[] 9)).alloc (Obj.cells #[.string (b.extract k b.size)] 9)).cell? ⟨w.heap.size + 1 + 1, 4, none⟩ = some (.bool false) := MC.out.cell 4
    have mc5 : ((V1.alloc (Obj.cells #[] 9)).alloc (Obj.cells #[.string (b.extract k b.size)] 9)).cell? ⟨w.heap.size + 1 + 1, 5, none⟩ = some (.int .i64 0) := MC.out.cell 5
    have mc6 : ((V1.alloc (Obj.cells #[] 9)).alloc (Obj.cells #[.string (b.extract k b.size)] 9)).cell? ⟨w.heap.size + 1 + 1, 6, none⟩ = some (.slice none 0 0) := MC.out.cell 6
    have mc7 : ((V1.alloc (Obj.cells #[] 9)).alloc (Obj.cells #[.string (b.extract k b.size)] 9)).cell? ⟨w.heap.size + 1 + 1, 7, none⟩ = some (.slice none 0 0) := MC.out.cell 7
    have maf : ∀ i, ((V1.alloc (Obj.cells #[] 9)).alloc (Obj.cells #[.string (b.extract k b.size)] 9)).frozen? ⟨w.heap.size, i, none⟩ = false := fun i => MA.out.frozen i
    have mcf : ∀ i, ((V1.alloc (Obj.cells #[] 9)).alloc (Obj.cells #[.string (b.extract k b.size)] 9)).frozen? ⟨w.heap.size + 1 + 1, i, none⟩ = false := fun i => MC.out.frozen i
    simp only [List.length_nil]
    go_wp2_with fail
    obtain ⟨o1, o2, o3, o4⟩ := put8 (MC.out.far (p := ⟨w.heap.size, 2, none⟩) (show w.heap.size + 1 + 1 ≠ w.heap.size by omega) (.slice (some ⟨V1.heap.size + 1, 0, none⟩) 1 1)) (.int .i64 st.limit) (.slice a0 st.q0.length k0) (.slice (some ⟨V1.heap.size + 1, 0, none⟩) 1 1) (.bool st.c0) (.bool st.c1) (.int .i64 st.tks) (.slice aw st.ws.length kw) (.slice aa st.ans.length ka)
    have hb := o3 (ML.out.setCell (p := ⟨w.heap.size, 2, none⟩) (Nat.le_refl _) (.slice (some ⟨V1.heap.size + 1, 0, none⟩) 1 1)) (show w.heap.size ≤ w.heap.size + 1 + 1 by omega)
    have hrr := XW.out.below hb
    exact bodyPost_ret (res60_2 rfl _ _ (w.heap.size + 1 + 1) _ _ _ _ _ _ _ _ _ _ rfl rfl rfl o1) rfl ⟨⟨_, .slice (some ⟨V1.heap.size + 1, 0, none⟩) 1 1, _, _⟩, rfl, ⟨hrr.r0, (by exact o2 (MR.out.set_ (MR.out.ne MA.out (by decide)) _) (by decide)), hrr.rw_, hrr.ra, XW.out.o.new1 hb.size (fun j hj => Nat.le_trans BV1.out.size ((Frsh.at_ (Nat.le_succ _)) j hj))⟩, hb⟩
  · have h1' : 1 ≤ k1 := by omega
    have h1i : (1 : Int) ≤ (k1 : Int) := by omega
    have ES := Lib.hid (Row.below (show Row V1 9 1 (.slice (some ⟨gb, off + 1, none⟩) r.length (k1 - 1)) r.length (strC r) from by have h := (HRW.out.below BV1.out).dropR (k := 1) (by omega); simpa [strC] using h) EB.out)
    go_wp2_with (first
      | (at_builtin; refine list_append_n rfl (.tmp 57) (.tmp 59) 22 rfl 9 i0 _ 1 16 Try.underlying22 hi hz0 hz1 hz2 rfl (by omega) (v := .slice (some ⟨V1.heap.size, 0, none⟩) 0 0) rfl (u := .slice (some ⟨gb, off + 1, none⟩) r.length (k1 - 1)) rfl 0 [] ER.out r.length (strC r) ES.out (strC_one _) (by unfold maxLen; omega) (by omega) r.length (Nat.zero_add _) EB.out (Frsh.at_ (Nat.le_refl _)) ?_; intro A1 C1 w1 R1 F1 B1 G1; rw [List.nil_append] at R1; have HB1 := Lib.hid B1; have y0 : w1.cell? ⟨gb, off, none⟩ = some (.string b) := (HGB.out w1 B1).trans x0; have pa0 : w1.cell? ⟨w.heap.size, 0, none⟩ = some (.int .i64 st.limit) := (Lib.hid (keepBlk B1 LA.out)).out.cell 0; have pa1 : w1.cell? ⟨w.heap.size, 1, none⟩ = some (.slice a0 st.q0.length k0) := (Lib.hid (keepBlk B1 LA.out)).out.cell 1; have pa2 : w1.cell? ⟨w.heap.size, 2, none⟩ = some (.slice (some ⟨gb, off, none⟩) (r.length + 1) k1) := (Lib.hid (keepBlk B1 LA.out)).out.cell 2; have pa3 : w1.cell? ⟨w.heap.size, 3, none⟩ = some (.bool st.c0) := (Lib.hid (keepBlk B1 LA.out)).out.cell 3; have pa4 : w1.cell? ⟨w.heap.size, 4, none⟩ = some (.bool st.c1) := (Lib.hid (keepBlk B1 LA.out)).out.cell 4; have pa5 : w1.cell? ⟨w.heap.size, 5, none⟩ = some (.int .i64 st.tks) := (Lib.hid (keepBlk B1 LA.out)).out.cell 5; have pa6 : w1.cell? ⟨w.heap.size, 6, none⟩ = some (.slice aw st.ws.length kw) := (Lib.hid (keepBlk B1 LA.out)).out.cell 6; have pa7 : w1.cell? ⟨w.heap.size, 7, none⟩ = some (.slice aa st.ans.length ka) := (Lib.hid (keepBlk B1 LA.out)).out.cell 7; have pb0 : w1.cell? ⟨w.heap.size + 1, 0, none⟩ = some (.int .i64 0) := (Lib.hid (keepBlk B1 LB.out)).out.cell 0; have pb1 : w1.cell? ⟨w.heap.size + 1, 1, none⟩ = some (.int .i64 1) := (Lib.hid (keepBlk B1 LB.out)).out.cell 1; have pb2 : w1.cell? ⟨w.heap.size + 1, 2, none⟩ = some (.int .i64 (k : Int)) := (Lib.hid (keepBlk B1 LB.out)).out.cell 2; have pb3 : w1.cell? ⟨w.heap.size + 1, 3, none⟩ = some (.string d) := (Lib.hid (keepBlk B1 LB.out)).out.cell 3; have pc0 : w1.cell? ⟨w.heap.size + 1 + 1, 0, none⟩ = some (.int .i64 0) := (Lib.hid (keepBlk B1 LC.out)).out.cell 0; have pc1 : w1.cell? ⟨w.heap.size + 1 + 1, 1, none⟩ = some (.slice none 0 0) := (Lib.hid (keepBlk B1 LC.out)).out.cell 1; have pc2 : w1.cell? ⟨w.heap.size + 1 + 1, 2, none⟩ = some (.slice none 0 0) := (Lib.hid (keepBlk B1 LC.out)).out.cell 2; have pc3 : w1.cell? ⟨w.heap.size + 1 + 1, 3, none⟩ = some (.bool false) := (Lib.hid (keepBlk B1 LC.out)).out.cell 3; have pc4 : w1.cell? ⟨w.heap.size + 1 + 1, 4, none⟩ = some (.bool false) := (Lib.hid (keepBlk B1 LC.out)).out.cell 4; have pc5 : w1.cell? ⟨w.heap.size + 1 + 1, 5, none⟩ = some (.int .i64 0) := (Lib.hid (keepBlk B1 LC.out)).out.cell 5; have pc6 : w1.cell? ⟨w.heap.size + 1 + 1, 6, none⟩ = some (.slice none 0 0) := (Lib.hid (keepBlk B1 LC.out)).out.cell 6; have pc7 : w1.cell? ⟨w.heap.size + 1 + 1, 7, none⟩ = some (.slice none 0 0) := (Lib.hid (keepBlk B1 LC.out)).out.cell 7; have paf : ∀ i, w1.frozen? ⟨w.heap.size, i, none⟩ = false := fun i => (keepBlk B1 LA.out).frozen i; have pcf : ∀ i, w1.frozen? ⟨w.heap.size + 1 + 1, i, none⟩ = false := fun i => (keepBlk B1 LC.out).frozen i; have HR1 := Lib.hid R1; have HF1 := Lib.hid F1; clear R1 F1 B1 G1)
      | (at_builtin; refine list_append_n rfl (.tmp 72) (.tmp 73) 22 rfl 9 i0 _ 1 16 Try.underlying22 hi hz0 hz1 hz2 rfl (by omega) (v := .slice (some ⟨w1.heap.size, 0, none⟩) 1 1) rfl (u := .slice A1 r.length C1) rfl 1 [.string (b.extract k b.size)] (Row.one (Blk.new w1 _ [.string (b.extract k b.size)]) rfl) r.length (strC r) (HR1.out.below ((Below.refl _ _).alloc (Nat.le_refl _) _)) (strC_one _) (by unfold maxLen; omega) (by omega) (r.length + 1) (Nat.add_comm _ _) (HB1.out.alloc HB1.out.size _) (Frsh.at_ HB1.out.size) ?_; intro A2 C2 w2 R2 F2 B2 G2; have qa0 : w2.cell? ⟨w.heap.size, 0, none⟩ = some (.int .i64 st.limit) := (Lib.hid (keepBlk B2 LA.out)).out.cell 0; have qa1 : w2.cell? ⟨w.heap.size, 1, none⟩ = some (.slice a0 st.q0.length k0) := (Lib.hid (keepBlk B2 LA.out)).out.cell 1; have qa2 : w2.cell? ⟨w.heap.size, 2, none⟩ = some (.slice (some ⟨gb, off, none⟩) (r.length + 1) k1) := (Lib.hid (keepBlk B2 LA.out)).out.cell 2; have qa3 : w2.cell? ⟨w.heap.size, 3, none⟩ = some (.bool st.c0) := (Lib.hid (keepBlk B2 LA.out)).out.cell 3; have qa4 : w2.cell? ⟨w.heap.size, 4, none⟩ = some (.bool st.c1) := (Lib.hid (keepBlk B2 LA.out)).out.cell 4; have qa5 : w2.cell? ⟨w.heap.size, 5, none⟩ = some (.int .i64 st.tks) := (Lib.hid (keepBlk B2 LA.out)).out.cell 5; have qa6 : w2.cell? ⟨w.heap.size, 6, none⟩ = some (.slice aw st.ws.length kw) := (Lib.hid (keepBlk B2 LA.out)).out.cell 6; have qa7 : w2.cell? ⟨w.heap.size, 7, none⟩ = some (.slice aa st.ans.length ka) := (Lib.hid (keepBlk B2 LA.out)).out.cell 7; have qb0 : w2.cell? ⟨w.heap.size + 1, 0, none⟩ = some (.int .i64 0) := (Lib.hid (keepBlk B2 LB.out)).out.cell 0; have qb1 : w2.cell? ⟨w.heap.size + 1, 1, none⟩ = some (.int .i64 1) := (Lib.hid (keepBlk B2 LB.out)).out.cell 1; have qb2 : w2.cell? ⟨w.heap.size + 1, 2, none⟩ = some (.int .i64 (k : Int)) := (Lib.hid (keepBlk B2 LB.out)).out.cell 2; have qb3 : w2.cell? ⟨w.heap.size + 1, 3, none⟩ = some (.string d) := (Lib.hid (keepBlk B2 LB.out)).out.cell 3; have qc0 : w2.cell? ⟨w.heap.size + 1 + 1, 0, none⟩ = some (.int .i64 0) := (Lib.hid (keepBlk B2 LC.out)).out.cell 0; have qc1 : w2.cell? ⟨w.heap.size + 1 + 1, 1, none⟩ = some (.slice none 0 0) := (Lib.hid (keepBlk B2 LC.out)).out.cell 1; have qc2 : w2.cell? ⟨w.heap.size + 1 + 1, 2, none⟩ = some (.slice none 0 0) := (Lib.hid (keepBlk B2 LC.out)).out.cell 2; have qc3 : w2.cell? ⟨w.heap.size + 1 + 1, 3, none⟩ = some (.bool false) := (Lib.hid (keepBlk B2 LC.out)).out.cell 3; have qc4 : w2.cell? ⟨w.heap.size + 1 + 1, 4, none⟩ = some (.bool false) := (Lib.hid (keepBlk B2 LC.out)).out.cell 4; have qc5 : w2.cell? ⟨w.heap.size + 1 + 1, 5, none⟩ = some (.int .i64 0) := (Lib.hid (keepBlk B2 LC.out)).out.cell 5; have qc6 : w2.cell? ⟨w.heap.size + 1 + 1, 6, none⟩ = some (.slice none 0 0) := (Lib.hid (keepBlk B2 LC.out)).out.cell 6; have qc7 : w2.cell? ⟨w.heap.size + 1 + 1, 7, none⟩ = some (.slice none 0 0) := (Lib.hid (keepBlk B2 LC.out)).out.cell 7; have qaf : ∀ i, w2.frozen? ⟨w.heap.size, i, none⟩ = false := fun i => (keepBlk B2 LA.out).frozen i; have qcf : ∀ i, w2.frozen? ⟨w.heap.size + 1 + 1, i, none⟩ = false := fun i => (keepBlk B2 LC.out).frozen i; have HR2 := Lib.hid R2; have HB2 := Lib.hid B2; have HF2 := Lib.hid F2; clear R2 F2 B2 G2))
    have MA := Lib.hid (keepBlk HB2.out LA.out)
    have MC := Lib.hid (keepBlk HB2.out LC.out)
    have ML := Lib.hid (keepBelow BV1.out HB2.out)
    have MR := HR2
    obtain ⟨o1, o2, o3, o4⟩ := put8 (MC.out.far (p := ⟨w.heap.size, 2, none⟩) (show w.heap.size + 1 + 1 ≠ w.heap.size by omega) (.slice A2 (r.length + 1) C2)) (.int .i64 st.limit) (.slice a0 st.q0.length k0) (.slice A2 (r.length + 1) C2) (.bool st.c0) (.bool st.c1) (.int .i64 st.tks) (.slice aw st.ws.length kw) (.slice aa st.ans.length ka)
    have hb := o3 (ML.out.setCell (p := ⟨w.heap.size, 2, none⟩) (Nat.le_refl _) (.slice A2 (r.length + 1) C2)) (show w.heap.size ≤ w.heap.size + 1 + 1 by omega)
    have hrr := XW.out.below hb
    exact bodyPost_ret (res60_2 rfl _ _ (w.heap.size + 1 + 1) _ _ _ _ _ _ _ _ _ _ rfl rfl rfl o1) rfl ⟨⟨_, .slice A2 (r.length + 1) C2, _, _⟩, rfl, ⟨hrr.r0, (by exact o2 (MR.out.set_ (MR.out.ne MA.out (by decide)) _) (by decide)), hrr.rw_, hrr.ra, XW.out.o.new1 hb.size (fun j hj => Nat.le_trans BV1.out.size ((HF2.out) j hj))⟩, hb⟩
set_option maxRecDepth 100000 in
set_option maxHeartbeats 3200000 in
theorem rdo_reade0  (b : ByteArray)  (d : ByteArray) (r : List ByteArray) (he : emptyB ⟨0, 0, (b.size : Int), d⟩ = false) (S : Sl) (st : St) (hqr : st.q0 = b :: r) (hs : Sm st) (w : World) (hR : Ref F w S st) :
    Calls Try.prog 67 #[rpV S st, .agg #[.int .i64 0, .int .i64 0, .int .i64 (b.size : Int), .string d]] w (DoSays F w ⟨r, st.q1, st.c0, st.c1, st.limit, st.tks, st.ws, st.ans⟩ b 0) := by
  obtain ⟨i0, hi, hz0, hz1, hz2⟩ := info_parts Try.info9
  have C79 := Lib.hid (fun W => rnothing_any ⟨0, 0, (b.size : Int), d⟩ ⟨.inl rfl, .inl rfl⟩ W)
  rw [he] at C79
  have hql : r.length ≤ 100000 := by have := hs.q; rw [hqr] at this; simp only [List.length_cons] at this; omega
  have hbz : b.size ≤ 1000000000000 := by have := hs.z; rw [hqr] at this; simp only [sizes] at this; omega
  obtain ⟨a0, k0, a1, k1, aw, kw, aa, ka, rfl⟩ := hR.open
  have hrow := hR.r0
  rw [hqr] at hrow
  obtain ⟨gb, off, cap, hv, h1, h2, hgb, hcl, _⟩ := hrow.open (by simp)
  have hv' : Value.slice a0 (b :: r).length k0 = .slice (some ⟨gb, off, none⟩) (b :: r).length cap := hv
  injection hv' with hv1 _ hv3
  subst hv1 hv3
  simp only [List.length_cons] at h1
  unfold maxLen at h2
  have HX0 := Lib.hid (show w.cell? ⟨gb, off, none⟩ = some (.string b) from hcl 0 (by simp))
  have HRW := Lib.hid (show Row w 9 1 (.slice (some ⟨gb, off, none⟩) (r.length + 1) k0) (r.length + 1) (strC (b :: r)) from by simpa only [hqr, List.length_cons] using hrow)
  have XW := Lib.hid hR
  unfold rpV
  simp only
  rw [show st.q0.length = r.length + 1 by rw [hqr]; rfl]
  clear hcl hrow hR he hs
  have BW := Lib.hid (show Below w.heap.size w (((w.alloc (.cells #[.int .i64 st.limit, .slice (some ⟨gb, off, none⟩) (r.length + 1) k0, .slice a1 st.q1.length k1, .bool st.c0, .bool st.c1, .int .i64 st.tks, .slice aw st.ws.length kw, .slice aa st.ans.length ka] 60)).alloc (.cells #[.int .i64 0, .int .i64 0, .int .i64 (b.size : Int), .string d] 107)).alloc (.cells #[.int .i64 0, .slice none 0 0, .slice none 0 0, .bool false, .bool false, .int .i64 0, .slice none 0 0, .slice none 0 0] 60)) from (((Below.refl _ _).alloc (Nat.le_refl _) _).alloc (by simp) _).alloc (by simp; omega) _)
  have KA := Lib.hid (show Blk (((w.alloc (.cells #[.int .i64 st.limit, .slice (some ⟨gb, off, none⟩) (r.length + 1) k0, .slice a1 st.q1.length k1, .bool st.c0, .bool st.c1, .int .i64 st.tks, .slice aw st.ws.length kw, .slice aa st.ans.length ka] 60)).alloc (.cells #[.int .i64 0, .int .i64 0, .int .i64 (b.size : Int), .string d] 107)).alloc (.cells #[.int .i64 0, .slice none 0 0, .slice none 0 0, .bool false, .bool false, .int .i64 0, .slice none 0 0, .slice none 0 0] 60)) (w.heap.size) 60 [.int .i64 st.limit, .slice (some ⟨gb, off, none⟩) (r.length + 1) k0, .slice a1 st.q1.length k1, .bool st.c0, .bool st.c1, .int .i64 st.tks, .slice aw st.ws.length kw, .slice aa st.ans.length ka] from ((Blk.new w 60 _).alloc _).alloc _)
  have KB := Lib.hid (show Blk (((w.alloc (.cells #[.int .i64 st.limit, .slice (some ⟨gb, off, none⟩) (r.length + 1) k0, .slice a1 st.q1.length k1, .bool st.c0, .bool st.c1, .int .i64 st.tks, .slice aw st.ws.length kw, .slice aa st.ans.length ka] 60)).alloc (.cells #[.int .i64 0, .int .i64 0, .int .i64 (b.size : Int), .string d] 107)).alloc (.cells #[.int .i64 0, .slice none 0 0, .slice none 0 0, .bool false, .bool false, .int .i64 0, .slice none 0 0, .slice none 0 0] 60)) (w.heap.size + 1) 107 [.int .i64 0, .int .i64 0, .int .i64 (b.size : Int), .string d] from (blk_at (by simp) 107 [_, _, _, _]).alloc _)
  have KC := Lib.hid (show Blk (((w.alloc (.cells #[.int .i64 st.limit, .slice (some ⟨gb, off, none⟩) (r.length + 1) k0, .slice a1 st.q1.length k1, .bool st.c0, .bool st.c1, .int .i64 st.tks, .slice aw st.ws.length kw, .slice aa st.ans.length ka] 60)).alloc (.cells #[.int .i64 0, .int .i64 0, .int .i64 (b.size : Int), .string d] 107)).alloc (.cells #[.int .i64 0, .slice none 0 0, .slice none 0 0, .bool false, .bool false, .int .i64 0, .slice none 0 0, .slice none 0 0] 60)) (w.heap.size + 1 + 1) 60 [.int .i64 0, .slice none 0 0, .slice none 0 0, .bool false, .bool false, .int .i64 0, .slice none 0 0, .slice none 0 0] from blk_at (by simp) 60 [_, _, _, _, _, _, _, _])
  go_enter Try.func67, Try.ntmps67
  go_upto_region 8 with (go_at_call 79; refine (C79.out _).mono ?_; rintro e V0 ⟨rfl, hb⟩; have JA := Lib.hid (keepBlk hb KA.out); have ja0 : V0.cell? ⟨w.heap.size, 0, none⟩ = some (.int .i64 st.limit) := JA.out.cell 0; have ja1 : V0.cell? ⟨w.heap.size, 1, none⟩ = some (.slice (some ⟨gb, off, none⟩) (r.length + 1) k0) := JA.out.cell 1; have ja2 : V0.cell? ⟨w.heap.size, 2, none⟩ = some (.slice a1 st.q1.length k1) := JA.out.cell 2; have ja3 : V0.cell? ⟨w.heap.size, 3, none⟩ = some (.bool st.c0) := JA.out.cell 3; have ja4 : V0.cell? ⟨w.heap.size, 4, none⟩ = some (.bool st.c1) := JA.out.cell 4; have ja5 : V0.cell? ⟨w.heap.size, 5, none⟩ = some (.int .i64 st.tks) := JA.out.cell 5; have ja6 : V0.cell? ⟨w.heap.size, 6, none⟩ = some (.slice aw st.ws.length kw) := JA.out.cell 6; have ja7 : V0.cell? ⟨w.heap.size, 7, none⟩ = some (.slice aa st.ans.length ka) := JA.out.cell 7; have JB := Lib.hid (keepBlk hb KB.out); have jb0 : V0.cell? ⟨w.heap.size + 1, 0, none⟩ = some (.int .i64 0) := JB.out.cell 0; have jb1 : V0.cell? ⟨w.heap.size + 1, 1, none⟩ = some (.int .i64 0) := JB.out.cell 1; have jb2 : V0.cell? ⟨w.heap.size + 1, 2, none⟩ = some (.int .i64 (b.size : Int)) := JB.out.cell 2; have jb3 : V0.cell? ⟨w.heap.size + 1, 3, none⟩ = some (.string d) := JB.out.cell 3; have JC := Lib.hid (keepBlk hb KC.out); have jc0 : V0.cell? ⟨w.heap.size + 1 + 1, 0, none⟩ = some (.int .i64 0) := JC.out.cell 0; have jc1 : V0.cell? ⟨w.heap.size + 1 + 1, 1, none⟩ = some (.slice none 0 0) := JC.out.cell 1; have jc2 : V0.cell? ⟨w.heap.size + 1 + 1, 2, none⟩ = some (.slice none 0 0) := JC.out.cell 2; have jc3 : V0.cell? ⟨w.heap.size + 1 + 1, 3, none⟩ = some (.bool false) := JC.out.cell 3; have jc4 : V0.cell? ⟨w.heap.size + 1 + 1, 4, none⟩ = some (.bool false) := JC.out.cell 4; have jc5 : V0.cell? ⟨w.heap.size + 1 + 1, 5, none⟩ = some (.int .i64 0) := JC.out.cell 5; have jc6 : V0.cell? ⟨w.heap.size + 1 + 1, 6, none⟩ = some (.slice none 0 0) := JC.out.cell 6; have jc7 : V0.cell? ⟨w.heap.size + 1 + 1, 7, none⟩ = some (.slice none 0 0) := JC.out.cell 7; have BV := Lib.hid (keepBelow BW.out hb); have jaf := fun i => JA.out.frozen i; have jcf := fun i => JC.out.frozen i; clear hb)

  have hext : b.extract 0 b.size = b := ByteArray.extract_zero_size
  have z0 : V0.cell? ⟨gb, off, none⟩ = some (.string b) := (BV.out.cell (p := ⟨gb, off, none⟩) hgb).trans HX0.out
  go_quiet (fail)
  obtain ⟨V1, hV1⟩ : ∃ V1, V1 = V0.drewN nq := ⟨_, rfl⟩
  rw [← hV1]
  have LA := Lib.hid (show Blk V1 (w.heap.size) 60 [.int .i64 st.limit, .slice (some ⟨gb, off, none⟩) (r.length + 1) k0, .slice a1 st.q1.length k1, .bool st.c0, .bool st.c1, .int .i64 st.tks, .slice aw st.ws.length kw, .slice aa st.ans.length ka] by rw [hV1]; exact JA.out)
  have LB := Lib.hid (show Blk V1 (w.heap.size + 1) 107 [.int .i64 0, .int .i64 0, .int .i64 (b.size : Int), .string d] by rw [hV1]; exact JB.out)
  have LC := Lib.hid (show Blk V1 (w.heap.size + 1 + 1) 60 [.int .i64 0, .slice none 0 0, .slice none 0 0, .bool false, .bool false, .int .i64 0, .slice none 0 0, .slice none 0 0] by rw [hV1]; exact JC.out)
  have BV1 := Lib.hid (show Below w.heap.size w V1 by rw [hV1]; exact belowN BV.out _)
  have x0 : V1.cell? ⟨gb, off, none⟩ = some (.string b) := (BV1.out.cell (p := ⟨gb, off, none⟩) hgb).trans HX0.out
  have HGB := Lib.hid (fun w1 (hb : Below V1.heap.size V1 w1) => hb.cell (p := ⟨gb, off, none⟩) (Nat.lt_of_lt_of_le hgb BV1.out.size))
  have EB := Lib.hid (show Below V1.heap.size V1 (V1.alloc (Obj.cells #[] 9)) from (Below.refl _ _).alloc (Nat.le_refl _) _)
  have ER := Lib.hid (show Row (V1.alloc (Obj.cells #[] 9)) 9 1 (.slice (some ⟨V1.heap.size, 0, none⟩) 0 0) 0 [] from Row.empty (Blk.new V1 _ []))
  have x0' : (V1.alloc (Obj.cells #[] 9)).cell? ⟨gb, off, none⟩ = some (.string b) := (HGB.out _ EB.out).trans x0
  clear hV1 z0 ja0 ja1 ja2 ja3 ja4 ja5 ja6 ja7 jb0 jb1 jb2 jb3 jc0 jc1 jc2 jc3 jc4 jc5 jc6 jc7 jaf jcf hgb hqr
  by_cases hcap : k0 = 1
  · obtain rfl : r = [] := List.eq_nil_of_length_eq_zero (by omega)
    subst hcap
    have ES := Lib.hid (Row.below (show Row V1 9 1 (.slice (some ⟨gb, off, none⟩) 0 0) 0 (strC []) from (HRW.out.below BV1.out).cap0) EB.out)
    have MA := Lib.hid (show Blk (V1.alloc (Obj.cells #[] 9)) (w.heap.size) 60 [.int .i64 st.limit, .slice (some ⟨gb, off, none⟩) (0 + 1) 1, .slice a1 st.q1.length k1, .bool st.c0, .bool st.c1, .int .i64 st.tks, .slice aw st.ws.length kw, .slice aa st.ans.length ka] from LA.out.alloc _)
    have MB := Lib.hid (show Blk (V1.alloc (Obj.cells #[] 9)) (w.heap.size + 1) 107 [.int .i64 0, .int .i64 0, .int .i64 (b.size : Int), .string d] from LB.out.alloc _)
    have MC := Lib.hid (show Blk (V1.alloc (Obj.cells #[] 9)) (w.heap.size + 1 + 1) 60 [.int .i64 0, .slice none 0 0, .slice none 0 0, .bool false, .bool false, .int .i64 0, .slice none 0 0, .slice none 0 0] from LC.out.alloc _)
    have ML := Lib.hid (show Below w.heap.size w (V1.alloc (Obj.cells #[] 9)) from keepBelow BV1.out ((Below.refl _ _).alloc (Nat.le_refl _) _))
    have MR := Lib.hid (show Row (V1.alloc (Obj.cells #[] 9)) 9 1 (.slice (some ⟨V1.heap.size, 0, none⟩) 0 0) 0 [] from Row.empty (Blk.new V1 _ []))
    have ma0 : (V1.alloc (Obj.cells #[] 9)).cell? ⟨w.heap.size, 0, none⟩ = some (.int .i64 st.limit) := MA.out.cell 0
    have ma1 : (V1.alloc (Obj.cells #[] 9)).cell? ⟨w.heap.size, 1, none⟩ = some (.slice (some ⟨gb, off, none⟩) (0 + 1) 1) := MA.out.cell 1
    have ma2 : (V1.alloc (Obj.cells #[] 9)).cell? ⟨w.heap.size, 2, none⟩ = some (.slice a1 st.q1.length k1) := MA.out.cell 2
    have ma3 : (V1.alloc (Obj.cells #[] 9)).cell? ⟨w.heap.size, 3, none⟩ = some (.bool st.c0) := MA.out.cell 3
    have ma4 : (V1.alloc (Obj.cells #[] 9)).cell? ⟨w.heap.size, 4, none⟩ = some (.bool st.c1) := MA.out.cell 4
    have ma5 : (V1.alloc (Obj.cells #[] 9)).cell? ⟨w.heap.size, 5, none⟩ = some (.int .i64 st.tks) := MA.out.cell 5
    have ma6 : (V1.alloc (Obj.cells #[] 9)).cell? ⟨w.heap.size, 6, none⟩ = some (.slice aw st.ws.length kw) := MA.out.cell 6
    have ma7 : (V1.alloc (Obj.cells #[] 9)).cell? ⟨w.heap.size, 7, none⟩ = some (.slice aa st.ans.length ka) := MA.out.cell 7
    have mb0 : (V1.alloc (Obj.cells #[] 9)).cell? ⟨w.heap.size + 1, 0, none⟩ = some (.int .i64 0) := MB.out.cell 0
    have mb1 : (V1.alloc (Obj.cells #[] 9)).cell? ⟨w.heap.size + 1, 1, none⟩ = some (.int .i64 0) := MB.out.cell 1
    have mb2 : (V1.alloc (Obj.cells #[] 9)).cell? ⟨w.heap.size + 1, 2, none⟩ = some (.int .i64 (b.size : Int)) := MB.out.cell 2
    have mb3 : (V1.alloc (Obj.cells #[] 9)).cell? ⟨w.heap.size + 1, 3, none⟩ = some (.string d) := MB.out.cell 3
    have mc0 : (V1.alloc (Obj.cells #[] 9)).cell? ⟨w.heap.size + 1 + 1, 0, none⟩ = some (.int .i64 0) := MC.out.cell 0
    have mc1 : (V1.alloc (Obj.cells #[] 9)).cell? ⟨w.heap.size + 1 + 1, 1, none⟩ = some (.slice none 0 0) := MC.out.cell 1
    have mc2 : (V1.alloc (Obj.cells #[] 9)).cell? ⟨w.heap.size + 1 + 1, 2, none⟩ = some (.slice none 0 0) := MC.out.cell 2
    have mc3 : (V1.alloc (Obj.cells #[] 9)).cell? ⟨w.heap.size + 1 + 1, 3, none⟩ = some (.bool false) := MC.out.cell 3
    have mc4 : (V1.alloc (Obj.cells #[] 9)).cell? ⟨w.heap.size + 1 + 1, 4, none⟩ = some (.bool false) := MC.out.cell 4
    have mc5 : (V1.alloc (Obj.cells #[] 9)).cell? ⟨w.heap.size + 1 + 1, 5, none⟩ = some (.int .i64 0) := MC.out.cell 5
    have mc6 : (V1.alloc (Obj.cells #[] 9)).cell? ⟨w.heap.size + 1 + 1, 6, none⟩ = some (.slice none 0 0) := MC.out.cell 6
    have mc7 : (V1.alloc (Obj.cells #[] 9)).cell? ⟨w.heap.size + 1 + 1, 7, none⟩ = some (.slice none 0 0) := MC.out.cell 7
    have maf : ∀ i, (V1.alloc (Obj.cells #[] 9)).frozen? ⟨w.heap.size, i, none⟩ = false := fun i => MA.out.frozen i
    have mcf : ∀ i, (V1.alloc (Obj.cells #[] 9)).frozen? ⟨w.heap.size + 1 + 1, i, none⟩ = false := fun i => MC.out.frozen i
    simp only [List.length_nil]
    go_wp2_with fail
    obtain ⟨o1, o2, o3, o4⟩ := put8 (MC.out.far (p := ⟨w.heap.size, 1, none⟩) (show w.heap.size + 1 + 1 ≠ w.heap.size by omega) (.slice (some ⟨V1.heap.size, 0, none⟩) 0 0)) (.int .i64 st.limit) (.slice (some ⟨V1.heap.size, 0, none⟩) 0 0) (.slice a1 st.q1.length k1) (.bool st.c0) (.bool st.c1) (.int .i64 st.tks) (.slice aw st.ws.length kw) (.slice aa st.ans.length ka)
    have hb := o3 (ML.out.setCell (p := ⟨w.heap.size, 1, none⟩) (Nat.le_refl _) (.slice (some ⟨V1.heap.size, 0, none⟩) 0 0)) (show w.heap.size ≤ w.heap.size + 1 + 1 by omega)
    have hrr := XW.out.below hb
    exact bodyPost_ret (res60_2 rfl _ _ (w.heap.size + 1 + 1) _ _ _ _ _ _ _ _ _ _ rfl rfl rfl o1) rfl ⟨⟨.slice (some ⟨V1.heap.size, 0, none⟩) 0 0, _, _, _⟩, rfl, ⟨(by exact o2 (MR.out.set_ (MR.out.ne MA.out (by decide)) _) (by decide)), hrr.r1, hrr.rw_, hrr.ra, XW.out.o.new0 hb.size (fun j hj => Nat.le_trans BV1.out.size ((Frsh.at_ (Nat.le_refl _)) j hj))⟩, hb⟩
  · have h1' : 1 ≤ k0 := by omega
    have h1i : (1 : Int) ≤ (k0 : Int) := by omega
    have ES := Lib.hid (Row.below (show Row V1 9 1 (.slice (some ⟨gb, off + 1, none⟩) r.length (k0 - 1)) r.length (strC r) from by have h := (HRW.out.below BV1.out).dropR (k := 1) (by omega); simpa [strC] using h) EB.out)
    go_wp2_with (first
      | (at_builtin; refine list_append_n rfl (.tmp 57) (.tmp 59) 22 rfl 9 i0 _ 1 16 Try.underlying22 hi hz0 hz1 hz2 rfl (by omega) (v := .slice (some ⟨V1.heap.size, 0, none⟩) 0 0) rfl (u := .slice (some ⟨gb, off + 1, none⟩) r.length (k0 - 1)) rfl 0 [] ER.out r.length (strC r) ES.out (strC_one _) (by unfold maxLen; omega) (by omega) r.length (Nat.zero_add _) EB.out (Frsh.at_ (Nat.le_refl _)) ?_; intro A1 C1 w1 R1 F1 B1 G1; rw [List.nil_append] at R1; have HB1 := Lib.hid B1; have y0 : w1.cell? ⟨gb, off, none⟩ = some (.string b) := (HGB.out w1 B1).trans x0; have pa0 : w1.cell? ⟨w.heap.size, 0, none⟩ = some (.int .i64 st.limit) := (Lib.hid (keepBlk B1 LA.out)).out.cell 0; have pa1 : w1.cell? ⟨w.heap.size, 1, none⟩ = some (.slice (some ⟨gb, off, none⟩) (r.length + 1) k0) := (Lib.hid (keepBlk B1 LA.out)).out.cell 1; have pa2 : w1.cell? ⟨w.heap.size, 2, none⟩ = some (.slice a1 st.q1.length k1) := (Lib.hid (keepBlk B1 LA.out)).out.cell 2; have pa3 : w1.cell? ⟨w.heap.size, 3, none⟩ = some (.bool st.c0) := (Lib.hid (keepBlk B1 LA.out)).out.cell 3; have pa4 : w1.cell? ⟨w.heap.size, 4, none⟩ = some (.bool st.c1) := (Lib.hid (keepBlk B1 LA.out)).out.cell 4; have pa5 : w1.cell? ⟨w.heap.size, 5, none⟩ = some (.int .i64 st.tks) := (Lib.hid (keepBlk B1 LA.out)).out.cell 5; have pa6 : w1.cell? ⟨w.heap.size, 6, none⟩ = some (.slice aw st.ws.length kw) := (Lib.hid (keepBlk B1 LA.out)).out.cell 6; have pa7 : w1.cell? ⟨w.heap.size, 7, none⟩ = some (.slice aa st.ans.length ka) := (Lib.hid (keepBlk B1 LA.out)).out.cell 7; have pb0 : w1.cell? ⟨w.heap.size + 1, 0, none⟩ = some (.int .i64 0) := (Lib.hid (keepBlk B1 LB.out)).out.cell 0; have pb1 : w1.cell? ⟨w.heap.size + 1, 1, none⟩ = some (.int .i64 0) := (Lib.hid (keepBlk B1 LB.out)).out.cell 1; have pb2 : w1.cell? ⟨w.heap.size + 1, 2, none⟩ = some (.int .i64 (b.size : Int)) := (Lib.hid (keepBlk B1 LB.out)).out.cell 2; have pb3 : w1.cell? ⟨w.heap.size + 1, 3, none⟩ = some (.string d) := (Lib.hid (keepBlk B1 LB.out)).out.cell 3; have pc0 : w1.cell? ⟨w.heap.size + 1 + 1, 0, none⟩ = some (.int .i64 0) := (Lib.hid (keepBlk B1 LC.out)).out.cell 0; have pc1 : w1.cell? ⟨w.heap.size + 1 + 1, 1, none⟩ = some (.slice none 0 0) := (Lib.hid (keepBlk B1 LC.out)).out.cell 1; have pc2 : w1.cell? ⟨w.heap.size + 1 + 1, 2, none⟩ = some (.slice none 0 0) := (Lib.hid (keepBlk B1 LC.out)).out.cell 2; have pc3 : w1.cell? ⟨w.heap.size + 1 + 1, 3, none⟩ = some (.bool false) := (Lib.hid (keepBlk B1 LC.out)).out.cell 3; have pc4 : w1.cell? ⟨w.heap.size + 1 + 1, 4, none⟩ = some (.bool false) := (Lib.hid (keepBlk B1 LC.out)).out.cell 4; have pc5 : w1.cell? ⟨w.heap.size + 1 + 1, 5, none⟩ = some (.int .i64 0) := (Lib.hid (keepBlk B1 LC.out)).out.cell 5; have pc6 : w1.cell? ⟨w.heap.size + 1 + 1, 6, none⟩ = some (.slice none 0 0) := (Lib.hid (keepBlk B1 LC.out)).out.cell 6; have pc7 : w1.cell? ⟨w.heap.size + 1 + 1, 7, none⟩ = some (.slice none 0 0) := (Lib.hid (keepBlk B1 LC.out)).out.cell 7; have paf : ∀ i, w1.frozen? ⟨w.heap.size, i, none⟩ = false := fun i => (keepBlk B1 LA.out).frozen i; have pcf : ∀ i, w1.frozen? ⟨w.heap.size + 1 + 1, i, none⟩ = false := fun i => (keepBlk B1 LC.out).frozen i; have HR1 := Lib.hid R1; have HF1 := Lib.hid F1; clear R1 F1 B1 G1)
      | fail)
    have MA := Lib.hid (keepBlk HB1.out LA.out)
    have MC := Lib.hid (keepBlk HB1.out LC.out)
    have ML := Lib.hid (keepBelow BV1.out HB1.out)
    have MR := HR1
    obtain ⟨o1, o2, o3, o4⟩ := put8 (MC.out.far (p := ⟨w.heap.size, 1, none⟩) (show w.heap.size + 1 + 1 ≠ w.heap.size by omega) (.slice A1 r.length C1)) (.int .i64 st.limit) (.slice A1 r.length C1) (.slice a1 st.q1.length k1) (.bool st.c0) (.bool st.c1) (.int .i64 st.tks) (.slice aw st.ws.length kw) (.slice aa st.ans.length ka)
    have hb := o3 (ML.out.setCell (p := ⟨w.heap.size, 1, none⟩) (Nat.le_refl _) (.slice A1 r.length C1)) (show w.heap.size ≤ w.heap.size + 1 + 1 by omega)
    have hrr := XW.out.below hb
    exact bodyPost_ret (res60_2 rfl _ _ (w.heap.size + 1 + 1) _ _ _ _ _ _ _ _ _ _ rfl rfl rfl o1) rfl ⟨⟨.slice A1 r.length C1, _, _, _⟩, rfl, ⟨(by exact o2 (MR.out.set_ (MR.out.ne MA.out (by decide)) _) (by decide)), hrr.r1, hrr.rw_, hrr.ra, XW.out.o.new0 hb.size (fun j hj => Nat.le_trans BV1.out.size ((HF1.out) j hj))⟩, hb⟩
set_option maxRecDepth 100000 in
set_option maxHeartbeats 3200000 in
theorem rdo_reade1  (b : ByteArray)  (d : ByteArray) (r : List ByteArray) (he : emptyB ⟨0, 1, (b.size : Int), d⟩ = false) (S : Sl) (st : St) (hqr : st.q1 = b :: r) (hs : Sm st) (w : World) (hR : Ref F w S st) :
    Calls Try.prog 67 #[rpV S st, .agg #[.int .i64 0, .int .i64 1, .int .i64 (b.size : Int), .string d]] w (DoSays F w ⟨st.q0, r, st.c0, st.c1, st.limit, st.tks, st.ws, st.ans⟩ b 0) := by
  obtain ⟨i0, hi, hz0, hz1, hz2⟩ := info_parts Try.info9
  have C79 := Lib.hid (fun W => rnothing_any ⟨0, 1, (b.size : Int), d⟩ ⟨.inl rfl, .inr rfl⟩ W)
  rw [he] at C79
  have hql : r.length ≤ 100000 := by have := hs.q; rw [hqr] at this; simp only [List.length_cons] at this; omega
  have hbz : b.size ≤ 1000000000000 := by have := hs.z; rw [hqr] at this; simp only [sizes] at this; omega
  obtain ⟨a0, k0, a1, k1, aw, kw, aa, ka, rfl⟩ := hR.open
  have hrow := hR.r1
  rw [hqr] at hrow
  obtain ⟨gb, off, cap, hv, h1, h2, hgb, hcl, _⟩ := hrow.open (by simp)
  have hv' : Value.slice a1 (b :: r).length k1 = .slice (some ⟨gb, off, none⟩) (b :: r).length cap := hv
  injection hv' with hv1 _ hv3
  subst hv1 hv3
  simp only [List.length_cons] at h1
  unfold maxLen at h2
  have HX0 := Lib.hid (show w.cell? ⟨gb, off, none⟩ = some (.string b) from hcl 0 (by simp))
  have HRW := Lib.hid (show Row w 9 1 (.slice (some ⟨gb, off, none⟩) (r.length + 1) k1) (r.length + 1) (strC (b :: r)) from by simpa only [hqr, List.length_cons] using hrow)
  have XW := Lib.hid hR
  unfold rpV
  simp only
  rw [show st.q1.length = r.length + 1 by rw [hqr]; rfl]
  clear hcl hrow hR he hs
  have BW := Lib.hid (show Below w.heap.size w (((w.alloc (.cells #[.int .i64 st.limit, .slice a0 st.q0.length k0, .slice (some ⟨gb, off, none⟩) (r.length + 1) k1, .bool st.c0, .bool st.c1, .int .i64 st.tks, .slice aw st.ws.length kw, .slice aa st.ans.length ka] 60)).alloc (.cells #[.int .i64 0, .int .i64 1, .int .i64 (b.size : Int), .string d] 107)).alloc (.cells #[.int .i64 0, .slice none 0 0, .slice none 0 0, .bool false, .bool false, .int .i64 0, .slice none 0 0, .slice none 0 0] 60)) from (((Below.refl _ _).alloc (Nat.le_refl _) _).alloc (by simp) _).alloc (by simp; omega) _)
  have KA := Lib.hid (show Blk (((w.alloc (.cells #[.int .i64 st.limit, .slice a0 st.q0.length k0, .slice (some ⟨gb, off, none⟩) (r.length + 1) k1, .bool st.c0, .bool st.c1, .int .i64 st.tks, .slice aw st.ws.length kw, .slice aa st.ans.length ka] 60)).alloc (.cells #[.int .i64 0, .int .i64 1, .int .i64 (b.size : Int), .string d] 107)).alloc (.cells #[.int .i64 0, .slice none 0 0, .slice none 0 0, .bool false, .bool false, .int .i64 0, .slice none 0 0, .slice none 0 0] 60)) (w.heap.size) 60 [.int .i64 st.limit, .slice a0 st.q0.length k0, .slice (some ⟨gb, off, none⟩) (r.length + 1) k1, .bool st.c0, .bool st.c1, .int .i64 st.tks, .slice aw st.ws.length kw, .slice aa st.ans.length ka] from ((Blk.new w 60 _).alloc _).alloc _)
  have KB := Lib.hid (show Blk (((w.alloc (.cells #[.int .i64 st.limit, .slice a0 st.q0.length k0, .slice (some ⟨gb, off, none⟩) (r.length + 1) k1, .bool st.c0, .bool st.c1, .int .i64 st.tks, .slice aw st.ws.length kw, .slice aa st.ans.length ka] 60)).alloc (.cells #[.int .i64 0, .int .i64 1, .int .i64 (b.size : Int), .string d] 107)).alloc (.cells #[.int .i64 0, .slice none 0 0, .slice none 0 0, .bool false, .bool false, .int .i64 0, .slice none 0 0, .slice none 0 0] 60)) (w.heap.size + 1) 107 [.int .i64 0, .int .i64 1, .int .i64 (b.size : Int), .string d] from (blk_at (by simp) 107 [_, _, _, _]).alloc _)
  have KC := Lib.hid (show Blk (((w.alloc (.cells #[.int .i64 st.limit, .slice a0 st.q0.length k0, .slice (some ⟨gb, off, none⟩) (r.length + 1) k1, .bool st.c0, .bool st.c1, .int .i64 st.tks, .slice aw st.ws.length kw, .slice aa st.ans.length ka] 60)).alloc (.cells #[.int .i64 0, .int .i64 1, .int .i64 (b.size : Int), .string d] 107)).alloc (.cells #[.int .i64 0, .slice none 0 0, .slice none 0 0, .bool false, .bool false, .int .i64 0, .slice none 0 0, .slice none 0 0] 60)) (w.heap.size + 1 + 1) 60 [.int .i64 0, .slice none 0 0, .slice none 0 0, .bool false, .bool false, .int .i64 0, .slice none 0 0, .slice none 0 0] from blk_at (by simp) 60 [_, _, _, _, _, _, _, _])
  go_enter Try.func67, Try.ntmps67
  go_upto_region 8 with (go_at_call 79; refine (C79.out _).mono ?_; rintro e V0 ⟨rfl, hb⟩; have JA := Lib.hid (keepBlk hb KA.out); have ja0 : V0.cell? ⟨w.heap.size, 0, none⟩ = some (.int .i64 st.limit) := JA.out.cell 0; have ja1 : V0.cell? ⟨w.heap.size, 1, none⟩ = some (.slice a0 st.q0.length k0) := JA.out.cell 1; have ja2 : V0.cell? ⟨w.heap.size, 2, none⟩ = some (.slice (some ⟨gb, off, none⟩) (r.length + 1) k1) := JA.out.cell 2; have ja3 : V0.cell? ⟨w.heap.size, 3, none⟩ = some (.bool st.c0) := JA.out.cell 3; have ja4 : V0.cell? ⟨w.heap.size, 4, none⟩ = some (.bool st.c1) := JA.out.cell 4; have ja5 : V0.cell? ⟨w.heap.size, 5, none⟩ = some (.int .i64 st.tks) := JA.out.cell 5; have ja6 : V0.cell? ⟨w.heap.size, 6, none⟩ = some (.slice aw st.ws.length kw) := JA.out.cell 6; have ja7 : V0.cell? ⟨w.heap.size, 7, none⟩ = some (.slice aa st.ans.length ka) := JA.out.cell 7; have JB := Lib.hid (keepBlk hb KB.out); have jb0 : V0.cell? ⟨w.heap.size + 1, 0, none⟩ = some (.int .i64 0) := JB.out.cell 0; have jb1 : V0.cell? ⟨w.heap.size + 1, 1, none⟩ = some (.int .i64 1) := JB.out.cell 1; have jb2 : V0.cell? ⟨w.heap.size + 1, 2, none⟩ = some (.int .i64 (b.size : Int)) := JB.out.cell 2; have jb3 : V0.cell? ⟨w.heap.size + 1, 3, none⟩ = some (.string d) := JB.out.cell 3; have JC := Lib.hid (keepBlk hb KC.out); have jc0 : V0.cell? ⟨w.heap.size + 1 + 1, 0, none⟩ = some (.int .i64 0) := JC.out.cell 0; have jc1 : V0.cell? ⟨w.heap.size + 1 + 1, 1, none⟩ = some (.slice none 0 0) := JC.out.cell 1; have jc2 : V0.cell? ⟨w.heap.size + 1 + 1, 2, none⟩ = some (.slice none 0 0) := JC.out.cell 2; have jc3 : V0.cell? ⟨w.heap.size + 1 + 1, 3, none⟩ = some (.bool false) := JC.out.cell 3; have jc4 : V0.cell? ⟨w.heap.size + 1 + 1, 4, none⟩ = some (.bool false) := JC.out.cell 4; have jc5 : V0.cell? ⟨w.heap.size + 1 + 1, 5, none⟩ = some (.int .i64 0) := JC.out.cell 5; have jc6 : V0.cell? ⟨w.heap.size + 1 + 1, 6, none⟩ = some (.slice none 0 0) := JC.out.cell 6; have jc7 : V0.cell? ⟨w.heap.size + 1 + 1, 7, none⟩ = some (.slice none 0 0) := JC.out.cell 7; have BV := Lib.hid (keepBelow BW.out hb); have jaf := fun i => JA.out.frozen i; have jcf := fun i => JC.out.frozen i; clear hb)

  have hext : b.extract 0 b.size = b := ByteArray.extract_zero_size
  have z0 : V0.cell? ⟨gb, off, none⟩ = some (.string b) := (BV.out.cell (p := ⟨gb, off, none⟩) hgb).trans HX0.out
  go_quiet (fail)
  obtain ⟨V1, hV1⟩ : ∃ V1, V1 = V0.drewN nq := ⟨_, rfl⟩
  rw [← hV1]
  have LA := Lib.hid (show Blk V1 (w.heap.size) 60 [.int .i64 st.limit, .slice a0 st.q0.length k0, .slice (some ⟨gb, off, none⟩) (r.length + 1) k1, .bool st.c0, .bool st.c1, .int .i64 st.tks, .slice aw st.ws.length kw, .slice aa st.ans.length ka] by rw [hV1]; exact JA.out)
  have LB := Lib.hid (show Blk V1 (w.heap.size + 1) 107 [.int .i64 0, .int .i64 1, .int .i64 (b.size : Int), .string d] by rw [hV1]; exact JB.out)
  have LC := Lib.hid (show Blk V1 (w.heap.size + 1 + 1) 60 [.int .i64 0, .slice none 0 0, .slice none 0 0, .bool false, .bool false, .int .i64 0, .slice none 0 0, .slice none 0 0] by rw [hV1]; exact JC.out)
  have BV1 := Lib.hid (show Below w.heap.size w V1 by rw [hV1]; exact belowN BV.out _)
  have x0 : V1.cell? ⟨gb, off, none⟩ = some (.string b) := (BV1.out.cell (p := ⟨gb, off, none⟩) hgb).trans HX0.out
  have HGB := Lib.hid (fun w1 (hb : Below V1.heap.size V1 w1) => hb.cell (p := ⟨gb, off, none⟩) (Nat.lt_of_lt_of_le hgb BV1.out.size))
  have EB := Lib.hid (show Below V1.heap.size V1 (V1.alloc (Obj.cells #[] 9)) from (Below.refl _ _).alloc (Nat.le_refl _) _)
  have ER := Lib.hid (show Row (V1.alloc (Obj.cells #[] 9)) 9 1 (.slice (some ⟨V1.heap.size, 0, none⟩) 0 0) 0 [] from Row.empty (Blk.new V1 _ []))
  have x0' : (V1.alloc (Obj.cells #[] 9)).cell? ⟨gb, off, none⟩ = some (.string b) := (HGB.out _ EB.out).trans x0
  clear hV1 z0 ja0 ja1 ja2 ja3 ja4 ja5 ja6 ja7 jb0 jb1 jb2 jb3 jc0 jc1 jc2 jc3 jc4 jc5 jc6 jc7 jaf jcf hgb hqr
  by_cases hcap : k1 = 1
  · obtain rfl : r = [] := List.eq_nil_of_length_eq_zero (by omega)
    subst hcap
    have ES := Lib.hid (Row.below (show Row V1 9 1 (.slice (some ⟨gb, off, none⟩) 0 0) 0 (strC []) from (HRW.out.below BV1.out).cap0) EB.out)
    have MA := Lib.hid (show Blk (V1.alloc (Obj.cells #[] 9)) (w.heap.size) 60 [.int .i64 st.limit, .slice a0 st.q0.length k0, .slice (some ⟨gb, off, none⟩) (0 + 1) 1, .bool st.c0, .bool st.c1, .int .i64 st.tks, .slice aw st.ws.length kw, .slice aa st.ans.length ka] from LA.out.alloc _)
    have MB := Lib.hid (show Blk (V1.alloc (Obj.cells #[] 9)) (w.heap.size + 1) 107 [.int .i64 0, .int .i64 1, .int .i64 (b.size : Int), .string d] from LB.out.alloc _)
    have MC := Lib.hid (show Blk (V1.alloc (Obj.cells #[] 9)) (w.heap.size + 1 + 1) 60 [.int .i64 0, .slice none 0 0, .slice none 0 0, .bool false, .bool false, .int .i64 0, .slice none 0 0, .slice none 0 0] from LC.out.alloc _)
    have ML := Lib.hid (show Below w.heap.size w (V1.alloc (Obj.cells #[] 9)) from keepBelow BV1.out ((Below.refl _ _).alloc (Nat.le_refl _) _))
    have MR := Lib.hid (show Row (V1.alloc (Obj.cells #[] 9)) 9 1 (.slice (some ⟨V1.heap.size, 0, none⟩) 0 0) 0 [] from Row.empty (Blk.new V1 _ []))
    have ma0 : (V1.alloc (Obj.cells #[] 9)).cell? ⟨w.heap.size, 0, none⟩ = some (.int .i64 st.limit) := MA.out.cell 0
    have ma1 : (V1.alloc (Obj.cells #[] 9)).cell? ⟨w.heap.size, 1, none⟩ = some (.slice a0 st.q0.length k0) := MA.out.cell 1
    have ma2 : (V1.alloc (Obj.cells #[] 9)).cell? ⟨w.heap.size, 2, none⟩ = some (.slice (some ⟨gb, off, none⟩) (0 + 1) 1) := MA.out.cell 2
    have ma3 : (V1.alloc (Obj.cells #[] 9)).cell? ⟨w.heap.size, 3, none⟩ = some (.bool st.c0) := MA.out.cell 3
    have ma4 : (V1.alloc (Obj.cells #[] 9)).cell? ⟨w.heap.size, 4, none⟩ = some (.bool st.c1) := MA.out.cell 4
    have ma5 : (V1.alloc (Obj.cells #[] 9)).cell? ⟨w.heap.size, 5, none⟩ = some (.int .i64 st.tks) := MA.out.cell 5
    have ma6 : (V1.alloc (Obj.cells #[] 9)).cell? ⟨w.heap.size, 6, none⟩ = some (.slice aw st.ws.length kw) := MA.out.cell 6
    have ma7 : (V1.alloc (Obj.cells #[] 9)).cell? ⟨w.heap.size, 7, none⟩ = some (.slice aa st.ans.length ka) := MA.out.cell 7
    have mb0 : (V1.alloc (Obj.cells #[] 9)).cell? ⟨w.heap.size + 1, 0, none⟩ = some (.int .i64 0) := MB.out.cell 0
    have mb1 : (V1.alloc (Obj.cells #[] 9)).cell? ⟨w.heap.size + 1, 1, none⟩ = some (.int .i64 1) := MB.out.cell 1
    have mb2 : (V1.alloc (Obj.cells #[] 9)).cell? ⟨w.heap.size + 1, 2, none⟩ = some (.int .i64 (b.size : Int)) := MB.out.cell 2
    have mb3 : (V1.alloc (Obj.cells #[] 9)).cell? ⟨w.heap.size + 1, 3, none⟩ = some (.string d) := MB.out.cell 3
    have mc0 : (V1.alloc (Obj.cells #[] 9)).cell? ⟨w.heap.size + 1 + 1, 0, none⟩ = some (.int .i64 0) := MC.out.cell 0
    have mc1 : (V1.alloc (Obj.cells #[] 9)).cell? ⟨w.heap.size + 1 + 1, 1, none⟩ = some (.slice none 0 0) := MC.out.cell 1
    have mc2 : (V1.alloc (Obj.cells #[] 9)).cell? ⟨w.heap.size + 1 + 1, 2, none⟩ = some (.slice none 0 0) := MC.out.cell 2
    have mc3 : (V1.alloc (Obj.cells #[] 9)).cell? ⟨w.heap.size + 1 + 1, 3, none⟩ = some (.bool false) := MC.out.cell 3
    have mc4 : (V1.alloc (Obj.cells #[] 9)).cell? ⟨w.heap.size + 1 + 1, 4, none⟩ = some (.bool false) := MC.out.cell 4
    have mc5 : (V1.alloc (Obj.cells #[] 9)).cell? ⟨w.heap.size + 1 + 1, 5, none⟩ = some (.int .i64 0) := MC.out.cell 5
    have mc6 : (V1.alloc (Obj.cells #[] 9)).cell? ⟨w.heap.size + 1 + 1, 6, none⟩ = some (.slice none 0 0) := MC.out.cell 6
    have mc7 : (V1.alloc (Obj.cells #[] 9)).cell? ⟨w.heap.size + 1 + 1, 7, none⟩ = some (.slice none 0 0) := MC.out.cell 7
    have maf : ∀ i, (V1.alloc (Obj.cells #[] 9)).frozen? ⟨w.heap.size, i, none⟩ = false := fun i => MA.out.frozen i
    have mcf : ∀ i, (V1.alloc (Obj.cells #[] 9)).frozen? ⟨w.heap.size + 1 + 1, i, none⟩ = false := fun i => MC.out.frozen i
    simp only [List.length_nil]
    go_wp2_with fail
    obtain ⟨o1, o2, o3, o4⟩ := put8 (MC.out.far (p := ⟨w.heap.size, 2, none⟩) (show w.heap.size + 1 + 1 ≠ w.heap.size by omega) (.slice (some ⟨V1.heap.size, 0, none⟩) 0 0)) (.int .i64 st.limit) (.slice a0 st.q0.length k0) (.slice (some ⟨V1.heap.size, 0, none⟩) 0 0) (.bool st.c0) (.bool st.c1) (.int .i64 st.tks) (.slice aw st.ws.length kw) (.slice aa st.ans.length ka)
    have hb := o3 (ML.out.setCell (p := ⟨w.heap.size, 2, none⟩) (Nat.le_refl _) (.slice (some ⟨V1.heap.size, 0, none⟩) 0 0)) (show w.heap.size ≤ w.heap.size + 1 + 1 by omega)
    have hrr := XW.out.below hb
    exact bodyPost_ret (res60_2 rfl _ _ (w.heap.size + 1 + 1) _ _ _ _ _ _ _ _ _ _ rfl rfl rfl o1) rfl ⟨⟨_, .slice (some ⟨V1.heap.size, 0, none⟩) 0 0, _, _⟩, rfl, ⟨hrr.r0, (by exact o2 (MR.out.set_ (MR.out.ne MA.out (by decide)) _) (by decide)), hrr.rw_, hrr.ra, XW.out.o.new1 hb.size (fun j hj => Nat.le_trans BV1.out.size ((Frsh.at_ (Nat.le_refl _)) j hj))⟩, hb⟩
  · have h1' : 1 ≤ k1 := by omega
    have h1i : (1 : Int) ≤ (k1 : Int) := by omega
    have ES := Lib.hid (Row.below (show Row V1 9 1 (.slice (some ⟨gb, off + 1, none⟩) r.length (k1 - 1)) r.length (strC r) from by have h := (HRW.out.below BV1.out).dropR (k := 1) (by omega); simpa [strC] using h) EB.out)
    go_wp2_with (first
      | (at_builtin; refine list_append_n rfl (.tmp 57) (.tmp 59) 22 rfl 9 i0 _ 1 16 Try.underlying22 hi hz0 hz1 hz2 rfl (by omega) (v := .slice (some ⟨V1.heap.size, 0, none⟩) 0 0) rfl (u := .slice (some ⟨gb, off + 1, none⟩) r.length (k1 - 1)) rfl 0 [] ER.out r.length (strC r) ES.out (strC_one _) (by unfold maxLen; omega) (by omega) r.length (Nat.zero_add _) EB.out (Frsh.at_ (Nat.le_refl _)) ?_; intro A1 C1 w1 R1 F1 B1 G1; rw [List.nil_append] at R1; have HB1 := Lib.hid B1; have y0 : w1.cell? ⟨gb, off, none⟩ = some (.string b) := (HGB.out w1 B1).trans x0; have pa0 : w1.cell? ⟨w.heap.size, 0, none⟩ = some (.int .i64 st.limit) := (Lib.hid (keepBlk B1 LA.out)).out.cell 0; have pa1 : w1.cell? ⟨w.heap.size, 1, none⟩ = some (.slice a0 st.q0.length k0) := (Lib.hid (keepBlk B1 LA.out)).out.cell 1; have pa2 : w1.cell? ⟨w.heap.size, 2, none⟩ = some (.slice (some ⟨gb, off, none⟩) (r.length + 1) k1) := (Lib.hid (keepBlk B1 LA.out)).out.cell 2; have pa3 : w1.cell? ⟨w.heap.size, 3, none⟩ = some (.bool st.c0) := (Lib.hid (keepBlk B1 LA.out)).out.cell 3; have pa4 : w1.cell? ⟨w.heap.size, 4, none⟩ = some (.bool st.c1) := (Lib.hid (keepBlk B1 LA.out)).out.cell 4; have pa5 : w1.cell? ⟨w.heap.size, 5, none⟩ = some (.int .i64 st.tks) := (Lib.hid (keepBlk B1 LA.out)).out.cell 5; have pa6 : w1.cell? ⟨w.heap.size, 6, none⟩ = some (.slice aw st.ws.length kw) := (Lib.hid (keepBlk B1 LA.out)).out.cell 6; have pa7 : w1.cell? ⟨w.heap.size, 7, none⟩ = some (.slice aa st.ans.length ka) := (Lib.hid (keepBlk B1 LA.out)).out.cell 7; have pb0 : w1.cell? ⟨w.heap.size + 1, 0, none⟩ = some (.int .i64 0) := (Lib.hid (keepBlk B1 LB.out)).out.cell 0; have pb1 : w1.cell? ⟨w.heap.size + 1, 1, none⟩ = some (.int .i64 1) := (Lib.hid (keepBlk B1 LB.out)).out.cell 1; have pb2 : w1.cell? ⟨w.heap.size + 1, 2, none⟩ = some (.int .i64 (b.size : Int)) := (Lib.hid (keepBlk B1 LB.out)).out.cell 2; have pb3 : w1.cell? ⟨w.heap.size + 1, 3, none⟩ = some (.string d) := (Lib.hid (keepBlk B1 LB.out)).out.cell 3; have pc0 : w1.cell? ⟨w.heap.size + 1 + 1, 0, none⟩ = some (.int .i64 0) := (Lib.hid (keepBlk B1 LC.out)).out.cell 0; have pc1 : w1.cell? ⟨w.heap.size + 1 + 1, 1, none⟩ = some (.slice none 0 0) := (Lib.hid (keepBlk B1 LC.out)).out.cell 1; have pc2 : w1.cell? ⟨w.heap.size + 1 + 1, 2, none⟩ = some (.slice none 0 0) := (Lib.hid (keepBlk B1 LC.out)).out.cell 2; have pc3 : w1.cell? ⟨w.heap.size + 1 + 1, 3, none⟩ = some (.bool false) := (Lib.hid (keepBlk B1 LC.out)).out.cell 3; have pc4 : w1.cell? ⟨w.heap.size + 1 + 1, 4, none⟩ = some (.bool false) := (Lib.hid (keepBlk B1 LC.out)).out.cell 4; have pc5 : w1.cell? ⟨w.heap.size + 1 + 1, 5, none⟩ = some (.int .i64 0) := (Lib.hid (keepBlk B1 LC.out)).out.cell 5; have pc6 : w1.cell? ⟨w.heap.size + 1 + 1, 6, none⟩ = some (.slice none 0 0) := (Lib.hid (keepBlk B1 LC.out)).out.cell 6; have pc7 : w1.cell? ⟨w.heap.size + 1 + 1, 7, none⟩ = some (.slice none 0 0) := (Lib.hid (keepBlk B1 LC.out)).out.cell 7; have paf : ∀ i, w1.frozen? ⟨w.heap.size, i, none⟩ = false := fun i => (keepBlk B1 LA.out).frozen i; have pcf : ∀ i, w1.frozen? ⟨w.heap.size + 1 + 1, i, none⟩ = false := fun i => (keepBlk B1 LC.out).frozen i; have HR1 := Lib.hid R1; have HF1 := Lib.hid F1; clear R1 F1 B1 G1)
      | fail)
    have MA := Lib.hid (keepBlk HB1.out LA.out)
    have MC := Lib.hid (keepBlk HB1.out LC.out)
    have ML := Lib.hid (keepBelow BV1.out HB1.out)
    have MR := HR1
    obtain ⟨o1, o2, o3, o4⟩ := put8 (MC.out.far (p := ⟨w.heap.size, 2, none⟩) (show w.heap.size + 1 + 1 ≠ w.heap.size by omega) (.slice A1 r.length C1)) (.int .i64 st.limit) (.slice a0 st.q0.length k0) (.slice A1 r.length C1) (.bool st.c0) (.bool st.c1) (.int .i64 st.tks) (.slice aw st.ws.length kw) (.slice aa st.ans.length ka)
    have hb := o3 (ML.out.setCell (p := ⟨w.heap.size, 2, none⟩) (Nat.le_refl _) (.slice A1 r.length C1)) (show w.heap.size ≤ w.heap.size + 1 + 1 by omega)
    have hrr := XW.out.below hb
    exact bodyPost_ret (res60_2 rfl _ _ (w.heap.size + 1 + 1) _ _ _ _ _ _ _ _ _ _ rfl rfl rfl o1) rfl ⟨⟨_, .slice A1 r.length C1, _, _⟩, rfl, ⟨hrr.r0, (by exact o2 (MR.out.set_ (MR.out.ne MA.out (by decide)) _) (by decide)), hrr.rw_, hrr.ra, XW.out.o.new1 hb.size (fun j hj => Nat.le_trans BV1.out.size ((HF1.out) j hj))⟩, hb⟩
set_option maxRecDepth 100000 in
set_option maxHeartbeats 3200000 in
theorem rdo_readg0 (c : Int) (b : ByteArray) (hcb : (b.size : Int) < c) (d : ByteArray) (r : List ByteArray) (he : emptyB ⟨0, 0, c, d⟩ = false) (S : Sl) (st : St) (hqr : st.q0 = b :: r) (hs : Sm st) (w : World) (hR : Ref F w S st) :
    Calls Try.prog 67 #[rpV S st, .agg #[.int .i64 0, .int .i64 0, .int .i64 c, .string d]] w (DoSays F w ⟨r, st.q1, st.c0, st.c1, st.limit, st.tks, st.ws, st.ans⟩ b 0) := by
  obtain ⟨i0, hi, hz0, hz1, hz2⟩ := info_parts Try.info9
  have C79 := Lib.hid (fun W => rnothing_any ⟨0, 0, c, d⟩ ⟨.inl rfl, .inl rfl⟩ W)
  rw [he] at C79
  have hql : r.length ≤ 100000 := by have := hs.q; rw [hqr] at this; simp only [List.length_cons] at this; omega
  have hbz : b.size ≤ 1000000000000 := by have := hs.z; rw [hqr] at this; simp only [sizes] at this; omega
  obtain ⟨a0, k0, a1, k1, aw, kw, aa, ka, rfl⟩ := hR.open
  have hrow := hR.r0
  rw [hqr] at hrow
  obtain ⟨gb, off, cap, hv, h1, h2, hgb, hcl, _⟩ := hrow.open (by simp)
  have hv' : Value.slice a0 (b :: r).length k0 = .slice (some ⟨gb, off, none⟩) (b :: r).length cap := hv
  injection hv' with hv1 _ hv3
  subst hv1 hv3
  simp only [List.length_cons] at h1
  unfold maxLen at h2
  have HX0 := Lib.hid (show w.cell? ⟨gb, off, none⟩ = some (.string b) from hcl 0 (by simp))
  have HRW := Lib.hid (show Row w 9 1 (.slice (some ⟨gb, off, none⟩) (r.length + 1) k0) (r.length + 1) (strC (b :: r)) from by simpa only [hqr, List.length_cons] using hrow)
  have XW := Lib.hid hR
  unfold rpV
  simp only
  rw [show st.q0.length = r.length + 1 by rw [hqr]; rfl]
  clear hcl hrow hR he hs
  have BW := Lib.hid (show Below w.heap.size w (((w.alloc (.cells #[.int .i64 st.limit, .slice (some ⟨gb, off, none⟩) (r.length + 1) k0, .slice a1 st.q1.length k1, .bool st.c0, .bool st.c1, .int .i64 st.tks, .slice aw st.ws.length kw, .slice aa st.ans.length ka] 60)).alloc (.cells #[.int .i64 0, .int .i64 0, .int .i64 c, .string d] 107)).alloc (.cells #[.int .i64 0, .slice none 0 0, .slice none 0 0, .bool false, .bool false, .int .i64 0, .slice none 0 0, .slice none 0 0] 60)) from (((Below.refl _ _).alloc (Nat.le_refl _) _).alloc (by simp) _).alloc (by simp; omega) _)
  have KA := Lib.hid (show Blk (((w.alloc (.cells #[.int .i64 st.limit, .slice (some ⟨gb, off, none⟩) (r.length + 1) k0, .slice a1 st.q1.length k1, .bool st.c0, .bool st.c1, .int .i64 st.tks, .slice aw st.ws.length kw, .slice aa st.ans.length ka] 60)).alloc (.cells #[.int .i64 0, .int .i64 0, .int .i64 c, .string d] 107)).alloc (.cells #[.int .i64 0, .slice none 0 0, .slice none 0 0, .bool false, .bool false, .int .i64 0, .slice none 0 0, .slice none 0 0] 60)) (w.heap.size) 60 [.int .i64 st.limit, .slice (some ⟨gb, off, none⟩) (r.length + 1) k0, .slice a1 st.q1.length k1, .bool st.c0, .bool st.c1, .int .i64 st.tks, .slice aw st.ws.length kw, .slice aa st.ans.length ka] from ((Blk.new w 60 _).alloc _).alloc _)
  have KB := Lib.hid (show Blk (((w.alloc (.cells #[.int .i64 st.limit, .slice (some ⟨gb, off, none⟩) (r.length + 1) k0, .slice a1 st.q1.length k1, .bool st.c0, .bool st.c1, .int .i64 st.tks, .slice aw st.ws.length kw, .slice aa st.ans.length ka] 60)).alloc (.cells #[.int .i64 0, .int .i64 0, .int .i64 c, .string d] 107)).alloc (.cells #[.int .i64 0, .slice none 0 0, .slice none 0 0, .bool false, .bool false, .int .i64 0, .slice none 0 0, .slice none 0 0] 60)) (w.heap.size + 1) 107 [.int .i64 0, .int .i64 0, .int .i64 c, .string d] from (blk_at (by simp) 107 [_, _, _, _]).alloc _)
  have KC := Lib.hid (show Blk (((w.alloc (.cells #[.int .i64 st.limit, .slice (some ⟨gb, off, none⟩) (r.length + 1) k0, .slice a1 st.q1.length k1, .bool st.c0, .bool st.c1, .int .i64 st.tks, .slice aw st.ws.length kw, .slice aa st.ans.length ka] 60)).alloc (.cells #[.int .i64 0, .int .i64 0, .int .i64 c, .string d] 107)).alloc (.cells #[.int .i64 0, .slice none 0 0, .slice none 0 0, .bool false, .bool false, .int .i64 0, .slice none 0 0, .slice none 0 0] 60)) (w.heap.size + 1 + 1) 60 [.int .i64 0, .slice none 0 0, .slice none 0 0, .bool false, .bool false, .int .i64 0, .slice none 0 0, .slice none 0 0] from blk_at (by simp) 60 [_, _, _, _, _, _, _, _])
  go_enter Try.func67, Try.ntmps67
  go_upto_region 8 with (go_at_call 79; refine (C79.out _).mono ?_; rintro e V0 ⟨rfl, hb⟩; have JA := Lib.hid (keepBlk hb KA.out); have ja0 : V0.cell? ⟨w.heap.size, 0, none⟩ = some (.int .i64 st.limit) := JA.out.cell 0; have ja1 : V0.cell? ⟨w.heap.size, 1, none⟩ = some (.slice (some ⟨gb, off, none⟩) (r.length + 1) k0) := JA.out.cell 1; have ja2 : V0.cell? ⟨w.heap.size, 2, none⟩ = some (.slice a1 st.q1.length k1) := JA.out.cell 2; have ja3 : V0.cell? ⟨w.heap.size, 3, none⟩ = some (.bool st.c0) := JA.out.cell 3; have ja4 : V0.cell? ⟨w.heap.size, 4, none⟩ = some (.bool st.c1) := JA.out.cell 4; have ja5 : V0.cell? ⟨w.heap.size, 5, none⟩ = some (.int .i64 st.tks) := JA.out.cell 5; have ja6 : V0.cell? ⟨w.heap.size, 6, none⟩ = some (.slice aw st.ws.length kw) := JA.out.cell 6; have ja7 : V0.cell? ⟨w.heap.size, 7, none⟩ = some (.slice aa st.ans.length ka) := JA.out.cell 7; have JB := Lib.hid (keepBlk hb KB.out); have jb0 : V0.cell? ⟨w.heap.size + 1, 0, none⟩ = some (.int .i64 0) := JB.out.cell 0; have jb1 : V0.cell? ⟨w.heap.size + 1, 1, none⟩ = some (.int .i64 0) := JB.out.cell 1; have jb2 : V0.cell? ⟨w.heap.size + 1, 2, none⟩ = some (.int .i64 c) := JB.out.cell 2; have jb3 : V0.cell? ⟨w.heap.size + 1, 3, none⟩ = some (.string d) := JB.out.cell 3; have JC := Lib.hid (keepBlk hb KC.out); have jc0 : V0.cell? ⟨w.heap.size + 1 + 1, 0, none⟩ = some (.int .i64 0) := JC.out.cell 0; have jc1 : V0.cell? ⟨w.heap.size + 1 + 1, 1, none⟩ = some (.slice none 0 0) := JC.out.cell 1; have jc2 : V0.cell? ⟨w.heap.size + 1 + 1, 2, none⟩ = some (.slice none 0 0) := JC.out.cell 2; have jc3 : V0.cell? ⟨w.heap.size + 1 + 1, 3, none⟩ = some (.bool false) := JC.out.cell 3; have jc4 : V0.cell? ⟨w.heap.size + 1 + 1, 4, none⟩ = some (.bool false) := JC.out.cell 4; have jc5 : V0.cell? ⟨w.heap.size + 1 + 1, 5, none⟩ = some (.int .i64 0) := JC.out.cell 5; have jc6 : V0.cell? ⟨w.heap.size + 1 + 1, 6, none⟩ = some (.slice none 0 0) := JC.out.cell 6; have jc7 : V0.cell? ⟨w.heap.size + 1 + 1, 7, none⟩ = some (.slice none 0 0) := JC.out.cell 7; have BV := Lib.hid (keepBelow BW.out hb); have jaf := fun i => JA.out.frozen i; have jcf := fun i => JC.out.frozen i; clear hb)
  have hne2 : ¬ c < (b.size : Int) := by omega
  have hne3 : (c == (b.size : Int)) = false := by rw [beq_eq_false_iff_ne]; omega
  have hext : b.extract 0 b.size = b := ByteArray.extract_zero_size
  have z0 : V0.cell? ⟨gb, off, none⟩ = some (.string b) := (BV.out.cell (p := ⟨gb, off, none⟩) hgb).trans HX0.out
  go_quiet (fail)
  obtain ⟨V1, hV1⟩ : ∃ V1, V1 = V0.drewN nq := ⟨_, rfl⟩
  rw [← hV1]
  have LA := Lib.hid (show Blk V1 (w.heap.size) 60 [.int .i64 st.limit, .slice (some ⟨gb, off, none⟩) (r.length + 1) k0, .slice a1 st.q1.length k1, .bool st.c0, .bool st.c1, .int .i64 st.tks, .slice aw st.ws.length kw, .slice aa st.ans.length ka] by rw [hV1]; exact JA.out)
  have LB := Lib.hid (show Blk V1 (w.heap.size + 1) 107 [.int .i64 0, .int .i64 0, .int .i64 c, .string d] by rw [hV1]; exact JB.out)
  have LC := Lib.hid (show Blk V1 (w.heap.size + 1 + 1) 60 [.int .i64 0, .slice none 0 0, .slice none 0 0, .bool false, .bool false, .int .i64 0, .slice none 0 0, .slice none 0 0] by rw [hV1]; exact JC.out)
  have BV1 := Lib.hid (show Below w.heap.size w V1 by rw [hV1]; exact belowN BV.out _)
  have x0 : V1.cell? ⟨gb, off, none⟩ = some (.string b) := (BV1.out.cell (p := ⟨gb, off, none⟩) hgb).trans HX0.out
  have HGB := Lib.hid (fun w1 (hb : Below V1.heap.size V1 w1) => hb.cell (p := ⟨gb, off, none⟩) (Nat.lt_of_lt_of_le hgb BV1.out.size))
  have EB := Lib.hid (show Below V1.heap.size V1 (V1.alloc (Obj.cells #[] 9)) from (Below.refl _ _).alloc (Nat.le_refl _) _)
  have ER := Lib.hid (show Row (V1.alloc (Obj.cells #[] 9)) 9 1 (.slice (some ⟨V1.heap.size, 0, none⟩) 0 0) 0 [] from Row.empty (Blk.new V1 _ []))
  have x0' : (V1.alloc (Obj.cells #[] 9)).cell? ⟨gb, off, none⟩ = some (.string b) := (HGB.out _ EB.out).trans x0
  clear hV1 z0 ja0 ja1 ja2 ja3 ja4 ja5 ja6 ja7 jb0 jb1 jb2 jb3 jc0 jc1 jc2 jc3 jc4 jc5 jc6 jc7 jaf jcf hgb hqr
  by_cases hcap : k0 = 1
  · obtain rfl : r = [] := List.eq_nil_of_length_eq_zero (by omega)
    subst hcap
    have ES := Lib.hid (Row.below (show Row V1 9 1 (.slice (some ⟨gb, off, none⟩) 0 0) 0 (strC []) from (HRW.out.below BV1.out).cap0) EB.out)
    have MA := Lib.hid (show Blk (V1.alloc (Obj.cells #[] 9)) (w.heap.size) 60 [.int .i64 st.limit, .slice (some ⟨gb, off, none⟩) (0 + 1) 1, .slice a1 st.q1.length k1, .bool st.c0, .bool st.c1, .int .i64 st.tks, .slice aw st.ws.length kw, .slice aa st.ans.length ka] from LA.out.alloc _)
    have MB := Lib.hid (show Blk (V1.alloc (Obj.cells #[] 9)) (w.heap.size + 1) 107 [.int .i64 0, .int .i64 0, .int .i64 c, .string d] from LB.out.alloc _)
    have MC := Lib.hid (show Blk (V1.alloc (Obj.cells #[] 9)) (w.heap.size + 1 + 1) 60 [.int .i64 0, .slice none 0 0, .slice none 0 0, .bool false, .bool false, .int .i64 0, .slice none 0 0, .slice none 0 0] from LC.out.alloc _)
    have ML := Lib.hid (show Below w.heap.size w (V1.alloc (Obj.cells #[] 9)) from keepBelow BV1.out ((Below.refl _ _).alloc (Nat.le_refl _) _))
    have MR := Lib.hid (show Row (V1.alloc (Obj.cells #[] 9)) 9 1 (.slice (some ⟨V1.heap.size, 0, none⟩) 0 0) 0 [] from Row.empty (Blk.new V1 _ []))
    have ma0 : (V1.alloc (Obj.cells #[] 9)).cell? ⟨w.heap.size, 0, none⟩ = some (.int .i64 st.limit) := MA.out.cell 0
    have ma1 : (V1.alloc (Obj.cells #[] 9)).cell? ⟨w.heap.size, 1, none⟩ = some (.slice (some ⟨gb, off, none⟩) (0 + 1) 1) := MA.out.cell 1
    have ma2 : (V1.alloc (Obj.cells #[] 9)).cell? ⟨w.heap.size, 2, none⟩ = some (.slice a1 st.q1.length k1) := MA.out.cell 2
    have ma3 : (V1.alloc (Obj.cells #[] 9)).cell? ⟨w.heap.size, 3, none⟩ = some (.bool st.c0) := MA.out.cell 3
    have ma4 : (V1.alloc (Obj.cells #[] 9)).cell? ⟨w.heap.size, 4, none⟩ = some (.bool st.c1) := MA.out.cell 4
    have ma5 : (V1.alloc (Obj.cells #[] 9)).cell? ⟨w.heap.size, 5, none⟩ = some (.int .i64 st.tks) := MA.out.cell 5
    have ma6 : (V1.alloc (Obj.cells #[] 9)).cell? ⟨w.heap.size, 6, none⟩ = some (.slice aw st.ws.length kw) := MA.out.cell 6
    have ma7 : (V1.alloc (Obj.cells #[] 9)).cell? ⟨w.heap.size, 7, none⟩ = some (.slice aa st.ans.length ka) := MA.out.cell 7
    have mb0 : (V1.alloc (Obj.cells #[] 9)).cell? ⟨w.heap.size + 1, 0, none⟩ = some (.int .i64 0) := MB.out.cell 0
    have mb1 : (V1.alloc (Obj.cells #[] 9)).cell? ⟨w.heap.size + 1, 1, none⟩ = some (.int .i64 0) := MB.out.cell 1
    have mb2 : (V1.alloc (Obj.cells #[] 9)).cell? ⟨w.heap.size + 1, 2, none⟩ = some (.int .i64 c) := MB.out.cell 2
    have mb3 : (V1.alloc (Obj.cells #[] 9)).cell? ⟨w.heap.size + 1, 3, none⟩ = some (.string d) := MB.out.cell 3
    have mc0 : (V1.alloc (Obj.cells #[] 9)).cell? ⟨w.heap.size + 1 + 1, 0, none⟩ = some (.int .i64 0) := MC.out.cell 0
    have mc1 : (V1.alloc (Obj.cells #[] 9)).cell? ⟨w.heap.size + 1 + 1, 1, none⟩ = some (.slice none 0 0) := MC.out.cell 1
    have mc2 : (V1.alloc (Obj.cells #[] 9)).cell? ⟨w.heap.size + 1 + 1, 2, none⟩ = some (.slice none 0 0) := MC.out.cell 2
    have mc3 : (V1.alloc (Obj.cells #[] 9)).cell? ⟨w.heap.size + 1 + 1, 3, none⟩ = some (.bool false) := MC.out.cell 3
    have mc4 : (V1.alloc (Obj.cells #[] 9)).cell? ⟨w.heap.size + 1 + 1, 4, none⟩ = some (.bool false) := MC.out.cell 4
    have mc5 : (V1.alloc (Obj.cells #[] 9)).cell? ⟨w.heap.size + 1 + 1, 5, none⟩ = some (.int .i64 0) := MC.out.cell 5
    have mc6 : (V1.alloc (Obj.cells #[] 9)).cell? ⟨w.heap.size + 1 + 1, 6, none⟩ = some (.slice none 0 0) := MC.out.cell 6
    have mc7 : (V1.alloc (Obj.cells #[] 9)).cell? ⟨w.heap.size + 1 + 1, 7, none⟩ = some (.slice none 0 0) := MC.out.cell 7
    have maf : ∀ i, (V1.alloc (Obj.cells #[] 9)).frozen? ⟨w.heap.size, i, none⟩ = false := fun i => MA.out.frozen i
    have mcf : ∀ i, (V1.alloc (Obj.cells #[] 9)).frozen? ⟨w.heap.size + 1 + 1, i, none⟩ = false := fun i => MC.out.frozen i
    simp only [List.length_nil]
    go_wp2_with fail
    obtain ⟨o1, o2, o3, o4⟩ := put8 (MC.out.far (p := ⟨w.heap.size, 1, none⟩) (show w.heap.size + 1 + 1 ≠ w.heap.size by omega) (.slice (some ⟨V1.heap.size, 0, none⟩) 0 0)) (.int .i64 st.limit) (.slice (some ⟨V1.heap.size, 0, none⟩) 0 0) (.slice a1 st.q1.length k1) (.bool st.c0) (.bool st.c1) (.int .i64 st.tks) (.slice aw st.ws.length kw) (.slice aa st.ans.length ka)
    have hb := o3 (ML.out.setCell (p := ⟨w.heap.size, 1, none⟩) (Nat.le_refl _) (.slice (some ⟨V1.heap.size, 0, none⟩) 0 0)) (show w.heap.size ≤ w.heap.size + 1 + 1 by omega)
    have hrr := XW.out.below hb
    exact bodyPost_ret (res60_2 rfl _ _ (w.heap.size + 1 + 1) _ _ _ _ _ _ _ _ _ _ rfl rfl rfl o1) rfl ⟨⟨.slice (some ⟨V1.heap.size, 0, none⟩) 0 0, _, _, _⟩, rfl, ⟨(by exact o2 (MR.out.set_ (MR.out.ne MA.out (by decide)) _) (by decide)), hrr.r1, hrr.rw_, hrr.ra, XW.out.o.new0 hb.size (fun j hj => Nat.le_trans BV1.out.size ((Frsh.at_ (Nat.le_refl _)) j hj))⟩, hb⟩
  · have h1' : 1 ≤ k0 := by omega
    have h1i : (1 : Int) ≤ (k0 : Int) := by omega
    have ES := Lib.hid (Row.below (show Row V1 9 1 (.slice (some ⟨gb, off + 1, none⟩) r.length (k0 - 1)) r.length (strC r) from by have h := (HRW.out.below BV1.out).dropR (k := 1) (by omega); simpa [strC] using h) EB.out)
    go_wp2_with (first
      | (at_builtin; refine list_append_n rfl (.tmp 57) (.tmp 59) 22 rfl 9 i0 _ 1 16 Try.underlying22 hi hz0 hz1 hz2 rfl (by omega) (v := .slice (some ⟨V1.heap.size, 0, none⟩) 0 0) rfl (u := .slice (some ⟨gb, off + 1, none⟩) r.length (k0 - 1)) rfl 0 [] ER.out r.length (strC r) ES.out (strC_one _) (by unfold maxLen; omega) (by omega) r.length (Nat.zero_add _) EB.out (Frsh.at_ (Nat.le_refl _)) ?_; intro A1 C1 w1 R1 F1 B1 G1; rw [List.nil_append] at R1; have HB1 := Lib.hid B1; have y0 : w1.cell? ⟨gb, off, none⟩ = some (.string b) := (HGB.out w1 B1).trans x0; have pa0 : w1.cell? ⟨w.heap.size, 0, none⟩ = some (.int .i64 st.limit) := (Lib.hid (keepBlk B1 LA.out)).out.cell 0; have pa1 : w1.cell? ⟨w.heap.size, 1, none⟩ = some (.slice (some ⟨gb, off, none⟩) (r.length + 1) k0) := (Lib.hid (keepBlk B1 LA.out)).out.cell 1; have pa2 : w1.cell? ⟨w.heap.size, 2, none⟩ = some (.slice a1 st.q1.length k1) := (Lib.hid (keepBlk B1 LA.out)).out.cell 2; have pa3 : w1.cell? ⟨w.heap.size, 3, none⟩ = some (.bool st.c0) := (Lib.hid (keepBlk B1 LA.out)).out.cell 3; have pa4 : w1.cell? ⟨w.heap.size, 4, none⟩ = some (.bool st.c1) := (Lib.hid (keepBlk B1 LA.out)).out.cell 4; have pa5 : w1.cell? ⟨w.heap.size, 5, none⟩ = some (.int .i64 st.tks) := (Lib.hid (keepBlk B1 LA.out)).out.cell 5; have pa6 : w1.cell? ⟨w.heap.size, 6, none⟩ = some (.slice aw st.ws.length kw) := (Lib.hid (keepBlk B1 LA.out)).out.cell 6; have pa7 : w1.cell? ⟨w.heap.size, 7, none⟩ = some (.slice aa st.ans.length ka) := (Lib.hid (keepBlk B1 LA.out)).out.cell 7; have pb0 : w1.cell? ⟨w.heap.size + 1, 0, none⟩ = some (.int .i64 0) := (Lib.hid (keepBlk B1 LB.out)).out.cell 0; have pb1 : w1.cell? ⟨w.heap.size + 1, 1, none⟩ = some (.int .i64 0) := (Lib.hid (keepBlk B1 LB.out)).out.cell 1; have pb2 : w1.cell? ⟨w.heap.size + 1, 2, none⟩ = some (.int .i64 c) := (Lib.hid (keepBlk B1 LB.out)).out.cell 2; have pb3 : w1.cell? ⟨w.heap.size + 1, 3, none⟩ = some (.string d) := (Lib.hid (keepBlk B1 LB.out)).out.cell 3; have pc0 : w1.cell? ⟨w.heap.size + 1 + 1, 0, none⟩ = some (.int .i64 0) := (Lib.hid (keepBlk B1 LC.out)).out.cell 0; have pc1 : w1.cell? ⟨w.heap.size + 1 + 1, 1, none⟩ = some (.slice none 0 0) := (Lib.hid (keepBlk B1 LC.out)).out.cell 1; have pc2 : w1.cell? ⟨w.heap.size + 1 + 1, 2, none⟩ = some (.slice none 0 0) := (Lib.hid (keepBlk B1 LC.out)).out.cell 2; have pc3 : w1.cell? ⟨w.heap.size + 1 + 1, 3, none⟩ = some (.bool false) := (Lib.hid (keepBlk B1 LC.out)).out.cell 3; have pc4 : w1.cell? ⟨w.heap.size + 1 + 1, 4, none⟩ = some (.bool false) := (Lib.hid (keepBlk B1 LC.out)).out.cell 4; have pc5 : w1.cell? ⟨w.heap.size + 1 + 1, 5, none⟩ = some (.int .i64 0) := (Lib.hid (keepBlk B1 LC.out)).out.cell 5; have pc6 : w1.cell? ⟨w.heap.size + 1 + 1, 6, none⟩ = some (.slice none 0 0) := (Lib.hid (keepBlk B1 LC.out)).out.cell 6; have pc7 : w1.cell? ⟨w.heap.size + 1 + 1, 7, none⟩ = some (.slice none 0 0) := (Lib.hid (keepBlk B1 LC.out)).out.cell 7; have paf : ∀ i, w1.frozen? ⟨w.heap.size, i, none⟩ = false := fun i => (keepBlk B1 LA.out).frozen i; have pcf : ∀ i, w1.frozen? ⟨w.heap.size + 1 + 1, i, none⟩ = false := fun i => (keepBlk B1 LC.out).frozen i; have HR1 := Lib.hid R1; have HF1 := Lib.hid F1; clear R1 F1 B1 G1)
      | fail)
    have MA := Lib.hid (keepBlk HB1.out LA.out)
    have MC := Lib.hid (keepBlk HB1.out LC.out)
    have ML := Lib.hid (keepBelow BV1.out HB1.out)
    have MR := HR1
    obtain ⟨o1, o2, o3, o4⟩ := put8 (MC.out.far (p := ⟨w.heap.size, 1, none⟩) (show w.heap.size + 1 + 1 ≠ w.heap.size by omega) (.slice A1 r.length C1)) (.int .i64 st.limit) (.slice A1 r.length C1) (.slice a1 st.q1.length k1) (.bool st.c0) (.bool st.c1) (.int .i64 st.tks) (.slice aw st.ws.length kw) (.slice aa st.ans.length ka)
    have hb := o3 (ML.out.setCell (p := ⟨w.heap.size, 1, none⟩) (Nat.le_refl _) (.slice A1 r.length C1)) (show w.heap.size ≤ w.heap.size + 1 + 1 by omega)
    have hrr := XW.out.below hb
    exact bodyPost_ret (res60_2 rfl _ _ (w.heap.size + 1 + 1) _ _ _ _ _ _ _ _ _ _ rfl rfl rfl o1) rfl ⟨⟨.slice A1 r.length C1, _, _, _⟩, rfl, ⟨(by exact o2 (MR.out.set_ (MR.out.ne MA.out (by decide)) _) (by decide)), hrr.r1, hrr.rw_, hrr.ra, XW.out.o.new0 hb.size (fun j hj => Nat.le_trans BV1.out.size ((HF1.out) j hj))⟩, hb⟩
set_option maxRecDepth 100000 in
set_option maxHeartbeats 3200000 in
theorem rdo_readg1 (c : Int) (b : ByteArray) (hcb : (b.size : Int) < c) (d : ByteArray) (r : List ByteArray) (he : emptyB ⟨0, 1, c, d⟩ = false) (S : Sl) (st : St) (hqr : st.q1 = b :: r) (hs : Sm st) (w : World) (hR : Ref F w S st) :
    Calls Try.prog 67 #[rpV S st, .agg #[.int .i64 0, .int .i64 1, .int .i64 c, .string d]] w (DoSays F w ⟨st.q0, r, st.c0, st.c1, st.limit, st.tks, st.ws, st.ans⟩ b 0) := by
  obtain ⟨i0, hi, hz0, hz1, hz2⟩ := info_parts Try.info9
  have C79 := Lib.hid (fun W => rnothing_any ⟨0, 1, c, d⟩ ⟨.inl rfl, .inr rfl⟩ W)
  rw [he] at C79
  have hql : r.length ≤ 100000 := by have := hs.q; rw [hqr] at this; simp only [List.length_cons] at this; omega
  have hbz : b.size ≤ 1000000000000 := by have := hs.z; rw [hqr] at this; simp only [sizes] at this; omega
  obtain ⟨a0, k0, a1, k1, aw, kw, aa, ka, rfl⟩ := hR.open
  have hrow := hR.r1
  rw [hqr] at hrow
  obtain ⟨gb, off, cap, hv, h1, h2, hgb, hcl, _⟩ := hrow.open (by simp)
  have hv' : Value.slice a1 (b :: r).length k1 = .slice (some ⟨gb, off, none⟩) (b :: r).length cap := hv
  injection hv' with hv1 _ hv3
  subst hv1 hv3
  simp only [List.length_cons] at h1
  unfold maxLen at h2
  have HX0 := Lib.hid (show w.cell? ⟨gb, off, none⟩ = some (.string b) from hcl 0 (by simp))
  have HRW := Lib.hid (show Row w 9 1 (.slice (some ⟨gb, off, none⟩) (r.length + 1) k1) (r.length + 1) (strC (b :: r)) from by simpa only [hqr, List.length_cons] using hrow)
  have XW := Lib.hid hR
  unfold rpV
  simp only
  rw [show st.q1.length = r.length + 1 by rw [hqr]; rfl]
  clear hcl hrow hR he hs
  have BW := Lib.hid (show Below w.heap.size w (((w.alloc (.cells #[.int .i64 st.limit, .slice a0 st.q0.length k0, .slice (some ⟨gb, off, none⟩) (r.length + 1) k1, .bool st.c0, .bool st.c1, .int .i64 st.tks, .slice aw st.ws.length kw, .slice aa st.ans.length ka] 60)).alloc (.cells #[.int .i64 0, .int .i64 1, .int .i64 c, .string d] 107)).alloc (.cells #[.int .i64 0, .slice none 0 0, .slice none 0 0, .bool false, .bool false, .int .i64 0, .slice none 0 0, .slice none 0 0] 60)) from (((Below.refl _ _).alloc (Nat.le_refl _) _).alloc (by simp) _).alloc (by simp; omega) _)
  have KA := Lib.hid (show Blk (((w.alloc (.cells #[.int .i64 st.limit, .slice a0 st.q0.length k0, .slice (some ⟨gb, off, none⟩) (r.length + 1) k1, .bool st.c0, .bool st.c1, .int .i64 st.tks, .slice aw st.ws.length kw, .slice aa st.ans.length ka] 60)).alloc (.cells #[.int .i64 0, .int .i64 1, .int .i64 c, .string d] 107)).alloc (.cells #[.int .i64 0, .slice none 0 0, .slice none 0 0, .bool false, .bool false, .int .i64 0, .slice none 0 0, .slice none 0 0] 60)) (w.heap.size) 60 [.int .i64 st.limit, .slice a0 st.q0.length k0, .slice (some ⟨gb, off, none⟩) (r.length + 1) k1, .bool st.c0, .bool st.c1, .int .i64 st.tks, .slice aw st.ws.length kw, .slice aa st.ans.length ka] from ((Blk.new w 60 _).alloc _).alloc _)
  have KB := Lib.hid (show Blk (((w.alloc (.cells #[.int .i64 st.limit, .slice a0 st.q0.length k0, .slice (some ⟨gb, off, none⟩) (r.length + 1) k1, .bool st.c0, .bool st.c1, .int .i64 st.tks, .slice aw st.ws.length kw, .slice aa st.ans.length ka] 60)).alloc (.cells #[.int .i64 0, .int .i64 1, .int .i64 c, .string d] 107)).alloc (.cells #[.int .i64 0, .slice none 0 0, .slice none 0 0, .bool false, .bool false, .int .i64 0, .slice none 0 0, .slice none 0 0] 60)) (w.heap.size + 1) 107 [.int .i64 0, .int .i64 1, .int .i64 c, .string d] from (blk_at (by simp) 107 [_, _, _, _]).alloc _)
  have KC := Lib.hid (show Blk (((w.alloc (.cells #[.int .i64 st.limit, .slice a0 st.q0.length k0, .slice (some ⟨gb, off, none⟩) (r.length + 1) k1, .bool st.c0, .bool st.c1, .int .i64 st.tks, .slice aw st.ws.length kw, .slice aa st.ans.length ka] 60)).alloc (.cells #[.int .i64 0, .int .i64 1, .int .i64 c, .string d] 107)).alloc (.cells #[.int .i64 0, .slice none 0 0, .slice none 0 0, .bool false, .bool false, .int .i64 0, .slice none 0 0, .slice none 0 0] 60)) (w.heap.size + 1 + 1) 60 [.int .i64 0, .slice none 0 0, .slice none 0 0, .bool false, .bool false, .int .i64 0, .slice none 0 0, .slice none 0 0] from blk_at (by simp) 60 [_, _, _, _, _, _, _, _])
  go_enter Try.func67, Try.ntmps67
  go_upto_region 8 with (go_at_call 79; refine (C79.out _).mono ?_; rintro e V0 ⟨rfl, hb⟩; have JA := Lib.hid (keepBlk hb KA.out); have ja0 : V0.cell? ⟨w.heap.size, 0, none⟩ = some (.int .i64 st.limit) := JA.out.cell 0; have ja1 : V0.cell? ⟨w.heap.size, 1, none⟩ = some (.slice a0 st.q0.length k0) := JA.out.cell 1; have ja2 : V0.cell? ⟨w.heap.size, 2, none⟩ = some (.slice (some ⟨gb, off, none⟩) (r.length + 1) k1) := JA.out.cell 2; have ja3 : V0.cell? ⟨w.heap.size, 3, none⟩ = some (.bool st.c0) := JA.out.cell 3; have ja4 : V0.cell? ⟨w.heap.size, 4, none⟩ = some (.bool st.c1) := JA.out.cell 4; have ja5 : V0.cell? ⟨w.heap.size, 5, none⟩ = some (.int .i64 st.tks) := JA.out.cell 5; have ja6 : V0.cell? ⟨w.heap.size, 6, none⟩ = some (.slice aw st.ws.length kw) := JA.out.cell 6; have ja7 : V0.cell? ⟨w.heap.size, 7, none⟩ = some (.slice aa st.ans.length ka) := JA.out.cell 7; have JB := Lib.hid (keepBlk hb KB.out); have jb0 : V0.cell? ⟨w.heap.size + 1, 0, none⟩ = some (.int .i64 0) := JB.out.cell 0; have jb1 : V0.cell? ⟨w.heap.size + 1, 1, none⟩ = some (.int .i64 1) := JB.out.cell 1; have jb2 : V0.cell? ⟨w.heap.size + 1, 2, none⟩ = some (.int .i64 c) := JB.out.cell 2; have jb3 : V0.cell? ⟨w.heap.size + 1, 3, none⟩ = some (.string d) := JB.out.cell 3; have JC := Lib.hid (keepBlk hb KC.out); have jc0 : V0.cell? ⟨w.heap.size + 1 + 1, 0, none⟩ = some (.int .i64 0) := JC.out.cell 0; have jc1 : V0.cell? ⟨w.heap.size + 1 + 1, 1, none⟩ = some (.slice none 0 0) := JC.out.cell 1; have jc2 : V0.cell? ⟨w.heap.size + 1 + 1, 2, none⟩ = some (.slice none 0 0) := JC.out.cell 2; have jc3 : V0.cell? ⟨w.heap.size + 1 + 1, 3, none⟩ = some (.bool false) := JC.out.cell 3; have jc4 : V0.cell? ⟨w.heap.size + 1 + 1, 4, none⟩ = some (.bool false) := JC.out.cell 4; have jc5 : V0.cell? ⟨w.heap.size + 1 + 1, 5, none⟩ = some (.int .i64 0) := JC.out.cell 5; have jc6 : V0.cell? ⟨w.heap.size + 1 + 1, 6, none⟩ = some (.slice none 0 0) := JC.out.cell 6; have jc7 : V0.cell? ⟨w.heap.size + 1 + 1, 7, none⟩ = some (.slice none 0 0) := JC.out.cell 7; have BV := Lib.hid (keepBelow BW.out hb); have jaf := fun i => JA.out.frozen i; have jcf := fun i => JC.out.frozen i; clear hb)
  have hne2 : ¬ c < (b.size : Int) := by omega
  have hne3 : (c == (b.size : Int)) = false := by rw [beq_eq_false_iff_ne]; omega
  have hext : b.extract 0 b.size = b := ByteArray.extract_zero_size
  have z0 : V0.cell? ⟨gb, off, none⟩ = some (.string b) := (BV.out.cell (p := ⟨gb, off, none⟩) hgb).trans HX0.out
  go_quiet (fail)
  obtain ⟨V1, hV1⟩ : ∃ V1, V1 = V0.drewN nq := ⟨_, rfl⟩
  rw [← hV1]
  have LA := Lib.hid (show Blk V1 (w.heap.size) 60 [.int .i64 st.limit, .slice a0 st.q0.length k0, .slice (some ⟨gb, off, none⟩) (r.length + 1) k1, .bool st.c0, .bool st.c1, .int .i64 st.tks, .slice aw st.ws.length kw, .slice aa st.ans.length ka] by rw [hV1]; exact JA.out)
  have LB := Lib.hid (show Blk V1 (w.heap.size + 1) 107 [.int .i64 0, .int .i64 1, .int .i64 c, .string d] by rw [hV1]; exact JB.out)
  have LC := Lib.hid (show Blk V1 (w.heap.size + 1 + 1) 60 [.int .i64 0, .slice none 0 0, .slice none 0 0, .bool false, .bool false, .int .i64 0, .slice none 0 0, .slice none 0 0] by rw [hV1]; exact JC.out)
  have BV1 := Lib.hid (show Below w.heap.size w V1 by rw [hV1]; exact belowN BV.out _)
  have x0 : V1.cell? ⟨gb, off, none⟩ = some (.string b) := (BV1.out.cell (p := ⟨gb, off, none⟩) hgb).trans HX0.out
  have HGB := Lib.hid (fun w1 (hb : Below V1.heap.size V1 w1) => hb.cell (p := ⟨gb, off, none⟩) (Nat.lt_of_lt_of_le hgb BV1.out.size))
  have EB := Lib.hid (show Below V1.heap.size V1 (V1.alloc (Obj.cells #[] 9)) from (Below.refl _ _).alloc (Nat.le_refl _) _)
  have ER := Lib.hid (show Row (V1.alloc (Obj.cells #[] 9)) 9 1 (.slice (some ⟨V1.heap.size, 0, none⟩) 0 0) 0 [] from Row.empty (Blk.new V1 _ []))
  have x0' : (V1.alloc (Obj.cells #[] 9)).cell? ⟨gb, off, none⟩ = some (.string b) := (HGB.out _ EB.out).trans x0
  clear hV1 z0 ja0 ja1 ja2 ja3 ja4 ja5 ja6 ja7 jb0 jb1 jb2 jb3 jc0 jc1 jc2 jc3 jc4 jc5 jc6 jc7 jaf jcf hgb hqr
  by_cases hcap : k1 = 1
  · obtain rfl : r = [] := List.eq_nil_of_length_eq_zero (by omega)
    subst hcap
    have ES := Lib.hid (Row.below (show Row V1 9 1 (.slice (some ⟨gb, off, none⟩) 0 0) 0 (strC []) from (HRW.out.below BV1.out).cap0) EB.out)
    have MA := Lib.hid (show Blk (V1.alloc (Obj.cells #[] 9)) (w.heap.size) 60 [.int .i64 st.limit, .slice a0 st.q0.length k0, .slice (some ⟨gb, off, none⟩) (0 + 1) 1, .bool st.c0, .bool st.c1, .int .i64 st.tks, .slice aw st.ws.length kw, .slice aa st.ans.length ka] from LA.out.alloc _)
    have MB := Lib.hid (show Blk (V1.alloc (Obj.cells #[] 9)) (w.heap.size + 1) 107 [.int .i64 0, .int .i64 1, .int .i64 c, .string d] from LB.out.alloc _)
    have MC := Lib.hid (show Blk (V1.alloc (Obj.cells #[] 9)) (w.heap.size + 1 + 1) 60 [.int .i64 0, .slice none 0 0, .slice none 0 0, .bool false, .bool false, .int .i64 0, .slice none 0 0, .slice none 0 0] from LC.out.alloc _)
    have ML := Lib.hid (show Below w.heap.size w (V1.alloc (Obj.cells #[] 9)) from keepBelow BV1.out ((Below.refl _ _).alloc (Nat.le_refl _) _))
    have MR := Lib.hid (show Row (V1.alloc (Obj.cells #[] 9)) 9 1 (.slice (some ⟨V1.heap.size, 0, none⟩) 0 0) 0 [] from Row.empty (Blk.new V1 _ []))
    have ma0 : (V1.alloc (Obj.cells #[] 9)).cell? ⟨w.heap.size, 0, none⟩ = some (.int .i64 st.limit) := MA.out.cell 0
    have ma1 : (V1.alloc (Obj.cells #[] 9)).cell? ⟨w.heap.size, 1, none⟩ = some (.slice a0 st.q0.length k0) := MA.out.cell 1
    have ma2 : (V1.alloc (Obj.cells #[] 9)).cell? ⟨w.heap.size, 2, none⟩ = some (.slice (some ⟨gb, off, none⟩) (0 + 1) 1) := MA.out.cell 2
    have ma3 : (V1.alloc (Obj.cells #[] 9)).cell? ⟨w.heap.size, 3, none⟩ = some (.bool st.c0) := MA.out.cell 3
    have ma4 : (V1.alloc (Obj.cells #[] 9)).cell? ⟨w.heap.size, 4, none⟩ = some (.bool st.c1) := MA.out.cell 4
    have ma5 : (V1.alloc (Obj.cells #[] 9)).cell? ⟨w.heap.size, 5, none⟩ = some (.int .i64 st.tks) := MA.out.cell 5
    have ma6 : (V1.alloc (Obj.cells #[] 9)).cell? ⟨w.heap.size, 6, none⟩ = some (.slice aw st.ws.length kw) := MA.out.cell 6
    have ma7 : (V1.alloc (Obj.cells #[] 9)).cell? ⟨w.heap.size, 7, none⟩ = some (.slice aa st.ans.length ka) := MA.out.cell 7
    have mb0 : (V1.alloc (Obj.cells #[] 9)).cell? ⟨w.heap.size + 1, 0, none⟩ = some (.int .i64 0) := MB.out.cell 0
    have mb1 : (V1.alloc (Obj.cells #[] 9)).cell? ⟨w.heap.size + 1, 1, none⟩ = some (.int .i64 1) := MB.out.cell 1
    have mb2 : (V1.alloc (Obj.cells #[] 9)).cell? ⟨w.heap.size + 1, 2, none⟩ = some (.int .i64 c) := MB.out.cell 2
    have mb3 : (V1.alloc (Obj.cells #[] 9)).cell? ⟨w.heap.size + 1, 3, none⟩ = some (.string d) := MB.out.cell 3
    have mc0 : (V1.alloc (Obj.cells #[] 9)).cell? ⟨w.heap.size + 1 + 1, 0, none⟩ = some (.int .i64 0) := MC.out.cell 0
    have mc1 : (V1.alloc (Obj.cells #[] 9)).cell? ⟨w.heap.size + 1 + 1, 1, none⟩ = some (.slice none 0 0) := MC.out.cell 1
    have mc2 : (V1.alloc (Obj.cells #[] 9)).cell? ⟨w.heap.size + 1 + 1, 2, none⟩ = some (.slice none 0 0) := MC.out.cell 2
    have mc3 : (V1.alloc (Obj.cells #[] 9)).cell? ⟨w.heap.size + 1 + 1, 3, none⟩ = some (.bool false) := MC.out.cell 3
    have mc4 : (V1.alloc (Obj.cells #[] 9)).cell? ⟨w.heap.size + 1 + 1, 4, none⟩ = some (.bool false) := MC.out.cell 4
    have mc5 : (V1.alloc (Obj.cells #[] 9)).cell? ⟨w.heap.size + 1 + 1, 5, none⟩ = some (.int .i64 0) := MC.out.cell 5
    have mc6 : (V1.alloc (Obj.cells #[] 9)).cell? ⟨w.heap.size + 1 + 1, 6, none⟩ = some (.slice none 0 0) := MC.out.cell 6
    have mc7 : (V1.alloc (Obj.cells #[] 9)).cell? ⟨w.heap.size + 1 + 1, 7, none⟩ = some (.slice none 0 0) := MC.out.cell 7
    have maf : ∀ i, (V1.alloc (Obj.cells #[] 9)).frozen? ⟨w.heap.size, i, none⟩ = false := fun i => MA.out.frozen i
    have mcf : ∀ i, (V1.alloc (Obj.cells #[] 9)).frozen? ⟨w.heap.size + 1 + 1, i, none⟩ = false := fun i => MC.out.frozen i
    simp only [List.length_nil]
    go_wp2_with fail
    obtain ⟨o1, o2, o3, o4⟩ := put8 (MC.out.far (p := ⟨w.heap.size, 2, none⟩) (show w.heap.size + 1 + 1 ≠ w.heap.size by omega) (.slice (some ⟨V1.heap.size, 0, none⟩) 0 0)) (.int .i64 st.limit) (.slice a0 st.q0.length k0) (.slice (some ⟨V1.heap.size, 0, none⟩) 0 0) (.bool st.c0) (.bool st.c1) (.int .i64 st.tks) (.slice aw st.ws.length kw) (.slice aa st.ans.length ka)
    have hb := o3 (ML.out.setCell (p := ⟨w.heap.size, 2, none⟩) (Nat.le_refl _) (.slice (some ⟨V1.heap.size, 0, none⟩) 0 0)) (show w.heap.size ≤ w.heap.size + 1 + 1 by omega)
    have hrr := XW.out.below hb
    exact bodyPost_ret (res60_2 rfl _ _ (w.heap.size + 1 + 1) _ _ _ _ _ _ _ _ _ _ rfl rfl rfl o1) rfl ⟨⟨_, .slice (some ⟨V1.heap.size, 0, none⟩) 0 0, _, _⟩, rfl, ⟨hrr.r0, (by exact o2 (MR.out.set_ (MR.out.ne MA.out (by decide)) _) (by decide)), hrr.rw_, hrr.ra, XW.out.o.new1 hb.size (fun j hj => Nat.le_trans BV1.out.size ((Frsh.at_ (Nat.le_refl _)) j hj))⟩, hb⟩
  · have h1' : 1 ≤ k1 := by omega
    have h1i : (1 : Int) ≤ (k1 : Int) := by omega
    have ES := Lib.hid (Row.below (show Row V1 9 1 (.slice (some ⟨gb, off + 1, none⟩) r.length (k1 - 1)) r.length (strC r) from by have h := (HRW.out.below BV1.out).dropR (k := 1) (by omega); simpa [strC] using h) EB.out)
    go_wp2_with (first
      | (at_builtin; refine list_append_n rfl (.tmp 57) (.tmp 59) 22 rfl 9 i0 _ 1 16 Try.underlying22 hi hz0 hz1 hz2 rfl (by omega) (v := .slice (some ⟨V1.heap.size, 0, none⟩) 0 0) rfl (u := .slice (some ⟨gb, off + 1, none⟩) r.length (k1 - 1)) rfl 0 [] ER.out r.length (strC r) ES.out (strC_one _) (by unfold maxLen; omega) (by omega) r.length (Nat.zero_add _) EB.out (Frsh.at_ (Nat.le_refl _)) ?_; intro A1 C1 w1 R1 F1 B1 G1; rw [List.nil_append] at R1; have HB1 := Lib.hid B1; have y0 : w1.cell? ⟨gb, off, none⟩ = some (.string b) := (HGB.out w1 B1).trans x0; have pa0 : w1.cell? ⟨w.heap.size, 0, none⟩ = some (.int .i64 st.limit) := (Lib.hid (keepBlk B1 LA.out)).out.cell 0; have pa1 : w1.cell? ⟨w.heap.size, 1, none⟩ = some (.slice a0 st.q0.length k0) := (Lib.hid (keepBlk B1 LA.out)).out.cell 1; have pa2 : w1.cell? ⟨w.heap.size, 2, none⟩ = some (.slice (some ⟨gb, off, none⟩) (r.length + 1) k1) := (Lib.hid (keepBlk B1 LA.out)).out.cell 2; have pa3 : w1.cell? ⟨w.heap.size, 3, none⟩ = some (.bool st.c0) := (Lib.hid (keepBlk B1 LA.out)).out.cell 3; have pa4 : w1.cell? ⟨w.heap.size, 4, none⟩ = some (.bool st.c1) := (Lib.hid (keepBlk B1 LA.out)).out.cell 4; have pa5 : w1.cell? ⟨w.heap.size, 5, none⟩ = some (.int .i64 st.tks) := (Lib.hid (keepBlk B1 LA.out)).out.cell 5; have pa6 : w1.cell? ⟨w.heap.size, 6, none⟩ = some (.slice aw st.ws.length kw) := (Lib.hid (keepBlk B1 LA.out)).out.cell 6; have pa7 : w1.cell? ⟨w.heap.size, 7, none⟩ = some (.slice aa st.ans.length ka) := (Lib.hid (keepBlk B1 LA.out)).out.cell 7; have pb0 : w1.cell? ⟨w.heap.size + 1, 0, none⟩ = some (.int .i64 0) := (Lib.hid (keepBlk B1 LB.out)).out.cell 0; have pb1 : w1.cell? ⟨w.heap.size + 1, 1, none⟩ = some (.int .i64 1) := (Lib.hid (keepBlk B1 LB.out)).out.cell 1; have pb2 : w1.cell? ⟨w.heap.size + 1, 2, none⟩ = some (.int .i64 c) := (Lib.hid (keepBlk B1 LB.out)).out.cell 2; have pb3 : w1.cell? ⟨w.heap.size + 1, 3, none⟩ = some (.string d) := (Lib.hid (keepBlk B1 LB.out)).out.cell 3; have pc0 : w1.cell? ⟨w.heap.size + 1 + 1, 0, none⟩ = some (.int .i64 0) := (Lib.hid (keepBlk B1 LC.out)).out.cell 0; have pc1 : w1.cell? ⟨w.heap.size + 1 + 1, 1, none⟩ = some (.slice none 0 0) := (Lib.hid (keepBlk B1 LC.out)).out.cell 1; have pc2 : w1.cell? ⟨w.heap.size + 1 + 1, 2, none⟩ = some (.slice none 0 0) := (Lib.hid (keepBlk B1 LC.out)).out.cell 2; have pc3 : w1.cell? ⟨w.heap.size + 1 + 1, 3, none⟩ = some (.bool false) := (Lib.hid (keepBlk B1 LC.out)).out.cell 3; have pc4 : w1.cell? ⟨w.heap.size + 1 + 1, 4, none⟩ = some (.bool false) := (Lib.hid (keepBlk B1 LC.out)).out.cell 4; have pc5 : w1.cell? ⟨w.heap.size + 1 + 1, 5, none⟩ = some (.int .i64 0) := (Lib.hid (keepBlk B1 LC.out)).out.cell 5; have pc6 : w1.cell? ⟨w.heap.size + 1 + 1, 6, none⟩ = some (.slice none 0 0) := (Lib.hid (keepBlk B1 LC.out)).out.cell 6; have pc7 : w1.cell? ⟨w.heap.size + 1 + 1, 7, none⟩ = some (.slice none 0 0) := (Lib.hid (keepBlk B1 LC.out)).out.cell 7; have paf : ∀ i, w1.frozen? ⟨w.heap.size, i, none⟩ = false := fun i => (keepBlk B1 LA.out).frozen i; have pcf : ∀ i, w1.frozen? ⟨w.heap.size + 1 + 1, i, none⟩ = false := fun i => (keepBlk B1 LC.out).frozen i; have HR1 := Lib.hid R1; have HF1 := Lib.hid F1; clear R1 F1 B1 G1)
      | fail)
    have MA := Lib.hid (keepBlk HB1.out LA.out)
    have MC := Lib.hid (keepBlk HB1.out LC.out)
    have ML := Lib.hid (keepBelow BV1.out HB1.out)
    have MR := HR1
    obtain ⟨o1, o2, o3, o4⟩ := put8 (MC.out.far (p := ⟨w.heap.size, 2, none⟩) (show w.heap.size + 1 + 1 ≠ w.heap.size by omega) (.slice A1 r.length C1)) (.int .i64 st.limit) (.slice a0 st.q0.length k0) (.slice A1 r.length C1) (.bool st.c0) (.bool st.c1) (.int .i64 st.tks) (.slice aw st.ws.length kw) (.slice aa st.ans.length ka)
    have hb := o3 (ML.out.setCell (p := ⟨w.heap.size, 2, none⟩) (Nat.le_refl _) (.slice A1 r.length C1)) (show w.heap.size ≤ w.heap.size + 1 + 1 by omega)
    have hrr := XW.out.below hb
    exact bodyPost_ret (res60_2 rfl _ _ (w.heap.size + 1 + 1) _ _ _ _ _ _ _ _ _ _ rfl rfl rfl o1) rfl ⟨⟨_, .slice A1 r.length C1, _, _⟩, rfl, ⟨hrr.r0, (by exact o2 (MR.out.set_ (MR.out.ne MA.out (by decide)) _) (by decide)), hrr.rw_, hrr.ra, XW.out.o.new1 hb.size (fun j hj => Nat.le_trans BV1.out.size ((HF1.out) j hj))⟩, hb⟩
end Go.Proofs.Ytmnlojbfdpjjdaa
