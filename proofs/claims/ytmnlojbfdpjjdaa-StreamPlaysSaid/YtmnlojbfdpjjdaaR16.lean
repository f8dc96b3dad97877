/- The reference: Ask, where it waits. -/
import Derived.Test.YtmnlojbfdpjjdaaR15
import Derived.Test.YtmnlojbfdpjjdaaV0
namespace Go.Proofs.Ytmnlojbfdpjjdaa
open Go.RowKit
variable {F : Nat → Prop}
set_option maxRecDepth 100000 in
set_option maxHeartbeats 6400000 in
theorem rask_wait (k f c : Int) (d : ByteArray) (hd : d.size ≤ 9000) {N : Nat} {l : Int} (S : Sl) (st : St) (hG : Gd N st) (hN : N ≤ 880) (hs9 : Bi l (askW st ⟨k, f, c, d⟩)) (he : checkE st ⟨k, f, c, d⟩ = 0) (hw : waitsB st ⟨k, f, c, d⟩ = true) (hf : likeN st.ws ⟨k, f, c, d⟩ < 16) (w : World) (hR : Ref F w S st) :
    Calls Try.prog 44 #[rpV S st, opV ⟨k, f, c, d⟩] w (AskSays F w (settle (askW st ⟨k, f, c, d⟩)) (st.tks + 1) 0) := by
  obtain ⟨i0, hi, hz0, hz1, hz2⟩ := info_parts Try.info120
  have hs : Sm st := hG.sm (by omega)
  have C63 := Lib.hid (fun W (hb : Below w.heap.size w W) => rcheck_any ⟨k, f, c, d⟩ S st hs W (hR.below hb))
  have C64 := Lib.hid (fun W (hb : Below w.heap.size w W) => rwaits_any ⟨k, f, c, d⟩ (checkE_ok he).1 S st hs W (hR.below hb))
  have C65 := Lib.hid (fun W (hb : Below w.heap.size w W) => rahead_any k f S st hs W (hR.below hb))
  have hlk : likeN st.ws ⟨k, f, 0, ⟨#[]⟩⟩ = likeN st.ws ⟨k, f, c, d⟩ := rfl
  rw [hlk] at C65
  rw [he] at C63
  rw [hw] at C64
  have ht0 := hG.t0
  have ht1 := hG.t1
  have hql : st.ws.length ≤ 100000 := by have := hs.q; omega
  have C66 := Lib.hid (fun (S3 : Sl) W (h : Ref F W S3 (⟨st.q0, st.q1, st.c0, st.c1, st.limit, st.tks + 1, st.ws ++ [(⟨⟨k, f, c, d⟩, st.tks + 1⟩ : Wt)], st.ans⟩ : St)) => rsettle_any (N := N + 1) (l := l) S3 (⟨st.q0, st.q1, st.c0, st.c1, st.limit, st.tks + 1, st.ws ++ [(⟨⟨k, f, c, d⟩, st.tks + 1⟩ : Wt)], st.ans⟩ : St) (hG.askW ⟨k, f, c, d⟩ hd (opOk_of hd he)) (by omega) hs9 W h)
  have XW := Lib.hid hR
  have hask : askW st ⟨k, f, c, d⟩ = (⟨st.q0, st.q1, st.c0, st.c1, st.limit, st.tks + 1, st.ws ++ [(⟨⟨k, f, c, d⟩, st.tks + 1⟩ : Wt)], st.ans⟩ : St) := rfl
  rw [hask]
  obtain ⟨za0, zk0, za1, zk1, zaw, zkw, zaa, zka, rfl⟩ := hR.open
  generalize likeN st.ws ⟨k, f, c, d⟩ = ln at *
  have hf2 : ¬ (16 : Int) ≤ (ln : Int) := by omega
  have hf3 : (ln : Int) < 16 := by omega
  have one2 : ∀ u ∈ ([.int .i64 (st.tks + 1), .int .i64 k, .int .i64 f, .int .i64 c, .string d] : List Value), u.oneCell' = true := rwsC_one [⟨⟨k, f, c, d⟩, st.tks + 1⟩]
  clear he hw hf hlk hR hs hG hs9 hask hd
  unfold rpV opV at *
  have BB0 := Lib.hid (show Below w.heap.size w (((w.alloc (.cells #[.int .i64 st.limit, .slice za0 st.q0.length zk0, .slice za1 st.q1.length zk1, .bool st.c0, .bool st.c1, .int .i64 st.tks, .slice zaw st.ws.length zkw, .slice zaa st.ans.length zka] 60)).alloc (.cells #[.int .i64 k, .int .i64 f, .int .i64 c, .string d] 107)).alloc (.cells #[.int .i64 0, .slice none 0 0, .slice none 0 0, .bool false, .bool false, .int .i64 0, .slice none 0 0, .slice none 0 0] 60)) from (((Below.refl _ _).alloc (Nat.le_refl _) _).alloc (by simp) _).alloc (by simp; omega) _)
  have KA0 := Lib.hid (show Blk (((w.alloc (.cells #[.int .i64 st.limit, .slice za0 st.q0.length zk0, .slice za1 st.q1.length zk1, .bool st.c0, .bool st.c1, .int .i64 st.tks, .slice zaw st.ws.length zkw, .slice zaa st.ans.length zka] 60)).alloc (.cells #[.int .i64 k, .int .i64 f, .int .i64 c, .string d] 107)).alloc (.cells #[.int .i64 0, .slice none 0 0, .slice none 0 0, .bool false, .bool false, .int .i64 0, .slice none 0 0, .slice none 0 0] 60)) (w.heap.size) 60 [.int .i64 st.limit, .slice za0 st.q0.length zk0, .slice za1 st.q1.length zk1, .bool st.c0, .bool st.c1, .int .i64 st.tks, .slice zaw st.ws.length zkw, .slice zaa st.ans.length zka] from ((Blk.new w 60 _).alloc _).alloc _)
  have KB0 := Lib.hid (show Blk (((w.alloc (.cells #[.int .i64 st.limit, .slice za0 st.q0.length zk0, .slice za1 st.q1.length zk1, .bool st.c0, .bool st.c1, .int .i64 st.tks, .slice zaw st.ws.length zkw, .slice zaa st.ans.length zka] 60)).alloc (.cells #[.int .i64 k, .int .i64 f, .int .i64 c, .string d] 107)).alloc (.cells #[.int .i64 0, .slice none 0 0, .slice none 0 0, .bool false, .bool false, .int .i64 0, .slice none 0 0, .slice none 0 0] 60)) (w.heap.size + 1) 107 [.int .i64 k, .int .i64 f, .int .i64 c, .string d] from (blk_at (by simp) 107 [_, _, _, _]).alloc _)
  have KC0 := Lib.hid (show Blk (((w.alloc (.cells #[.int .i64 st.limit, .slice za0 st.q0.length zk0, .slice za1 st.q1.length zk1, .bool st.c0, .bool st.c1, .int .i64 st.tks, .slice zaw st.ws.length zkw, .slice zaa st.ans.length zka] 60)).alloc (.cells #[.int .i64 k, .int .i64 f, .int .i64 c, .string d] 107)).alloc (.cells #[.int .i64 0, .slice none 0 0, .slice none 0 0, .bool false, .bool false, .int .i64 0, .slice none 0 0, .slice none 0 0] 60)) (w.heap.size + 1 + 1) 60 [.int .i64 0, .slice none 0 0, .slice none 0 0, .bool false, .bool false, .int .i64 0, .slice none 0 0, .slice none 0 0] from blk_at (by simp) 60 [_, _, _, _, _, _, _, _])
  go_enter Try.func44, Try.ntmps44
  go_upto_region 8 with (first
    | (go_at_call 63; refine (C63.out _ BB0.out).mono ?_; rintro e v1 ⟨rfl, hb⟩; have BB1 := Lib.hid (keepBelow BB0.out hb); have KA1 := Lib.hid (keepBlk hb KA0.out); have a10 : v1.cell? ⟨w.heap.size, 0, none⟩ = some (.int .i64 st.limit) := KA1.out.cell 0; have a11 : v1.cell? ⟨w.heap.size, 1, none⟩ = some (.slice za0 st.q0.length zk0) := KA1.out.cell 1; have a12 : v1.cell? ⟨w.heap.size, 2, none⟩ = some (.slice za1 st.q1.length zk1) := KA1.out.cell 2; have a13 : v1.cell? ⟨w.heap.size, 3, none⟩ = some (.bool st.c0) := KA1.out.cell 3; have a14 : v1.cell? ⟨w.heap.size, 4, none⟩ = some (.bool st.c1) := KA1.out.cell 4; have a15 : v1.cell? ⟨w.heap.size, 5, none⟩ = some (.int .i64 st.tks) := KA1.out.cell 5; have a16 : v1.cell? ⟨w.heap.size, 6, none⟩ = some (.slice zaw st.ws.length zkw) := KA1.out.cell 6; have a17 : v1.cell? ⟨w.heap.size, 7, none⟩ = some (.slice zaa st.ans.length zka) := KA1.out.cell 7; have KB1 := Lib.hid (keepBlk hb KB0.out); have b10 : v1.cell? ⟨w.heap.size + 1, 0, none⟩ = some (.int .i64 k) := KB1.out.cell 0; have b11 : v1.cell? ⟨w.heap.size + 1, 1, none⟩ = some (.int .i64 f) := KB1.out.cell 1; have b12 : v1.cell? ⟨w.heap.size + 1, 2, none⟩ = some (.int .i64 c) := KB1.out.cell 2; have b13 : v1.cell? ⟨w.heap.size + 1, 3, none⟩ = some (.string d) := KB1.out.cell 3; have KC1 := Lib.hid (keepBlk hb KC0.out); have c10 : v1.cell? ⟨w.heap.size + 1 + 1, 0, none⟩ = some (.int .i64 0) := KC1.out.cell 0; have c11 : v1.cell? ⟨w.heap.size + 1 + 1, 1, none⟩ = some (.slice none 0 0) := KC1.out.cell 1; have c12 : v1.cell? ⟨w.heap.size + 1 + 1, 2, none⟩ = some (.slice none 0 0) := KC1.out.cell 2; have c13 : v1.cell? ⟨w.heap.size + 1 + 1, 3, none⟩ = some (.bool false) := KC1.out.cell 3; have c14 : v1.cell? ⟨w.heap.size + 1 + 1, 4, none⟩ = some (.bool false) := KC1.out.cell 4; have c15 : v1.cell? ⟨w.heap.size + 1 + 1, 5, none⟩ = some (.int .i64 0) := KC1.out.cell 5; have c16 : v1.cell? ⟨w.heap.size + 1 + 1, 6, none⟩ = some (.slice none 0 0) := KC1.out.cell 6; have c17 : v1.cell? ⟨w.heap.size + 1 + 1, 7, none⟩ = some (.slice none 0 0) := KC1.out.cell 7; have fA1 := fun i => KA1.out.frozen i; have fC1 := fun i => KC1.out.frozen i; clear hb)
    | (go_at_call 64; refine (C64.out _ BB1.out).mono ?_; rintro e v2 ⟨rfl, hb⟩; have BB2 := Lib.hid (keepBelow BB1.out hb); have KA2 := Lib.hid (keepBlk hb KA1.out); have a20 : v2.cell? ⟨w.heap.size, 0, none⟩ = some (.int .i64 st.limit) := KA2.out.cell 0; have a21 : v2.cell? ⟨w.heap.size, 1, none⟩ = some (.slice za0 st.q0.length zk0) := KA2.out.cell 1; have a22 : v2.cell? ⟨w.heap.size, 2, none⟩ = some (.slice za1 st.q1.length zk1) := KA2.out.cell 2; have a23 : v2.cell? ⟨w.heap.size, 3, none⟩ = some (.bool st.c0) := KA2.out.cell 3; have a24 : v2.cell? ⟨w.heap.size, 4, none⟩ = some (.bool st.c1) := KA2.out.cell 4; have a25 : v2.cell? ⟨w.heap.size, 5, none⟩ = some (.int .i64 st.tks) := KA2.out.cell 5; have a26 : v2.cell? ⟨w.heap.size, 6, none⟩ = some (.slice zaw st.ws.length zkw) := KA2.out.cell 6; have a27 : v2.cell? ⟨w.heap.size, 7, none⟩ = some (.slice zaa st.ans.length zka) := KA2.out.cell 7; have KB2 := Lib.hid (keepBlk hb KB1.out); have b20 : v2.cell? ⟨w.heap.size + 1, 0, none⟩ = some (.int .i64 k) := KB2.out.cell 0; have b21 : v2.cell? ⟨w.heap.size + 1, 1, none⟩ = some (.int .i64 f) := KB2.out.cell 1; have b22 : v2.cell? ⟨w.heap.size + 1, 2, none⟩ = some (.int .i64 c) := KB2.out.cell 2; have b23 : v2.cell? ⟨w.heap.size + 1, 3, none⟩ = some (.string d) := KB2.out.cell 3; have KC2 := Lib.hid (keepBlk hb KC1.out); have c20 : v2.cell? ⟨w.heap.size + 1 + 1, 0, none⟩ = some (.int .i64 0) := KC2.out.cell 0; have c21 : v2.cell? ⟨w.heap.size + 1 + 1, 1, none⟩ = some (.slice none 0 0) := KC2.out.cell 1; have c22 : v2.cell? ⟨w.heap.size + 1 + 1, 2, none⟩ = some (.slice none 0 0) := KC2.out.cell 2; have c23 : v2.cell? ⟨w.heap.size + 1 + 1, 3, none⟩ = some (.bool false) := KC2.out.cell 3; have c24 : v2.cell? ⟨w.heap.size + 1 + 1, 4, none⟩ = some (.bool false) := KC2.out.cell 4; have c25 : v2.cell? ⟨w.heap.size + 1 + 1, 5, none⟩ = some (.int .i64 0) := KC2.out.cell 5; have c26 : v2.cell? ⟨w.heap.size + 1 + 1, 6, none⟩ = some (.slice none 0 0) := KC2.out.cell 6; have c27 : v2.cell? ⟨w.heap.size + 1 + 1, 7, none⟩ = some (.slice none 0 0) := KC2.out.cell 7; have fA2 := fun i => KA2.out.frozen i; have fC2 := fun i => KC2.out.frozen i; clear hb; clear a10 a11 a12 a13 a14 a15 a16 a17 b10 b11 b12 b13 c10 c11 c12 c13 c14 c15 c16 c17 fA1 fC1)
    | (go_at_call 65; refine (C65.out _ BB2.out).mono ?_; rintro e v3 ⟨rfl, hb⟩; have BB3 := Lib.hid (keepBelow BB2.out hb); have KA3 := Lib.hid (keepBlk hb KA2.out); have a30 : v3.cell? ⟨w.heap.size, 0, none⟩ = some (.int .i64 st.limit) := KA3.out.cell 0; have a31 : v3.cell? ⟨w.heap.size, 1, none⟩ = some (.slice za0 st.q0.length zk0) := KA3.out.cell 1; have a32 : v3.cell? ⟨w.heap.size, 2, none⟩ = some (.slice za1 st.q1.length zk1) := KA3.out.cell 2; have a33 : v3.cell? ⟨w.heap.size, 3, none⟩ = some (.bool st.c0) := KA3.out.cell 3; have a34 : v3.cell? ⟨w.heap.size, 4, none⟩ = some (.bool st.c1) := KA3.out.cell 4; have a35 : v3.cell? ⟨w.heap.size, 5, none⟩ = some (.int .i64 st.tks) := KA3.out.cell 5; have a36 : v3.cell? ⟨w.heap.size, 6, none⟩ = some (.slice zaw st.ws.length zkw) := KA3.out.cell 6; have a37 : v3.cell? ⟨w.heap.size, 7, none⟩ = some (.slice zaa st.ans.length zka) := KA3.out.cell 7; have KB3 := Lib.hid (keepBlk hb KB2.out); have b30 : v3.cell? ⟨w.heap.size + 1, 0, none⟩ = some (.int .i64 k) := KB3.out.cell 0; have b31 : v3.cell? ⟨w.heap.size + 1, 1, none⟩ = some (.int .i64 f) := KB3.out.cell 1; have b32 : v3.cell? ⟨w.heap.size + 1, 2, none⟩ = some (.int .i64 c) := KB3.out.cell 2; have b33 : v3.cell? ⟨w.heap.size + 1, 3, none⟩ = some (.string d) := KB3.out.cell 3; have KC3 := Lib.hid (keepBlk hb KC2.out); have c30 : v3.cell? ⟨w.heap.size + 1 + 1, 0, none⟩ = some (.int .i64 0) := KC3.out.cell 0; have c31 : v3.cell? ⟨w.heap.size + 1 + 1, 1, none⟩ = some (.slice none 0 0) := KC3.out.cell 1; have c32 : v3.cell? ⟨w.heap.size + 1 + 1, 2, none⟩ = some (.slice none 0 0) := KC3.out.cell 2; have c33 : v3.cell? ⟨w.heap.size + 1 + 1, 3, none⟩ = some (.bool false) := KC3.out.cell 3; have c34 : v3.cell? ⟨w.heap.size + 1 + 1, 4, none⟩ = some (.bool false) := KC3.out.cell 4; have c35 : v3.cell? ⟨w.heap.size + 1 + 1, 5, none⟩ = some (.int .i64 0) := KC3.out.cell 5; have c36 : v3.cell? ⟨w.heap.size + 1 + 1, 6, none⟩ = some (.slice none 0 0) := KC3.out.cell 6; have c37 : v3.cell? ⟨w.heap.size + 1 + 1, 7, none⟩ = some (.slice none 0 0) := KC3.out.cell 7; have fA3 := fun i => KA3.out.frozen i; have fC3 := fun i => KC3.out.frozen i; clear hb; clear a20 a21 a22 a23 a24 a25 a26 a27 b20 b21 b22 b23 c20 c21 c22 c23 c24 c25 c26 c27 fA2 fC2))
  obtain ⟨V0, hV⟩ : ∃ V0, V0 = v3.setCell ⟨w.heap.size, 5, none⟩ (.int .i64 (st.tks + 1)) := ⟨_, rfl⟩
  rw [← hV]
  have BV := Lib.hid (show Below w.heap.size w V0 by rw [hV]; exact BB3.out.setCell (p := ⟨w.heap.size, 5, none⟩) (Nat.le_refl _) _)
  have JA := Lib.hid (show Blk V0 (w.heap.size) 60 [.int .i64 st.limit, .slice za0 st.q0.length zk0, .slice za1 st.q1.length zk1, .bool st.c0, .bool st.c1, .int .i64 (st.tks + 1), .slice zaw st.ws.length zkw, .slice zaa st.ans.length zka] by rw [hV]; exact KA3.out.set_ 5 _)
  have JB := Lib.hid (show Blk V0 (w.heap.size + 1) 107 [.int .i64 k, .int .i64 f, .int .i64 c, .string d] by rw [hV]; exact KB3.out.far (Nat.succ_ne_self _) _)
  have JC := Lib.hid (show Blk V0 (w.heap.size + 1 + 1) 60 [.int .i64 0, .slice none 0 0, .slice none 0 0, .bool false, .bool false, .int .i64 0, .slice none 0 0, .slice none 0 0] by rw [hV]; exact KC3.out.far (show w.heap.size + 1 + 1 ≠ w.heap.size by omega) _)
  clear hV a30 a31 a32 a33 a34 a35 a36 a37 b30 b31 b32 b33 c30 c31 c32 c33 c34 c35 c36 c37 fA3 fC3 hf2 hf3
  have HA := Lib.hid (show Row V0 120 5 (.slice zaw st.ws.length zkw) st.ws.length (rwsC st.ws) from XW.out.rw_.below BV.out)
  have EB1 := Lib.hid (show Below V0.heap.size V0 ((V0.alloc (Obj.cells #[] 120)).drew) from ((Below.refl _ _).alloc (Nat.le_refl _) _).drew)
  have ER1 := Lib.hid (show Row ((V0.alloc (Obj.cells #[] 120)).drew) 120 5 (.slice (some ⟨V0.heap.size, 0, none⟩) 0 0) 0 [] from (show Row (V0.alloc (Obj.cells #[] 120)) 120 5 (.slice (some ⟨V0.heap.size, 0, none⟩) 0 0) 0 [] from Row.empty (Blk.new V0 _ [])))
  have ES1 := Lib.hid (Row.below HA.out EB1.out)
  have EB2 := Lib.hid (show Below V0.heap.size V0 (((V0.alloc (Obj.cells #[] 120)).alloc (Obj.cells #[.int .i64 (st.tks + 1), .int .i64 k, .int .i64 f, .int .i64 c, .string d] 120)).drew) from (((Below.refl _ _).alloc (Nat.le_refl _) _).alloc (by simp) _).drew)
  have ER2 := Lib.hid (show Row (((V0.alloc (Obj.cells #[] 120)).alloc (Obj.cells #[.int .i64 (st.tks + 1), .int .i64 k, .int .i64 f, .int .i64 c, .string d] 120)).drew) 120 5 (.slice (some ⟨V0.heap.size, 0, none⟩) 0 0) 0 [] from (show Row ((V0.alloc (Obj.cells #[] 120)).alloc (Obj.cells #[.int .i64 (st.tks + 1), .int .i64 k, .int .i64 f, .int .i64 c, .string d] 120)) 120 5 (.slice (some ⟨V0.heap.size, 0, none⟩) 0 0) 0 [] from Row.empty ((Blk.new V0 _ []).alloc _)))
  have ES2 := Lib.hid (Row.below HA.out EB2.out)
  have EB3 := Lib.hid (show Below V0.heap.size V0 (((V0.alloc (Obj.cells #[.int .i64 (st.tks + 1), .int .i64 k, .int .i64 f, .int .i64 c, .string d] 120)).alloc (Obj.cells #[] 120)).drew) from (((Below.refl _ _).alloc (Nat.le_refl _) _).alloc (by simp) _).drew)
  have ER3 := Lib.hid (show Row (((V0.alloc (Obj.cells #[.int .i64 (st.tks + 1), .int .i64 k, .int .i64 f, .int .i64 c, .string d] 120)).alloc (Obj.cells #[] 120)).drew) 120 5 (.slice (some ⟨V0.heap.size + 1, 0, none⟩) 0 0) 0 [] from (show Row ((V0.alloc (Obj.cells #[.int .i64 (st.tks + 1), .int .i64 k, .int .i64 f, .int .i64 c, .string d] 120)).alloc (Obj.cells #[] 120)) 120 5 (.slice (some ⟨V0.heap.size + 1, 0, none⟩) 0 0) 0 [] from Row.empty (blk_at (by simp) _ [])))
  have ES3 := Lib.hid (Row.below HA.out EB3.out)
  have EN2 := Lib.hid (show Row (((V0.alloc (Obj.cells #[] 120)).alloc (Obj.cells #[.int .i64 (st.tks + 1), .int .i64 k, .int .i64 f, .int .i64 c, .string d] 120)).drew) 120 5 (.slice (some ⟨V0.heap.size + 1, 0, none⟩) 1 1) 1 [.int .i64 (st.tks + 1), .int .i64 k, .int .i64 f, .int .i64 c, .string d] from (show Row (((V0.alloc (Obj.cells #[] 120)).alloc (Obj.cells #[.int .i64 (st.tks + 1), .int .i64 k, .int .i64 f, .int .i64 c, .string d] 120))) 120 5 (.slice (some ⟨V0.heap.size + 1, 0, none⟩) 1 1) 1 [.int .i64 (st.tks + 1), .int .i64 k, .int .i64 f, .int .i64 c, .string d] from Row.one (blk_at (by simp) _ [.int .i64 (st.tks + 1), .int .i64 k, .int .i64 f, .int .i64 c, .string d]) rfl))
  have EN3 := Lib.hid (show Row (((V0.alloc (Obj.cells #[.int .i64 (st.tks + 1), .int .i64 k, .int .i64 f, .int .i64 c, .string d] 120)).alloc (Obj.cells #[] 120)).drew) 120 5 (.slice (some ⟨V0.heap.size, 0, none⟩) 1 1) 1 [.int .i64 (st.tks + 1), .int .i64 k, .int .i64 f, .int .i64 c, .string d] from (show Row (((V0.alloc (Obj.cells #[.int .i64 (st.tks + 1), .int .i64 k, .int .i64 f, .int .i64 c, .string d] 120)).alloc (Obj.cells #[] 120))) 120 5 (.slice (some ⟨V0.heap.size, 0, none⟩) 1 1) 1 [.int .i64 (st.tks + 1), .int .i64 k, .int .i64 f, .int .i64 c, .string d] from Row.one ((Blk.new V0 _ [.int .i64 (st.tks + 1), .int .i64 k, .int .i64 f, .int .i64 c, .string d]).alloc _) rfl))
  have ef : ∀ m c, Frsh V0.heap.size (.slice (some ⟨V0.heap.size, 0, none⟩) m c) := fun _ _ => Frsh.at_ (Nat.le_refl _)
  have ef' : ∀ m c, Frsh V0.heap.size (.slice (some ⟨V0.heap.size + 1, 0, none⟩) m c) := fun _ _ => Frsh.at_ (Nat.le_succ _)
  have u1 : ∀ (o : Obj) b i, b < V0.heap.size → (V0.alloc o).cell? ⟨b, i, none⟩ = V0.cell? ⟨b, i, none⟩ := fun o b i hb => World.cell?_alloc_lt V0 o ⟨b, i, none⟩ hb
  have u2 : ∀ (o o' : Obj) b i, b < V0.heap.size → ((V0.alloc o).alloc o').cell? ⟨b, i, none⟩ = V0.cell? ⟨b, i, none⟩ := fun o o' b i hb => (World.cell?_alloc_lt (V0.alloc o) o' ⟨b, i, none⟩ (by simp; omega)).trans (u1 o b i hb)
  have g5 : V0.cell? ⟨w.heap.size, 5, none⟩ = some (.int .i64 (st.tks + 1)) := JA.out.cell 5
  have x5 : ∀ o : Obj, (V0.alloc o).cell? ⟨w.heap.size, 5, none⟩ = some (.int .i64 (st.tks + 1)) := fun o => (u1 o _ _ JA.out.lt).trans g5
  have x5' : ∀ o o' : Obj, ((V0.alloc o).alloc o').cell? ⟨w.heap.size, 5, none⟩ = some (.int .i64 (st.tks + 1)) := fun o o' => (u2 o o' _ _ JA.out.lt).trans g5
  have g6 : V0.cell? ⟨w.heap.size, 6, none⟩ = some (.slice zaw st.ws.length zkw) := JA.out.cell 6
  have x6 : ∀ o : Obj, (V0.alloc o).cell? ⟨w.heap.size, 6, none⟩ = some (.slice zaw st.ws.length zkw) := fun o => (u1 o _ _ JA.out.lt).trans g6
  have x6' : ∀ o o' : Obj, ((V0.alloc o).alloc o').cell? ⟨w.heap.size, 6, none⟩ = some (.slice zaw st.ws.length zkw) := fun o o' => (u2 o o' _ _ JA.out.lt).trans g6
  have h0 : V0.cell? ⟨w.heap.size + 1, 0, none⟩ = some (.int .i64 k) := JB.out.cell 0
  have y0 : ∀ o : Obj, (V0.alloc o).cell? ⟨w.heap.size + 1, 0, none⟩ = some (.int .i64 k) := fun o => (u1 o _ _ JB.out.lt).trans h0
  have h1 : V0.cell? ⟨w.heap.size + 1, 1, none⟩ = some (.int .i64 f) := JB.out.cell 1
  have y1 : ∀ o : Obj, (V0.alloc o).cell? ⟨w.heap.size + 1, 1, none⟩ = some (.int .i64 f) := fun o => (u1 o _ _ JB.out.lt).trans h1
  have h2 : V0.cell? ⟨w.heap.size + 1, 2, none⟩ = some (.int .i64 c) := JB.out.cell 2
  have y2 : ∀ o : Obj, (V0.alloc o).cell? ⟨w.heap.size + 1, 2, none⟩ = some (.int .i64 c) := fun o => (u1 o _ _ JB.out.lt).trans h2
  have h3 : V0.cell? ⟨w.heap.size + 1, 3, none⟩ = some (.string d) := JB.out.cell 3
  have y3 : ∀ o : Obj, (V0.alloc o).cell? ⟨w.heap.size + 1, 3, none⟩ = some (.string d) := fun o => (u1 o _ _ JB.out.lt).trans h3
  clear u1 u2
  go_cut [] (fun wx => ∃ A C, Blk wx (w.heap.size) 60 [.int .i64 st.limit, .slice za0 st.q0.length zk0, .slice za1 st.q1.length zk1, .bool st.c0, .bool st.c1, .int .i64 (st.tks + 1), .slice A (st.ws.length + 1) C, .slice zaa st.ans.length zka] ∧ Blk wx (w.heap.size + 1 + 1) 60 [.int .i64 0, .slice none 0 0, .slice none 0 0, .bool false, .bool false, .int .i64 0, .slice none 0 0, .slice none 0 0] ∧ Row wx 120 5 (.slice A (st.ws.length + 1) C) (st.ws.length + 1) (rwsC st.ws ++ [.int .i64 (st.tks + 1), .int .i64 k, .int .i64 f, .int .i64 c, .string d]) ∧ Below w.heap.size w wx)
  case first =>
    have SB := Lib.hid (show ∀ W, Below V0.heap.size V0 W → (fun W => W.cell? ⟨w.heap.size, 5, none⟩ = some (.int .i64 (st.tks + 1)) ∧ W.cell? ⟨w.heap.size, 6, none⟩ = some (.slice zaw st.ws.length zkw) ∧ W.cell? ⟨w.heap.size + 1, 0, none⟩ = some (.int .i64 k) ∧ W.cell? ⟨w.heap.size + 1, 1, none⟩ = some (.int .i64 f) ∧ W.cell? ⟨w.heap.size + 1, 2, none⟩ = some (.int .i64 c) ∧ W.cell? ⟨w.heap.size + 1, 3, none⟩ = some (.string d)) W from fun W hb => ⟨(keepBlk hb JA.out).cell 5, (keepBlk hb JA.out).cell 6, (keepBlk hb JB.out).cell 0, (keepBlk hb JB.out).cell 1, (keepBlk hb JB.out).cell 2, (keepBlk hb JB.out).cell 3⟩)
    refine wp_region_x (fun W => W.cell? ⟨w.heap.size, 5, none⟩ = some (.int .i64 (st.tks + 1)) ∧ W.cell? ⟨w.heap.size, 6, none⟩ = some (.slice zaw st.ws.length zkw) ∧ W.cell? ⟨w.heap.size + 1, 0, none⟩ = some (.int .i64 k) ∧ W.cell? ⟨w.heap.size + 1, 1, none⟩ = some (.int .i64 f) ∧ W.cell? ⟨w.heap.size + 1, 2, none⟩ = some (.int .i64 c) ∧ W.cell? ⟨w.heap.size + 1, 3, none⟩ = some (.string d)) 11 (by kernel_rfl) ?_
    have hHeld := Lib.hid (show (fun W => W.cell? ⟨w.heap.size, 5, none⟩ = some (.int .i64 (st.tks + 1)) ∧ W.cell? ⟨w.heap.size, 6, none⟩ = some (.slice zaw st.ws.length zkw) ∧ W.cell? ⟨w.heap.size + 1, 0, none⟩ = some (.int .i64 k) ∧ W.cell? ⟨w.heap.size + 1, 1, none⟩ = some (.int .i64 f) ∧ W.cell? ⟨w.heap.size + 1, 2, none⟩ = some (.int .i64 c) ∧ W.cell? ⟨w.heap.size + 1, 3, none⟩ = some (.string d)) V0.drew from SB.out _ (Below.refl _ _).drew)
    refine wpAnyX_take (i := 1) (v := ?vv1) op1 (by kernel_rfl) (by kernel_rfl) (by kernel_rfl) (by kernel_rfl) (by kernel_rfl) (fun _ _ _ h => h) (Or.inl ⟨by rfl, ?hy1⟩) (hHeld.out) ?rest1
    case hy1 => intro w hSw; (try dsimp only at hSw); go_simp; (try with_reducible rfl)
    (try simp only [Act.put, List.setIfInBounds_toArray, List.set_cons_zero, List.set_cons_succ])
    refine wpAnyX_take (i := 2) (v := ?vv2) op2 (by kernel_rfl) (by kernel_rfl) (by kernel_rfl) (by kernel_rfl) (by kernel_rfl) (fun _ _ _ h => h) (Or.inl ⟨by rfl, ?hy2⟩) (hHeld.out) ?rest2
    case hy2 => intro w hSw; (try dsimp only at hSw); go_simp; (try with_reducible rfl)
    (try simp only [Act.put, List.setIfInBounds_toArray, List.set_cons_zero, List.set_cons_succ])
    refine wpAnyX_take (i := 4) (v := ?vv3) op4 (by kernel_rfl) (by kernel_rfl) (by kernel_rfl) (by kernel_rfl) (by kernel_rfl) (fun _ _ _ h => h) (Or.inl ⟨by rfl, ?hy3⟩) (hHeld.out) ?rest3
    case hy3 => intro w hSw; (try dsimp only at hSw); go_simp; (try with_reducible rfl)
    (try simp only [Act.put, List.setIfInBounds_toArray, List.set_cons_zero, List.set_cons_succ])
    refine wpAnyX_take (i := 5) (v := ?vv4) op5 (by kernel_rfl) (by kernel_rfl) (by kernel_rfl) (by kernel_rfl) (by kernel_rfl) (fun _ _ _ h => h) (Or.inl ⟨by rfl, ?hy4⟩) (hHeld.out) ?rest4
    case hy4 => intro w hSw; (try dsimp only at hSw); go_simp; (try with_reducible rfl)
    (try simp only [Act.put, List.setIfInBounds_toArray, List.set_cons_zero, List.set_cons_succ])
    refine wpAnyX_take (i := 6) (v := ?vv5) op6 (by kernel_rfl) (by kernel_rfl) (by kernel_rfl) (by kernel_rfl) (by kernel_rfl) (fun _ _ _ h => h) (Or.inl ⟨by rfl, ?hy5⟩) (hHeld.out) ?rest5
    case hy5 => intro w hSw; (try dsimp only at hSw); go_simp; (try with_reducible rfl)
    (try simp only [Act.put, List.setIfInBounds_toArray, List.set_cons_zero, List.set_cons_succ])
    refine wpAnyX_take (i := 7) (v := ?vv6) op7 (by kernel_rfl) (by kernel_rfl) (by kernel_rfl) (by kernel_rfl) (by kernel_rfl) (fun _ _ _ h => h) (Or.inl ⟨by rfl, ?hy6⟩) (hHeld.out) ?rest6
    case hy6 => intro w hSw; (try dsimp only at hSw); go_simp; (try with_reducible rfl)
    (try simp only [Act.put, List.setIfInBounds_toArray, List.set_cons_zero, List.set_cons_succ])
    refine wpAnyX_ready [0, 8] (by kernel_rfl) (by simp) ?_
    refine AllX.cons op0 (fun K hK => ?_) ?_
    · go_simp
      refine hK.out _ _ (fun _ => SB.out _ EB1.out) ?_
      clear hK K
      (try simp only [Act.put, List.setIfInBounds_toArray, List.set_cons_zero, List.set_cons_succ])
      refine wpAnyX_ready [3, 8] (by kernel_rfl) (by simp) ?_
      refine AllX.cons op3 (fun K hK => ?_) ?_
      · (refine step_append_n rfl (.tmp 34) (.tmp 36) 57 rfl 120 i0 _ 5 48 Try.underlying57 hi hz0 hz1 hz2 rfl (by omega) (v := .slice (some ⟨V0.heap.size, 0, none⟩) 0 0) rfl (u := .slice zaw st.ws.length zkw) rfl 0 [] ER1.out st.ws.length (rwsC st.ws) ES1.out (rwsC_one _) (by unfold maxLen; omega) (by omega) st.ws.length (Nat.zero_add _) EB1.out (ef _ _) ?_; intro A1 C1 w1 R1 F1 B1 G1; rw [List.nil_append] at R1; have NN := True.intro; clear G1; have e5 : w1.cell? ⟨w.heap.size, 5, none⟩ = some (.int .i64 (st.tks + 1)) := (keepBlk B1 JA.out).cell 5; have e0 : w1.cell? ⟨w.heap.size + 1, 0, none⟩ = some (.int .i64 k) := (keepBlk B1 JB.out).cell 0; have e1 : w1.cell? ⟨w.heap.size + 1, 1, none⟩ = some (.int .i64 f) := (keepBlk B1 JB.out).cell 1; have e2 : w1.cell? ⟨w.heap.size + 1, 2, none⟩ = some (.int .i64 c) := (keepBlk B1 JB.out).cell 2; have e3 : w1.cell? ⟨w.heap.size + 1, 3, none⟩ = some (.string d) := (keepBlk B1 JB.out).cell 3)
        refine hK.out _ _ (fun _ => SB.out _ B1) ?_
        clear hK K
        (try simp only [Act.put, List.setIfInBounds_toArray, List.set_cons_zero, List.set_cons_succ])
        refine wpAnyX_ready [8] (by kernel_rfl) (by simp) ?_
        refine AllX.cons op8 (fun K hK => ?_) AllX.nil
        · go_simp
          refine hK.out _ _ (fun _ => SB.out _ (B1.alloc B1.size _)) ?_
          clear hK K
          (try simp only [Act.put, List.setIfInBounds_toArray, List.set_cons_zero, List.set_cons_succ])
          refine wpAnyX_ready [9] (by kernel_rfl) (by simp) ?_
          refine AllX.cons op9 (fun K hK => ?_) AllX.nil
          · (refine step_append_n rfl (.tmp 37) (.tmp 42) 57 rfl 120 i0 _ 5 48 Try.underlying57 hi hz0 hz1 hz2 rfl (by omega) (v := .slice A1 st.ws.length C1) rfl (u := .slice (some ⟨w1.heap.size, 0, none⟩) 1 1) rfl st.ws.length (rwsC st.ws) (R1.below ((Below.refl _ _).alloc (Nat.le_refl _) _)) 1 [.int .i64 (st.tks + 1), .int .i64 k, .int .i64 f, .int .i64 c, .string d] (Row.one (Blk.new w1 _ [.int .i64 (st.tks + 1), .int .i64 k, .int .i64 f, .int .i64 c, .string d]) rfl) one2 (by unfold maxLen; omega) (by omega) (st.ws.length + 1) rfl (B1.alloc B1.size _) F1 ?_; intro A2 C2 w2 R2 F2 B2 G2; have p6 : w2.cell? ⟨w.heap.size, 6, none⟩ = some (.slice zaw st.ws.length zkw) := (keepBlk B2 JA.out).cell 6; have pf : w2.frozen? ⟨w.heap.size, 6, none⟩ = false := (keepBlk B2 JA.out).frozen 6; have BB2' := Lib.hid B2; have RR2 := Lib.hid R2; clear R2 F2 B2 G2 R1 F1 B1 NN)
            refine hK.out _ _ (fun _ => SB.out _ BB2'.out) ?_
            clear hK K
            (try simp only [Act.put, List.setIfInBounds_toArray, List.set_cons_zero, List.set_cons_succ])
            refine wpAnyX_ready [10] (by kernel_rfl) (by simp) ?_
            refine AllX.cons op10 (fun K hK => ?_) AllX.nil
            · go_simp
              refine hK.out _ _ (fun _ => SB.out _ BB2'.out) ?_
              clear hK K
              (try simp only [Act.put, List.setIfInBounds_toArray, List.set_cons_zero, List.set_cons_succ])
              refine wpAnyX_ready [11] (by kernel_rfl) (by simp) ?_
              refine AllX.cons op11 (fun K hK => ?_) AllX.nil
              · go_simp
                refine hK.out _ _ (fun h => absurd rfl h) ?_
                clear hK K
                (try simp only [Act.put, List.setIfInBounds_toArray, List.set_cons_zero, List.set_cons_succ])
                refine wpAnyX_done (by kernel_rfl) ?_ _
                refine (show ∀ a' w', Met _ a' w' → _ from by assumption) _ _ ?_
                refine Met.intro ?_
                refine (show ∀ a' w', _ → _ from by assumption) _ _ ?_
                (repeat apply Exists.intro)
                refine ⟨?_, rfl⟩
                exact ⟨A2, C2, (keepBlk BB2'.out JA.out).set_ 6 _, (keepBlk BB2'.out JC.out).far (show w.heap.size + 1 + 1 ≠ w.heap.size by omega) _, RR2.out.set_ (RR2.out.ne (keepBlk BB2'.out JA.out) (by decide)) _, (keepBelow BV.out BB2'.out).setCell (Nat.le_refl _) _⟩
      refine AllX.cons op8 (fun K hK => ?_) AllX.nil
      · go_simp
        refine hK.out _ _ (fun _ => SB.out _ EB2.out) ?_
        clear hK K
        (try simp only [Act.put, List.setIfInBounds_toArray, List.set_cons_zero, List.set_cons_succ])
        refine wpAnyX_ready [3] (by kernel_rfl) (by simp) ?_
        refine AllX.cons op3 (fun K hK => ?_) AllX.nil
        · (refine step_append_n rfl (.tmp 34) (.tmp 36) 57 rfl 120 i0 _ 5 48 Try.underlying57 hi hz0 hz1 hz2 rfl (by omega) (v := .slice (some ⟨V0.heap.size, 0, none⟩) 0 0) rfl (u := .slice zaw st.ws.length zkw) rfl 0 [] ER2.out st.ws.length (rwsC st.ws) ES2.out (rwsC_one _) (by unfold maxLen; omega) (by omega) st.ws.length (Nat.zero_add _) EB2.out (ef _ _) ?_; intro A1 C1 w1 R1 F1 B1 G1; rw [List.nil_append] at R1; have NN := Lib.hid (EN2.out.grown G1 (by simp [Value.ownBlock])); clear G1; have e5 : w1.cell? ⟨w.heap.size, 5, none⟩ = some (.int .i64 (st.tks + 1)) := (keepBlk B1 JA.out).cell 5; have e0 : w1.cell? ⟨w.heap.size + 1, 0, none⟩ = some (.int .i64 k) := (keepBlk B1 JB.out).cell 0; have e1 : w1.cell? ⟨w.heap.size + 1, 1, none⟩ = some (.int .i64 f) := (keepBlk B1 JB.out).cell 1; have e2 : w1.cell? ⟨w.heap.size + 1, 2, none⟩ = some (.int .i64 c) := (keepBlk B1 JB.out).cell 2; have e3 : w1.cell? ⟨w.heap.size + 1, 3, none⟩ = some (.string d) := (keepBlk B1 JB.out).cell 3)
          refine hK.out _ _ (fun _ => SB.out _ B1) ?_
          clear hK K
          (try simp only [Act.put, List.setIfInBounds_toArray, List.set_cons_zero, List.set_cons_succ])
          refine wpAnyX_ready [9] (by kernel_rfl) (by simp) ?_
          refine AllX.cons op9 (fun K hK => ?_) AllX.nil
          · (refine step_append_n rfl (.tmp 37) (.tmp 42) 57 rfl 120 i0 _ 5 48 Try.underlying57 hi hz0 hz1 hz2 rfl (by omega) (v := .slice A1 st.ws.length C1) rfl (u := .slice (some ⟨V0.heap.size + 1, 0, none⟩) 1 1) rfl st.ws.length (rwsC st.ws) R1 1 [.int .i64 (st.tks + 1), .int .i64 k, .int .i64 f, .int .i64 c, .string d] NN.out one2 (by unfold maxLen; omega) (by omega) (st.ws.length + 1) rfl B1 F1 ?_; intro A2 C2 w2 R2 F2 B2 G2; have p6 : w2.cell? ⟨w.heap.size, 6, none⟩ = some (.slice zaw st.ws.length zkw) := (keepBlk B2 JA.out).cell 6; have pf : w2.frozen? ⟨w.heap.size, 6, none⟩ = false := (keepBlk B2 JA.out).frozen 6; have BB2' := Lib.hid B2; have RR2 := Lib.hid R2; clear R2 F2 B2 G2 R1 F1 B1 NN)
            refine hK.out _ _ (fun _ => SB.out _ BB2'.out) ?_
            clear hK K
            (try simp only [Act.put, List.setIfInBounds_toArray, List.set_cons_zero, List.set_cons_succ])
            refine wpAnyX_ready [10] (by kernel_rfl) (by simp) ?_
            refine AllX.cons op10 (fun K hK => ?_) AllX.nil
            · go_simp
              refine hK.out _ _ (fun _ => SB.out _ BB2'.out) ?_
              clear hK K
              (try simp only [Act.put, List.setIfInBounds_toArray, List.set_cons_zero, List.set_cons_succ])
              refine wpAnyX_ready [11] (by kernel_rfl) (by simp) ?_
              refine AllX.cons op11 (fun K hK => ?_) AllX.nil
              · go_simp
                refine hK.out _ _ (fun h => absurd rfl h) ?_
                clear hK K
                (try simp only [Act.put, List.setIfInBounds_toArray, List.set_cons_zero, List.set_cons_succ])
                refine wpAnyX_done (by kernel_rfl) ?_ _
                refine (show ∀ a' w', Met _ a' w' → _ from by assumption) _ _ ?_
                refine Met.intro ?_
                refine (show ∀ a' w', _ → _ from by assumption) _ _ ?_
                (repeat apply Exists.intro)
                refine ⟨?_, rfl⟩
                exact ⟨A2, C2, (keepBlk BB2'.out JA.out).set_ 6 _, (keepBlk BB2'.out JC.out).far (show w.heap.size + 1 + 1 ≠ w.heap.size by omega) _, RR2.out.set_ (RR2.out.ne (keepBlk BB2'.out JA.out) (by decide)) _, (keepBelow BV.out BB2'.out).setCell (Nat.le_refl _) _⟩
    refine AllX.cons op8 (fun K hK => ?_) AllX.nil
    · go_simp
      refine hK.out _ _ (fun _ => SB.out _ ((Below.refl _ _).alloc (Nat.le_refl _) _).drew) ?_
      clear hK K
      (try simp only [Act.put, List.setIfInBounds_toArray, List.set_cons_zero, List.set_cons_succ])
      refine wpAnyX_ready [0] (by kernel_rfl) (by simp) ?_
      refine AllX.cons op0 (fun K hK => ?_) AllX.nil
      · go_simp
        refine hK.out _ _ (fun _ => SB.out _ EB3.out) ?_
        clear hK K
        (try simp only [Act.put, List.setIfInBounds_toArray, List.set_cons_zero, List.set_cons_succ])
        refine wpAnyX_ready [3] (by kernel_rfl) (by simp) ?_
        refine AllX.cons op3 (fun K hK => ?_) AllX.nil
        · (refine step_append_n rfl (.tmp 34) (.tmp 36) 57 rfl 120 i0 _ 5 48 Try.underlying57 hi hz0 hz1 hz2 rfl (by omega) (v := .slice (some ⟨V0.heap.size + 1, 0, none⟩) 0 0) rfl (u := .slice zaw st.ws.length zkw) rfl 0 [] ER3.out st.ws.length (rwsC st.ws) ES3.out (rwsC_one _) (by unfold maxLen; omega) (by omega) st.ws.length (Nat.zero_add _) EB3.out (ef' _ _) ?_; intro A1 C1 w1 R1 F1 B1 G1; rw [List.nil_append] at R1; have NN := Lib.hid (EN3.out.grown G1 (by simp [Value.ownBlock])); clear G1; have e5 : w1.cell? ⟨w.heap.size, 5, none⟩ = some (.int .i64 (st.tks + 1)) := (keepBlk B1 JA.out).cell 5; have e0 : w1.cell? ⟨w.heap.size + 1, 0, none⟩ = some (.int .i64 k) := (keepBlk B1 JB.out).cell 0; have e1 : w1.cell? ⟨w.heap.size + 1, 1, none⟩ = some (.int .i64 f) := (keepBlk B1 JB.out).cell 1; have e2 : w1.cell? ⟨w.heap.size + 1, 2, none⟩ = some (.int .i64 c) := (keepBlk B1 JB.out).cell 2; have e3 : w1.cell? ⟨w.heap.size + 1, 3, none⟩ = some (.string d) := (keepBlk B1 JB.out).cell 3)
          refine hK.out _ _ (fun _ => SB.out _ B1) ?_
          clear hK K
          (try simp only [Act.put, List.setIfInBounds_toArray, List.set_cons_zero, List.set_cons_succ])
          refine wpAnyX_ready [9] (by kernel_rfl) (by simp) ?_
          refine AllX.cons op9 (fun K hK => ?_) AllX.nil
          · (refine step_append_n rfl (.tmp 37) (.tmp 42) 57 rfl 120 i0 _ 5 48 Try.underlying57 hi hz0 hz1 hz2 rfl (by omega) (v := .slice A1 st.ws.length C1) rfl (u := .slice (some ⟨V0.heap.size, 0, none⟩) 1 1) rfl st.ws.length (rwsC st.ws) R1 1 [.int .i64 (st.tks + 1), .int .i64 k, .int .i64 f, .int .i64 c, .string d] NN.out one2 (by unfold maxLen; omega) (by omega) (st.ws.length + 1) rfl B1 F1 ?_; intro A2 C2 w2 R2 F2 B2 G2; have p6 : w2.cell? ⟨w.heap.size, 6, none⟩ = some (.slice zaw st.ws.length zkw) := (keepBlk B2 JA.out).cell 6; have pf : w2.frozen? ⟨w.heap.size, 6, none⟩ = false := (keepBlk B2 JA.out).frozen 6; have BB2' := Lib.hid B2; have RR2 := Lib.hid R2; clear R2 F2 B2 G2 R1 F1 B1 NN)
            refine hK.out _ _ (fun _ => SB.out _ BB2'.out) ?_
            clear hK K
            (try simp only [Act.put, List.setIfInBounds_toArray, List.set_cons_zero, List.set_cons_succ])
            refine wpAnyX_ready [10] (by kernel_rfl) (by simp) ?_
            refine AllX.cons op10 (fun K hK => ?_) AllX.nil
            · go_simp
              refine hK.out _ _ (fun _ => SB.out _ BB2'.out) ?_
              clear hK K
              (try simp only [Act.put, List.setIfInBounds_toArray, List.set_cons_zero, List.set_cons_succ])
              refine wpAnyX_ready [11] (by kernel_rfl) (by simp) ?_
              refine AllX.cons op11 (fun K hK => ?_) AllX.nil
              · go_simp
                refine hK.out _ _ (fun h => absurd rfl h) ?_
                clear hK K
                (try simp only [Act.put, List.setIfInBounds_toArray, List.set_cons_zero, List.set_cons_succ])
                refine wpAnyX_done (by kernel_rfl) ?_ _
                refine (show ∀ a' w', Met _ a' w' → _ from by assumption) _ _ ?_
                refine Met.intro ?_
                refine (show ∀ a' w', _ → _ from by assumption) _ _ ?_
                (repeat apply Exists.intro)
                refine ⟨?_, rfl⟩
                exact ⟨A2, C2, (keepBlk BB2'.out JA.out).set_ 6 _, (keepBlk BB2'.out JC.out).far (show w.heap.size + 1 + 1 ≠ w.heap.size by omega) _, RR2.out.set_ (RR2.out.ne (keepBlk BB2'.out JA.out) (by decide)) _, (keepBelow BV.out BB2'.out).setCell (Nat.le_refl _) _⟩
  case rest =>
    obtain ⟨A, C, hKA, hKC, hRow, hBel⟩ := hcut
    have MA := Lib.hid hKA
    have MC := Lib.hid hKC
    have MR := Lib.hid hRow
    have ML := Lib.hid hBel
    clear hKA hKC hRow hBel ef ef' x5 x5' x6 x6' g5 g6 y0 y1 y2 y3 h0 h1 h2 h3
    have g0 : wc.cell? ⟨w.heap.size, 0, none⟩ = some (.int .i64 st.limit) := MA.out.cell 0
    have g1 : wc.cell? ⟨w.heap.size, 1, none⟩ = some (.slice za0 st.q0.length zk0) := MA.out.cell 1
    have g2 : wc.cell? ⟨w.heap.size, 2, none⟩ = some (.slice za1 st.q1.length zk1) := MA.out.cell 2
    have g3 : wc.cell? ⟨w.heap.size, 3, none⟩ = some (.bool st.c0) := MA.out.cell 3
    have g4 : wc.cell? ⟨w.heap.size, 4, none⟩ = some (.bool st.c1) := MA.out.cell 4
    have g5 : wc.cell? ⟨w.heap.size, 5, none⟩ = some (.int .i64 (st.tks + 1)) := MA.out.cell 5
    have g6 : wc.cell? ⟨w.heap.size, 6, none⟩ = some (.slice A (st.ws.length + 1) C) := MA.out.cell 6
    have g7 : wc.cell? ⟨w.heap.size, 7, none⟩ = some (.slice zaa st.ans.length zka) := MA.out.cell 7
    have z0 : wc.cell? ⟨w.heap.size + 1 + 1, 0, none⟩ = some (.int .i64 0) := MC.out.cell 0
    have z1 : wc.cell? ⟨w.heap.size + 1 + 1, 1, none⟩ = some (.slice none 0 0) := MC.out.cell 1
    have z2 : wc.cell? ⟨w.heap.size + 1 + 1, 2, none⟩ = some (.slice none 0 0) := MC.out.cell 2
    have z3 : wc.cell? ⟨w.heap.size + 1 + 1, 3, none⟩ = some (.bool false) := MC.out.cell 3
    have z4 : wc.cell? ⟨w.heap.size + 1 + 1, 4, none⟩ = some (.bool false) := MC.out.cell 4
    have z5 : wc.cell? ⟨w.heap.size + 1 + 1, 5, none⟩ = some (.int .i64 0) := MC.out.cell 5
    have z6 : wc.cell? ⟨w.heap.size + 1 + 1, 6, none⟩ = some (.slice none 0 0) := MC.out.cell 6
    have z7 : wc.cell? ⟨w.heap.size + 1 + 1, 7, none⟩ = some (.slice none 0 0) := MC.out.cell 7
    have zf := fun i => MC.out.frozen i
    have HRR : Hid (∀ W, Below w.heap.size w W → Row W 120 5 (.slice A (st.ws.length + 1) C) (st.ws.length + 1) (rwsC st.ws ++ [.int .i64 (st.tks + 1), .int .i64 k, .int .i64 f, .int .i64 c, .string d]) → Ref F W ⟨.slice za0 st.q0.length zk0, .slice za1 st.q1.length zk1, .slice A (st.ws.length + 1) C, .slice zaa st.ans.length zka⟩ (⟨st.q0, st.q1, st.c0, st.c1, st.limit, st.tks + 1, st.ws ++ [(⟨⟨k, f, c, d⟩, st.tks + 1⟩ : Wt)], st.ans⟩ : St)) := Lib.hid (fun W hb hr => ⟨(XW.out.below hb).r0, (XW.out.below hb).r1, by show Row W 120 5 _ (st.ws ++ [_]).length (rwsC (st.ws ++ [_])); rw [List.length_append, rwsC_append]; exact hr, (XW.out.below hb).ra, (XW.out.below hb).o⟩)
    have nz : w.heap.size ≠ w.heap.size + 1 + 1 := by omega
    go_upto_region 9 with fail
    go_region_held3 (fun W => W.cell? ⟨w.heap.size, 0, none⟩ = some (.int .i64 st.limit) ∧ W.cell? ⟨w.heap.size, 1, none⟩ = some (.slice za0 st.q0.length zk0) ∧ W.cell? ⟨w.heap.size, 2, none⟩ = some (.slice za1 st.q1.length zk1) ∧ W.cell? ⟨w.heap.size, 3, none⟩ = some (.bool st.c0) ∧ W.cell? ⟨w.heap.size, 4, none⟩ = some (.bool st.c1) ∧ W.cell? ⟨w.heap.size, 5, none⟩ = some (.int .i64 (st.tks + 1)) ∧ W.cell? ⟨w.heap.size, 6, none⟩ = some (.slice A (st.ws.length + 1) C) ∧ W.cell? ⟨w.heap.size, 7, none⟩ = some (.slice zaa st.ans.length zka)) (first | with_reducible exact ⟨q0, q1, q2, q3, q4, q5, q6, q7⟩ | with_reducible exact ⟨(far8 nz _ _ _ _ _ _ _ _ _).trans q0, (far8 nz _ _ _ _ _ _ _ _ _).trans q1, (far8 nz _ _ _ _ _ _ _ _ _).trans q2, (far8 nz _ _ _ _ _ _ _ _ _).trans q3, (far8 nz _ _ _ _ _ _ _ _ _).trans q4, (far8 nz _ _ _ _ _ _ _ _ _).trans q5, (far8 nz _ _ _ _ _ _ _ _ _).trans q6, (far8 nz _ _ _ _ _ _ _ _ _).trans q7⟩ | go_keep) (first
      | (go_at_call 66; refine (C66.out ⟨.slice za0 st.q0.length zk0, .slice za1 st.q1.length zk1, .slice A (st.ws.length + 1) C, .slice zaa st.ans.length zka⟩ _ (HRR.out _ ML.out.drew MR.out.drew)).mono ?_; rintro e u ⟨S4, he4, R4, hb⟩; obtain ⟨ta0, tk0, ta1, tk1, taw, tkw, taa, tka, rfl⟩ := R4.open; (try unfold rpV at he4); (try dsimp only at he4); subst he4; have HR4 := Lib.hid R4; have BB4 := Lib.hid (keepBelow ML.out.drew hb); have NA := Lib.hid (keepBlk hb MA.out.drew); have q0 : u.cell? ⟨w.heap.size, 0, none⟩ = some (.int .i64 st.limit) := NA.out.cell 0; have q1 : u.cell? ⟨w.heap.size, 1, none⟩ = some (.slice za0 st.q0.length zk0) := NA.out.cell 1; have q2 : u.cell? ⟨w.heap.size, 2, none⟩ = some (.slice za1 st.q1.length zk1) := NA.out.cell 2; have q3 : u.cell? ⟨w.heap.size, 3, none⟩ = some (.bool st.c0) := NA.out.cell 3; have q4 : u.cell? ⟨w.heap.size, 4, none⟩ = some (.bool st.c1) := NA.out.cell 4; have q5 : u.cell? ⟨w.heap.size, 5, none⟩ = some (.int .i64 (st.tks + 1)) := NA.out.cell 5; have q6 : u.cell? ⟨w.heap.size, 6, none⟩ = some (.slice A (st.ws.length + 1) C) := NA.out.cell 6; have q7 : u.cell? ⟨w.heap.size, 7, none⟩ = some (.slice zaa st.ans.length zka) := NA.out.cell 7; have NC := Lib.hid (keepBlk hb MC.out.drew); have n0 : u.cell? ⟨w.heap.size + 1 + 1, 0, none⟩ = some (.int .i64 0) := NC.out.cell 0; have n1 : u.cell? ⟨w.heap.size + 1 + 1, 1, none⟩ = some (.slice none 0 0) := NC.out.cell 1; have n2 : u.cell? ⟨w.heap.size + 1 + 1, 2, none⟩ = some (.slice none 0 0) := NC.out.cell 2; have n3 : u.cell? ⟨w.heap.size + 1 + 1, 3, none⟩ = some (.bool false) := NC.out.cell 3; have n4 : u.cell? ⟨w.heap.size + 1 + 1, 4, none⟩ = some (.bool false) := NC.out.cell 4; have n5 : u.cell? ⟨w.heap.size + 1 + 1, 5, none⟩ = some (.int .i64 0) := NC.out.cell 5; have n6 : u.cell? ⟨w.heap.size + 1 + 1, 6, none⟩ = some (.slice none 0 0) := NC.out.cell 6; have n7 : u.cell? ⟨w.heap.size + 1 + 1, 7, none⟩ = some (.slice none 0 0) := NC.out.cell 7; have nf := fun i => NC.out.frozen i; clear hb R4))
    all_goals
      obtain ⟨o1, o2, o3, o4⟩ := put8 NC.out (.int .i64 (settle (⟨st.q0, st.q1, st.c0, st.c1, st.limit, st.tks + 1, st.ws ++ [(⟨⟨k, f, c, d⟩, st.tks + 1⟩ : Wt)], st.ans⟩ : St)).limit) (.slice ta0 (settle (⟨st.q0, st.q1, st.c0, st.c1, st.limit, st.tks + 1, st.ws ++ [(⟨⟨k, f, c, d⟩, st.tks + 1⟩ : Wt)], st.ans⟩ : St)).q0.length tk0) (.slice ta1 (settle (⟨st.q0, st.q1, st.c0, st.c1, st.limit, st.tks + 1, st.ws ++ [(⟨⟨k, f, c, d⟩, st.tks + 1⟩ : Wt)], st.ans⟩ : St)).q1.length tk1) (.bool (settle (⟨st.q0, st.q1, st.c0, st.c1, st.limit, st.tks + 1, st.ws ++ [(⟨⟨k, f, c, d⟩, st.tks + 1⟩ : Wt)], st.ans⟩ : St)).c0) (.bool (settle (⟨st.q0, st.q1, st.c0, st.c1, st.limit, st.tks + 1, st.ws ++ [(⟨⟨k, f, c, d⟩, st.tks + 1⟩ : Wt)], st.ans⟩ : St)).c1) (.int .i64 (settle (⟨st.q0, st.q1, st.c0, st.c1, st.limit, st.tks + 1, st.ws ++ [(⟨⟨k, f, c, d⟩, st.tks + 1⟩ : Wt)], st.ans⟩ : St)).tks) (.slice taw (settle (⟨st.q0, st.q1, st.c0, st.c1, st.limit, st.tks + 1, st.ws ++ [(⟨⟨k, f, c, d⟩, st.tks + 1⟩ : Wt)], st.ans⟩ : St)).ws.length tkw) (.slice taa (settle (⟨st.q0, st.q1, st.c0, st.c1, st.limit, st.tks + 1, st.ws ++ [(⟨⟨k, f, c, d⟩, st.tks + 1⟩ : Wt)], st.ans⟩ : St)).ans.length tka)
      have hb := o3 BB4.out (show w.heap.size ≤ w.heap.size + 1 + 1 by omega)
      go_wp2_with fail
      exact bodyPost_ret (res60_2 rfl _ _ (w.heap.size + 1 + 1) _ _ _ _ _ _ _ _ _ _ rfl rfl rfl o1) rfl ⟨⟨.slice ta0 (settle (⟨st.q0, st.q1, st.c0, st.c1, st.limit, st.tks + 1, st.ws ++ [(⟨⟨k, f, c, d⟩, st.tks + 1⟩ : Wt)], st.ans⟩ : St)).q0.length tk0, .slice ta1 (settle (⟨st.q0, st.q1, st.c0, st.c1, st.limit, st.tks + 1, st.ws ++ [(⟨⟨k, f, c, d⟩, st.tks + 1⟩ : Wt)], st.ans⟩ : St)).q1.length tk1, .slice taw (settle (⟨st.q0, st.q1, st.c0, st.c1, st.limit, st.tks + 1, st.ws ++ [(⟨⟨k, f, c, d⟩, st.tks + 1⟩ : Wt)], st.ans⟩ : St)).ws.length tkw, .slice taa (settle (⟨st.q0, st.q1, st.c0, st.c1, st.limit, st.tks + 1, st.ws ++ [(⟨⟨k, f, c, d⟩, st.tks + 1⟩ : Wt)], st.ans⟩ : St)).ans.length tka⟩, rfl, ⟨o2 HR4.out.r0 (by decide), o2 HR4.out.r1 (by decide), o2 HR4.out.rw_ (by decide), o2 HR4.out.ra (by decide), HR4.out.o.to (o3 (Below.refl 0 _) (Nat.zero_le _)).size⟩, hb⟩
end Go.Proofs.Ytmnlojbfdpjjdaa
