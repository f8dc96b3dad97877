/- The reference: do. -/
import Derived.Test.YtmnlojbfdpjjdaaR6
namespace Go.Proofs.Ytmnlojbfdpjjdaa
open Go.RowKit
variable {F : Nat → Prop}
theorem Ref.drew {w : World} {S : Sl} {st : St} (h : Ref F w S st) : Ref F w.drew S st := ⟨h.r0.keep fun _ _ => rfl, h.r1.keep fun _ _ => rfl, h.rw_.keep fun _ _ => rfl, h.ra.keep fun _ _ => rfl, h.o.to (Nat.le_refl _)⟩
theorem Blk.drew {w : World} {g : Nat} {t : TypeId} {cs : List Value} (h : Blk w g t cs) : Blk w.drew g t cs := h
theorem Row.drew {w : World} {e size n : Nat} {v : Value} {xs : List Value} (h : Row w e size v n xs) : Row w.drew e size v n xs := h.keep fun _ _ => rfl
section
variable {P : Program} {w : World}
/-- the two laws with the new length under a name -/
theorem step_append_n {ops : Array Oper} {o : Oper} {a : Act} {K : Act → World → Prop} {Q : Exit → Act → World → Prop} {E : Prop} (hgd : o.guard = none) (s x : Operand) (t : TypeId)
    (ho : o.op = .call { callee := .builtin .append, args := #[s, x], argTypes := #[t, t] })
    (e : TypeId) (i : TypeInfo) (z : Value) (size bytes : Nat) (ht : P.underlying t = some (.slice e)) (hi : P.info? e = some i) (hz : i.zero = some z)
    (hsize : i.size = size) (hby : i.bytes = bytes) (hzs : z.cells.size = size) (hsz : 0 < size)
    {v : Value} (hs : a.eval s = v) {u : Value} (hx : a.eval x = u) (n : Nat) (xs : List Value) (hrow : Row w e size v n xs) (m : Nat) (ys : List Value) (hsrc : Row w e size u m ys) (h1 : ∀ c ∈ ys, c.oneCell' = true)
    (h63 : n + m ≤ maxLen) (hbytes : (n + m) * bytes ≤ 140737488355328)
    (N : Nat) (hN : n + m = N) {w0 : World} (hb : Below w0.heap.size w0 w) (hf : Frsh w0.heap.size v)
    (h : ∀ A C w', Row w' e size (.slice A N C) N (xs ++ ys) → Frsh w0.heap.size (.slice A N C) → Below w0.heap.size w0 w' → w.grownBy w' v.ownBlock → K (a.put o.dst (.slice A N C)) w') :
    if Region.wanted o (yielded ops a.tmps) = true then Oper.wp P o a w K Q else E := by
  subst hN
  exact step_append_rows hgd s x t ho e i z size bytes ht hi hz hsize hby hzs hsz hs hx n xs hrow m ys hsrc h1 h63 hbytes hb hf h
theorem list_append_n {ops : Array Oper} {rest : List Oper} {o : Oper} {a : Act} {Q : Exit → Act → World → Prop} (hgd : o.guard = none) (s x : Operand) (t : TypeId)
    (ho : o.op = .call { callee := .builtin .append, args := #[s, x], argTypes := #[t, t] })
    (e : TypeId) (i : TypeInfo) (z : Value) (size bytes : Nat) (ht : P.underlying t = some (.slice e)) (hi : P.info? e = some i) (hz : i.zero = some z)
    (hsize : i.size = size) (hby : i.bytes = bytes) (hzs : z.cells.size = size) (hsz : 0 < size)
    {v : Value} (hs : a.eval s = v) {u : Value} (hx : a.eval x = u) (n : Nat) (xs : List Value) (hrow : Row w e size v n xs) (m : Nat) (ys : List Value) (hsrc : Row w e size u m ys) (h1 : ∀ c ∈ ys, c.oneCell' = true)
    (h63 : n + m ≤ maxLen) (hbytes : (n + m) * bytes ≤ 140737488355328)
    (N : Nat) (hN : n + m = N) {w0 : World} (hb : Below w0.heap.size w0 w) (hf : Frsh w0.heap.size v)
    (h : ∀ A C w', Row w' e size (.slice A N C) N (xs ++ ys) → Frsh w0.heap.size (.slice A N C) → Below w0.heap.size w0 w' → w.grownBy w' v.ownBlock → wpList P ops Q rest (a.put o.dst (.slice A N C)) w') : wpList P ops Q (o :: rest) a w := by
  subst hN
  exact list_append_rows hgd s x t ho e i z size bytes ht hi hz hsize hby hzs hsz hs hx n xs hrow m ys hsrc h1 h63 hbytes hb hf h
end
/-- what `do` says -/
def DoSays (F : Nat → Prop) (w : World) (st' : St) (d : ByteArray) (n : Int) (e : Ending) (w' : World) : Prop := ∃ S', e = .returned (.tuple #[rpV S' st', .string d, .int .i64 n]) ∧ Ref F w' S' st' ∧ Below w.heap.size w w'
set_option maxRecDepth 100000 in
set_option maxHeartbeats 1600000 in
theorem rdo_empty (x : Op) (hx : OpIn x) (he : emptyB x = true) (S : Sl) (st : St) (w : World) (hR : Ref F w S st) :
    Calls Try.prog 67 #[rpV S st, opV x] w (DoSays F w st ⟨#[]⟩ 0) := by
  have C79 := Lib.hid (fun W => rnothing_any x hx W)
  rw [he] at C79
  obtain ⟨a0, k0, a1, k1, aw, kw, aa, ka, rfl⟩ := hR.open
  obtain ⟨k, f, c, d⟩ := x
  unfold rpV
  unfold opV at *
  have XW := Lib.hid hR
  have BW := Lib.hid (show Below w.heap.size w (((w.alloc (.cells #[.int .i64 st.limit, .slice a0 st.q0.length k0, .slice a1 st.q1.length k1, .bool st.c0, .bool st.c1, .int .i64 st.tks, .slice aw st.ws.length kw, .slice aa st.ans.length ka] 60)).alloc (.cells #[.int .i64 k, .int .i64 f, .int .i64 c, .string d] 107)).alloc (.cells #[.int .i64 0, .slice none 0 0, .slice none 0 0, .bool false, .bool false, .int .i64 0, .slice none 0 0, .slice none 0 0] 60)) from (((Below.refl _ _).alloc (Nat.le_refl _) _).alloc (by simp) _).alloc (by simp; omega) _)
  have KA := Lib.hid (show Blk (((w.alloc (.cells #[.int .i64 st.limit, .slice a0 st.q0.length k0, .slice a1 st.q1.length k1, .bool st.c0, .bool st.c1, .int .i64 st.tks, .slice aw st.ws.length kw, .slice aa st.ans.length ka] 60)).alloc (.cells #[.int .i64 k, .int .i64 f, .int .i64 c, .string d] 107)).alloc (.cells #[.int .i64 0, .slice none 0 0, .slice none 0 0, .bool false, .bool false, .int .i64 0, .slice none 0 0, .slice none 0 0] 60)) (w.heap.size) 60 [.int .i64 st.limit, .slice a0 st.q0.length k0, .slice a1 st.q1.length k1, .bool st.c0, .bool st.c1, .int .i64 st.tks, .slice aw st.ws.length kw, .slice aa st.ans.length ka] from ((Blk.new w 60 _).alloc _).alloc _)
  have KB := Lib.hid (show Blk (((w.alloc (.cells #[.int .i64 st.limit, .slice a0 st.q0.length k0, .slice a1 st.q1.length k1, .bool st.c0, .bool st.c1, .int .i64 st.tks, .slice aw st.ws.length kw, .slice aa st.ans.length ka] 60)).alloc (.cells #[.int .i64 k, .int .i64 f, .int .i64 c, .string d] 107)).alloc (.cells #[.int .i64 0, .slice none 0 0, .slice none 0 0, .bool false, .bool false, .int .i64 0, .slice none 0 0, .slice none 0 0] 60)) (w.heap.size + 1) 107 [.int .i64 k, .int .i64 f, .int .i64 c, .string d] from (blk_at (by simp) 107 [_, _, _, _]).alloc _)
  have KC := Lib.hid (show Blk (((w.alloc (.cells #[.int .i64 st.limit, .slice a0 st.q0.length k0, .slice a1 st.q1.length k1, .bool st.c0, .bool st.c1, .int .i64 st.tks, .slice aw st.ws.length kw, .slice aa st.ans.length ka] 60)).alloc (.cells #[.int .i64 k, .int .i64 f, .int .i64 c, .string d] 107)).alloc (.cells #[.int .i64 0, .slice none 0 0, .slice none 0 0, .bool false, .bool false, .int .i64 0, .slice none 0 0, .slice none 0 0] 60)) (w.heap.size + 1 + 1) 60 [.int .i64 0, .slice none 0 0, .slice none 0 0, .bool false, .bool false, .int .i64 0, .slice none 0 0, .slice none 0 0] from blk_at (by simp) 60 [_, _, _, _, _, _, _, _])
  clear hR he hx
  go_enter Try.func67, Try.ntmps67
  go_wp2_with (go_at_call 79; refine (C79.out _).mono ?_; rintro e V0 ⟨rfl, hb⟩; have JA := Lib.hid (keepBlk hb KA.out); have ja0 : V0.cell? ⟨w.heap.size, 0, none⟩ = some (.int .i64 st.limit) := JA.out.cell 0; have ja1 : V0.cell? ⟨w.heap.size, 1, none⟩ = some (.slice a0 st.q0.length k0) := JA.out.cell 1; have ja2 : V0.cell? ⟨w.heap.size, 2, none⟩ = some (.slice a1 st.q1.length k1) := JA.out.cell 2; have ja3 : V0.cell? ⟨w.heap.size, 3, none⟩ = some (.bool st.c0) := JA.out.cell 3; have ja4 : V0.cell? ⟨w.heap.size, 4, none⟩ = some (.bool st.c1) := JA.out.cell 4; have ja5 : V0.cell? ⟨w.heap.size, 5, none⟩ = some (.int .i64 st.tks) := JA.out.cell 5; have ja6 : V0.cell? ⟨w.heap.size, 6, none⟩ = some (.slice aw st.ws.length kw) := JA.out.cell 6; have ja7 : V0.cell? ⟨w.heap.size, 7, none⟩ = some (.slice aa st.ans.length ka) := JA.out.cell 7; have JB := Lib.hid (keepBlk hb KB.out); have jb0 : V0.cell? ⟨w.heap.size + 1, 0, none⟩ = some (.int .i64 k) := JB.out.cell 0; have jb1 : V0.cell? ⟨w.heap.size + 1, 1, none⟩ = some (.int .i64 f) := JB.out.cell 1; have jb2 : V0.cell? ⟨w.heap.size + 1, 2, none⟩ = some (.int .i64 c) := JB.out.cell 2; have jb3 : V0.cell? ⟨w.heap.size + 1, 3, none⟩ = some (.string d) := JB.out.cell 3; have JC := Lib.hid (keepBlk hb KC.out); have jc0 : V0.cell? ⟨w.heap.size + 1 + 1, 0, none⟩ = some (.int .i64 0) := JC.out.cell 0; have jc1 : V0.cell? ⟨w.heap.size + 1 + 1, 1, none⟩ = some (.slice none 0 0) := JC.out.cell 1; have jc2 : V0.cell? ⟨w.heap.size + 1 + 1, 2, none⟩ = some (.slice none 0 0) := JC.out.cell 2; have jc3 : V0.cell? ⟨w.heap.size + 1 + 1, 3, none⟩ = some (.bool false) := JC.out.cell 3; have jc4 : V0.cell? ⟨w.heap.size + 1 + 1, 4, none⟩ = some (.bool false) := JC.out.cell 4; have jc5 : V0.cell? ⟨w.heap.size + 1 + 1, 5, none⟩ = some (.int .i64 0) := JC.out.cell 5; have jc6 : V0.cell? ⟨w.heap.size + 1 + 1, 6, none⟩ = some (.slice none 0 0) := JC.out.cell 6; have jc7 : V0.cell? ⟨w.heap.size + 1 + 1, 7, none⟩ = some (.slice none 0 0) := JC.out.cell 7; have BV := Lib.hid (keepBelow BW.out hb); have jaf := fun i => JA.out.frozen i; have jcf := fun i => JC.out.frozen i; clear hb)
  obtain ⟨o1, o2, o3, o4⟩ := put8 JC.out (.int .i64 st.limit) (.slice a0 st.q0.length k0) (.slice a1 st.q1.length k1) (.bool st.c0) (.bool st.c1) (.int .i64 st.tks) (.slice aw st.ws.length kw) (.slice aa st.ans.length ka)
  have hb := o3 BV.out (by omega)
  exact bodyPost_ret (res60_2 rfl _ _ (w.heap.size + 1 + 1) _ _ _ _ _ _ _ _ _ _ rfl rfl rfl o1) rfl ⟨⟨_, _, _, _⟩, rfl, XW.out.below hb, hb⟩
set_option maxRecDepth 100000 in
set_option maxHeartbeats 3200000 in
theorem rdo_write0 (c : Int) (d : ByteArray) (he : emptyB ⟨1, 0, c, d⟩ = false) (S : Sl) (st : St) (hs : Sm st) (w : World) (hR : Ref F w S st) :
    Calls Try.prog 67 #[rpV S st, .agg #[.int .i64 1, .int .i64 0, .int .i64 c, .string d]] w (DoSays F w ⟨st.q0, st.q1 ++ [d], st.c0, st.c1, st.limit, st.tks, st.ws, st.ans⟩ ⟨#[]⟩ d.size) := by
  obtain ⟨i0, hi, hz0, hz1, hz2⟩ := info_parts Try.info9
  have C79 := Lib.hid (fun W => rnothing_any ⟨1, 0, c, d⟩ ⟨.inr rfl, .inl rfl⟩ W)
  rw [he] at C79
  have hql : st.q1.length ≤ 200000 := by have := hs.q; omega
  obtain ⟨a0, k0, a1, k1, aw, kw, aa, ka, rfl⟩ := hR.open
  unfold rpV
  unfold opV at *
  have XW := Lib.hid hR
  have one2 : ∀ c ∈ ([.string d] : List Value), c.oneCell' = true := strC_one [d]
  have hw1 : IntKind.i64.wrap (1 - 0) = 1 := by decide
  have hw2 : IntKind.i64.wrap 1 = 1 := by decide
  have BW := Lib.hid (show Below w.heap.size w (((w.alloc (.cells #[.int .i64 st.limit, .slice a0 st.q0.length k0, .slice a1 st.q1.length k1, .bool st.c0, .bool st.c1, .int .i64 st.tks, .slice aw st.ws.length kw, .slice aa st.ans.length ka] 60)).alloc (.cells #[.int .i64 1, .int .i64 0, .int .i64 c, .string d] 107)).alloc (.cells #[.int .i64 0, .slice none 0 0, .slice none 0 0, .bool false, .bool false, .int .i64 0, .slice none 0 0, .slice none 0 0] 60)) from (((Below.refl _ _).alloc (Nat.le_refl _) _).alloc (by simp) _).alloc (by simp; omega) _)
  have KA := Lib.hid (show Blk (((w.alloc (.cells #[.int .i64 st.limit, .slice a0 st.q0.length k0, .slice a1 st.q1.length k1, .bool st.c0, .bool st.c1, .int .i64 st.tks, .slice aw st.ws.length kw, .slice aa st.ans.length ka] 60)).alloc (.cells #[.int .i64 1, .int .i64 0, .int .i64 c, .string d] 107)).alloc (.cells #[.int .i64 0, .slice none 0 0, .slice none 0 0, .bool false, .bool false, .int .i64 0, .slice none 0 0, .slice none 0 0] 60)) (w.heap.size) 60 [.int .i64 st.limit, .slice a0 st.q0.length k0, .slice a1 st.q1.length k1, .bool st.c0, .bool st.c1, .int .i64 st.tks, .slice aw st.ws.length kw, .slice aa st.ans.length ka] from ((Blk.new w 60 _).alloc _).alloc _)
  have KB := Lib.hid (show Blk (((w.alloc (.cells #[.int .i64 st.limit, .slice a0 st.q0.length k0, .slice a1 st.q1.length k1, .bool st.c0, .bool st.c1, .int .i64 st.tks, .slice aw st.ws.length kw, .slice aa st.ans.length ka] 60)).alloc (.cells #[.int .i64 1, .int .i64 0, .int .i64 c, .string d] 107)).alloc (.cells #[.int .i64 0, .slice none 0 0, .slice none 0 0, .bool false, .bool false, .int .i64 0, .slice none 0 0, .slice none 0 0] 60)) (w.heap.size + 1) 107 [.int .i64 1, .int .i64 0, .int .i64 c, .string d] from (blk_at (by simp) 107 [_, _, _, _]).alloc _)
  have KC := Lib.hid (show Blk (((w.alloc (.cells #[.int .i64 st.limit, .slice a0 st.q0.length k0, .slice a1 st.q1.length k1, .bool st.c0, .bool st.c1, .int .i64 st.tks, .slice aw st.ws.length kw, .slice aa st.ans.length ka] 60)).alloc (.cells #[.int .i64 1, .int .i64 0, .int .i64 c, .string d] 107)).alloc (.cells #[.int .i64 0, .slice none 0 0, .slice none 0 0, .bool false, .bool false, .int .i64 0, .slice none 0 0, .slice none 0 0] 60)) (w.heap.size + 1 + 1) 60 [.int .i64 0, .slice none 0 0, .slice none 0 0, .bool false, .bool false, .int .i64 0, .slice none 0 0, .slice none 0 0] from blk_at (by simp) 60 [_, _, _, _, _, _, _, _])
  clear hR he hs
  go_enter Try.func67, Try.ntmps67
  go_upto_region 5 with (go_at_call 79; refine (C79.out _).mono ?_; rintro e V0 ⟨rfl, hb⟩; have JA := Lib.hid (keepBlk hb KA.out); have ja0 : V0.cell? ⟨w.heap.size, 0, none⟩ = some (.int .i64 st.limit) := JA.out.cell 0; have ja1 : V0.cell? ⟨w.heap.size, 1, none⟩ = some (.slice a0 st.q0.length k0) := JA.out.cell 1; have ja2 : V0.cell? ⟨w.heap.size, 2, none⟩ = some (.slice a1 st.q1.length k1) := JA.out.cell 2; have ja3 : V0.cell? ⟨w.heap.size, 3, none⟩ = some (.bool st.c0) := JA.out.cell 3; have ja4 : V0.cell? ⟨w.heap.size, 4, none⟩ = some (.bool st.c1) := JA.out.cell 4; have ja5 : V0.cell? ⟨w.heap.size, 5, none⟩ = some (.int .i64 st.tks) := JA.out.cell 5; have ja6 : V0.cell? ⟨w.heap.size, 6, none⟩ = some (.slice aw st.ws.length kw) := JA.out.cell 6; have ja7 : V0.cell? ⟨w.heap.size, 7, none⟩ = some (.slice aa st.ans.length ka) := JA.out.cell 7; have JB := Lib.hid (keepBlk hb KB.out); have jb0 : V0.cell? ⟨w.heap.size + 1, 0, none⟩ = some (.int .i64 1) := JB.out.cell 0; have jb1 : V0.cell? ⟨w.heap.size + 1, 1, none⟩ = some (.int .i64 0) := JB.out.cell 1; have jb2 : V0.cell? ⟨w.heap.size + 1, 2, none⟩ = some (.int .i64 c) := JB.out.cell 2; have jb3 : V0.cell? ⟨w.heap.size + 1, 3, none⟩ = some (.string d) := JB.out.cell 3; have JC := Lib.hid (keepBlk hb KC.out); have jc0 : V0.cell? ⟨w.heap.size + 1 + 1, 0, none⟩ = some (.int .i64 0) := JC.out.cell 0; have jc1 : V0.cell? ⟨w.heap.size + 1 + 1, 1, none⟩ = some (.slice none 0 0) := JC.out.cell 1; have jc2 : V0.cell? ⟨w.heap.size + 1 + 1, 2, none⟩ = some (.slice none 0 0) := JC.out.cell 2; have jc3 : V0.cell? ⟨w.heap.size + 1 + 1, 3, none⟩ = some (.bool false) := JC.out.cell 3; have jc4 : V0.cell? ⟨w.heap.size + 1 + 1, 4, none⟩ = some (.bool false) := JC.out.cell 4; have jc5 : V0.cell? ⟨w.heap.size + 1 + 1, 5, none⟩ = some (.int .i64 0) := JC.out.cell 5; have jc6 : V0.cell? ⟨w.heap.size + 1 + 1, 6, none⟩ = some (.slice none 0 0) := JC.out.cell 6; have jc7 : V0.cell? ⟨w.heap.size + 1 + 1, 7, none⟩ = some (.slice none 0 0) := JC.out.cell 7; have BV := Lib.hid (keepBelow BW.out hb); have jaf := fun i => JA.out.frozen i; have jcf := fun i => JC.out.frozen i; clear hb)
  have HA := Lib.hid (show Row V0 9 1 (.slice a1 st.q1.length k1) st.q1.length (strC st.q1) from XW.out.r1.below BV.out)
  have EB1 := Lib.hid (show Below V0.heap.size V0 ((V0.alloc (Obj.cells #[] 9)).drew) from ((Below.refl _ _).alloc (Nat.le_refl _) _).drew)
  have ER1 := Lib.hid (show Row ((V0.alloc (Obj.cells #[] 9)).drew) 9 1 (.slice (some ⟨V0.heap.size, 0, none⟩) 0 0) 0 [] from (show Row (V0.alloc (Obj.cells #[] 9)) 9 1 (.slice (some ⟨V0.heap.size, 0, none⟩) 0 0) 0 [] from Row.empty (Blk.new V0 _ [])))
  have ES1 := Lib.hid (Row.below HA.out EB1.out)
  have EB2 := Lib.hid (show Below V0.heap.size V0 (((V0.alloc (Obj.cells #[] 9)).alloc (Obj.cells #[.string d] 9)).drew) from (((Below.refl _ _).alloc (Nat.le_refl _) _).alloc (by simp) _).drew)
  have ER2 := Lib.hid (show Row (((V0.alloc (Obj.cells #[] 9)).alloc (Obj.cells #[.string d] 9)).drew) 9 1 (.slice (some ⟨V0.heap.size, 0, none⟩) 0 0) 0 [] from (show Row ((V0.alloc (Obj.cells #[] 9)).alloc (Obj.cells #[.string d] 9)) 9 1 (.slice (some ⟨V0.heap.size, 0, none⟩) 0 0) 0 [] from Row.empty ((Blk.new V0 _ []).alloc _)))
  have ES2 := Lib.hid (Row.below HA.out EB2.out)
  have EB3 := Lib.hid (show Below V0.heap.size V0 (((V0.alloc (Obj.cells #[.string d] 9)).alloc (Obj.cells #[] 9)).drew) from (((Below.refl _ _).alloc (Nat.le_refl _) _).alloc (by simp) _).drew)
  have ER3 := Lib.hid (show Row (((V0.alloc (Obj.cells #[.string d] 9)).alloc (Obj.cells #[] 9)).drew) 9 1 (.slice (some ⟨V0.heap.size + 1, 0, none⟩) 0 0) 0 [] from (show Row ((V0.alloc (Obj.cells #[.string d] 9)).alloc (Obj.cells #[] 9)) 9 1 (.slice (some ⟨V0.heap.size + 1, 0, none⟩) 0 0) 0 [] from Row.empty (blk_at (by simp) _ [])))
  have ES3 := Lib.hid (Row.below HA.out EB3.out)
  have EN2 := Lib.hid (show Row (((V0.alloc (Obj.cells #[] 9)).alloc (Obj.cells #[.string d] 9)).drew) 9 1 (.slice (some ⟨V0.heap.size + 1, 0, none⟩) 1 1) 1 [.string d] from (show Row (((V0.alloc (Obj.cells #[] 9)).alloc (Obj.cells #[.string d] 9))) 9 1 (.slice (some ⟨V0.heap.size + 1, 0, none⟩) 1 1) 1 [.string d] from Row.one (blk_at (by simp) _ [.string d]) rfl))
  have EN3 := Lib.hid (show Row (((V0.alloc (Obj.cells #[.string d] 9)).alloc (Obj.cells #[] 9)).drew) 9 1 (.slice (some ⟨V0.heap.size, 0, none⟩) 1 1) 1 [.string d] from (show Row (((V0.alloc (Obj.cells #[.string d] 9)).alloc (Obj.cells #[] 9))) 9 1 (.slice (some ⟨V0.heap.size, 0, none⟩) 1 1) 1 [.string d] from Row.one ((Blk.new V0 _ [.string d]).alloc _) rfl))
  have ef : ∀ m c, Frsh V0.heap.size (.slice (some ⟨V0.heap.size, 0, none⟩) m c) := fun _ _ => Frsh.at_ (Nat.le_refl _)
  have ef' : ∀ m c, Frsh V0.heap.size (.slice (some ⟨V0.heap.size + 1, 0, none⟩) m c) := fun _ _ => Frsh.at_ (Nat.le_succ _)
  go_cut [] (fun wx => ∃ A C, Blk wx (w.heap.size) 60 [.int .i64 st.limit, .slice a0 st.q0.length k0, .slice A (st.q1.length + 1) C, .bool st.c0, .bool st.c1, .int .i64 st.tks, .slice aw st.ws.length kw, .slice aa st.ans.length ka] ∧ Blk wx (w.heap.size + 1) 107 [.int .i64 1, .int .i64 0, .int .i64 c, .string d] ∧ Blk wx (w.heap.size + 1 + 1) 60 [.int .i64 0, .slice none 0 0, .slice none 0 0, .bool false, .bool false, .int .i64 0, .slice none 0 0, .slice none 0 0] ∧ Row wx 9 1 (.slice A (st.q1.length + 1) C) (st.q1.length + 1) (strC st.q1 ++ [.string d]) ∧ Below w.heap.size w wx ∧ ∀ k, (Value.slice A (st.q1.length + 1) C).ownBlock = some k → w.heap.size ≤ k)
  case first =>
    go_region_held3 (fun W => W.cell? ⟨w.heap.size + 1, 1, none⟩ = some (.int .i64 0) ∧ W.cell? ⟨w.heap.size + 1, 3, none⟩ = some (.string d)) (first | go_keep | exact ⟨c1, c3⟩ | exact ⟨d1, d3⟩) (first
      | (refine step_append_n rfl (.tmp 27) (.tmp 28) 22 rfl 9 i0 _ 1 16 Try.underlying22 hi hz0 hz1 hz2 rfl (by omega) (v := .slice (some ⟨V0.heap.size, 0, none⟩) 0 0) rfl (u := .slice a1 st.q1.length k1) rfl 0 [] ER1.out st.q1.length (strC st.q1) ES1.out (strC_one _) (by unfold maxLen; omega) (by omega) st.q1.length (Nat.zero_add _) EB1.out (ef _ _) ?_; intro A1 C1 w1 R1 F1 B1 G1; rw [List.nil_append] at R1; have NN := True.intro; clear G1; have c1 : w1.cell? ⟨w.heap.size + 1, 1, none⟩ = some (.int .i64 0) := (keepBlk B1 JB.out).cell 1; have c3 : w1.cell? ⟨w.heap.size + 1, 3, none⟩ = some (.string d) := (keepBlk B1 JB.out).cell 3)
      | (refine step_append_n rfl (.tmp 27) (.tmp 28) 22 rfl 9 i0 _ 1 16 Try.underlying22 hi hz0 hz1 hz2 rfl (by omega) (v := .slice (some ⟨V0.heap.size, 0, none⟩) 0 0) rfl (u := .slice a1 st.q1.length k1) rfl 0 [] ER2.out st.q1.length (strC st.q1) ES2.out (strC_one _) (by unfold maxLen; omega) (by omega) st.q1.length (Nat.zero_add _) EB2.out (ef _ _) ?_; intro A1 C1 w1 R1 F1 B1 G1; rw [List.nil_append] at R1; have NN := Lib.hid (EN2.out.grown G1 (by simp [Value.ownBlock])); clear G1; have c1 : w1.cell? ⟨w.heap.size + 1, 1, none⟩ = some (.int .i64 0) := (keepBlk B1 JB.out).cell 1; have c3 : w1.cell? ⟨w.heap.size + 1, 3, none⟩ = some (.string d) := (keepBlk B1 JB.out).cell 3)
      | (refine step_append_n rfl (.tmp 27) (.tmp 28) 22 rfl 9 i0 _ 1 16 Try.underlying22 hi hz0 hz1 hz2 rfl (by omega) (v := .slice (some ⟨V0.heap.size + 1, 0, none⟩) 0 0) rfl (u := .slice a1 st.q1.length k1) rfl 0 [] ER3.out st.q1.length (strC st.q1) ES3.out (strC_one _) (by unfold maxLen; omega) (by omega) st.q1.length (Nat.zero_add _) EB3.out (ef' _ _) ?_; intro A1 C1 w1 R1 F1 B1 G1; rw [List.nil_append] at R1; have NN := Lib.hid (EN3.out.grown G1 (by simp [Value.ownBlock])); clear G1; have c1 : w1.cell? ⟨w.heap.size + 1, 1, none⟩ = some (.int .i64 0) := (keepBlk B1 JB.out).cell 1; have c3 : w1.cell? ⟨w.heap.size + 1, 3, none⟩ = some (.string d) := (keepBlk B1 JB.out).cell 3)
      | (refine step_append_n rfl (.tmp 29) (.tmp 32) 22 rfl 9 i0 _ 1 16 Try.underlying22 hi hz0 hz1 hz2 rfl (by omega) (v := .slice A1 st.q1.length C1) rfl (u := .slice (some ⟨w1.heap.size, 0, none⟩) 1 1) rfl st.q1.length (strC st.q1) (R1.below ((Below.refl _ _).alloc (Nat.le_refl _) _)) 1 [.string d] (Row.one (Blk.new w1 _ [.string d]) rfl) one2 (by unfold maxLen; omega) (by omega) (st.q1.length + 1) rfl (B1.alloc B1.size _) F1 ?_; intro A2 C2 w2 R2 F2 B2 G2; have p0 : w2.cell? ⟨w.heap.size, 2, none⟩ = some (.slice a1 st.q1.length k1) := (keepBlk B2 JA.out).cell 2; have pf : w2.frozen? ⟨w.heap.size, 2, none⟩ = false := (keepBlk B2 JA.out).frozen 2; have d1 : w2.cell? ⟨w.heap.size + 1, 1, none⟩ = some (.int .i64 0) := (keepBlk B2 JB.out).cell 1; have d3 : w2.cell? ⟨w.heap.size + 1, 3, none⟩ = some (.string d) := (keepBlk B2 JB.out).cell 3; have BB2 := Lib.hid B2; have RR2 := Lib.hid R2; have FF2 := Lib.hid F2; clear R2 F2 B2 G2 R1 F1 B1 NN)
      | (refine step_append_n rfl (.tmp 29) (.tmp 32) 22 rfl 9 i0 _ 1 16 Try.underlying22 hi hz0 hz1 hz2 rfl (by omega) (v := .slice A1 st.q1.length C1) rfl (u := .slice (some ⟨V0.heap.size + 1, 0, none⟩) 1 1) rfl st.q1.length (strC st.q1) R1 1 [.string d] NN.out one2 (by unfold maxLen; omega) (by omega) (st.q1.length + 1) rfl B1 F1 ?_; intro A2 C2 w2 R2 F2 B2 G2; have p0 : w2.cell? ⟨w.heap.size, 2, none⟩ = some (.slice a1 st.q1.length k1) := (keepBlk B2 JA.out).cell 2; have pf : w2.frozen? ⟨w.heap.size, 2, none⟩ = false := (keepBlk B2 JA.out).frozen 2; have d1 : w2.cell? ⟨w.heap.size + 1, 1, none⟩ = some (.int .i64 0) := (keepBlk B2 JB.out).cell 1; have d3 : w2.cell? ⟨w.heap.size + 1, 3, none⟩ = some (.string d) := (keepBlk B2 JB.out).cell 3; have BB2 := Lib.hid B2; have RR2 := Lib.hid R2; have FF2 := Lib.hid F2; clear R2 F2 B2 G2 R1 F1 B1 NN)
      | (refine step_append_n rfl (.tmp 29) (.tmp 32) 22 rfl 9 i0 _ 1 16 Try.underlying22 hi hz0 hz1 hz2 rfl (by omega) (v := .slice A1 st.q1.length C1) rfl (u := .slice (some ⟨V0.heap.size, 0, none⟩) 1 1) rfl st.q1.length (strC st.q1) R1 1 [.string d] NN.out one2 (by unfold maxLen; omega) (by omega) (st.q1.length + 1) rfl B1 F1 ?_; intro A2 C2 w2 R2 F2 B2 G2; have p0 : w2.cell? ⟨w.heap.size, 2, none⟩ = some (.slice a1 st.q1.length k1) := (keepBlk B2 JA.out).cell 2; have pf : w2.frozen? ⟨w.heap.size, 2, none⟩ = false := (keepBlk B2 JA.out).frozen 2; have d1 : w2.cell? ⟨w.heap.size + 1, 1, none⟩ = some (.int .i64 0) := (keepBlk B2 JB.out).cell 1; have d3 : w2.cell? ⟨w.heap.size + 1, 3, none⟩ = some (.string d) := (keepBlk B2 JB.out).cell 3; have BB2 := Lib.hid B2; have RR2 := Lib.hid R2; have FF2 := Lib.hid F2; clear R2 F2 B2 G2 R1 F1 B1 NN))
    all_goals
      refine (show ∀ a' w', Met _ a' w' → _ from by assumption) _ _ ?_
      refine Met.intro ?_
      refine (show ∀ a' w', _ → _ from by assumption) _ _ ?_
      (repeat apply Exists.intro)
      refine ⟨?_, rfl⟩
      exact ⟨A2, C2, (keepBlk BB2.out JA.out).set_ 2 _, (keepBlk BB2.out JB.out).far (Nat.succ_ne_self _) _, (keepBlk BB2.out JC.out).far (show w.heap.size + 1 + 1 ≠ w.heap.size by omega) _, RR2.out.set_ (RR2.out.ne (keepBlk BB2.out JA.out) (by decide)) _, (keepBelow BV.out BB2.out).setCell (Nat.le_refl _) _, fun k hk => Nat.le_trans BV.out.size (FF2.out k hk)⟩
  case rest =>
    obtain ⟨A, C, hKA, hKB, hKC, hRow, hBel, hFr⟩ := hcut
    have XF := Lib.hid hFr
    have XA := Lib.hid hKA
    have XB := Lib.hid hKB
    have XC := Lib.hid hKC
    have XR := Lib.hid hRow
    have XL := Lib.hid hBel
    clear hKA hKB hKC hRow hBel hFr ef ef' ja0 ja1 ja2 ja3 ja4 ja5 ja6 ja7 jb0 jb1 jb2 jb3 jc0 jc1 jc2 jc3 jc4 jc5 jc6 jc7 jaf jcf
    have d0 : wc.cell? ⟨w.heap.size, 0, none⟩ = some (.int .i64 st.limit) := XA.out.cell 0
    have d1 : wc.cell? ⟨w.heap.size, 1, none⟩ = some (.slice a0 st.q0.length k0) := XA.out.cell 1
    have d2 : wc.cell? ⟨w.heap.size, 2, none⟩ = some (.slice A (st.q1.length + 1) C) := XA.out.cell 2
    have d3 : wc.cell? ⟨w.heap.size, 3, none⟩ = some (.bool st.c0) := XA.out.cell 3
    have d4 : wc.cell? ⟨w.heap.size, 4, none⟩ = some (.bool st.c1) := XA.out.cell 4
    have d5 : wc.cell? ⟨w.heap.size, 5, none⟩ = some (.int .i64 st.tks) := XA.out.cell 5
    have d6 : wc.cell? ⟨w.heap.size, 6, none⟩ = some (.slice aw st.ws.length kw) := XA.out.cell 6
    have d7 : wc.cell? ⟨w.heap.size, 7, none⟩ = some (.slice aa st.ans.length ka) := XA.out.cell 7
    have g1 : wc.cell? ⟨w.heap.size + 1, 1, none⟩ = some (.int .i64 0) := XB.out.cell 1
    have g3 : wc.cell? ⟨w.heap.size + 1, 3, none⟩ = some (.string d) := XB.out.cell 3
    have e0 : wc.cell? ⟨w.heap.size + 1 + 1, 0, none⟩ = some (.int .i64 0) := XC.out.cell 0
    have e1 : wc.cell? ⟨w.heap.size + 1 + 1, 1, none⟩ = some (.slice none 0 0) := XC.out.cell 1
    have e2 : wc.cell? ⟨w.heap.size + 1 + 1, 2, none⟩ = some (.slice none 0 0) := XC.out.cell 2
    have e3 : wc.cell? ⟨w.heap.size + 1 + 1, 3, none⟩ = some (.bool false) := XC.out.cell 3
    have e4 : wc.cell? ⟨w.heap.size + 1 + 1, 4, none⟩ = some (.bool false) := XC.out.cell 4
    have e5 : wc.cell? ⟨w.heap.size + 1 + 1, 5, none⟩ = some (.int .i64 0) := XC.out.cell 5
    have e6 : wc.cell? ⟨w.heap.size + 1 + 1, 6, none⟩ = some (.slice none 0 0) := XC.out.cell 6
    have e7 : wc.cell? ⟨w.heap.size + 1 + 1, 7, none⟩ = some (.slice none 0 0) := XC.out.cell 7
    have zf := fun i => XC.out.frozen i
    go_upto_region 6 with fail
    go_region
    all_goals
      obtain ⟨o1, o2, o3, o4⟩ := put8 XC.out (.int .i64 st.limit) (.slice a0 st.q0.length k0) (.slice A (st.q1.length + 1) C) (.bool st.c0) (.bool st.c1) (.int .i64 st.tks) (.slice aw st.ws.length kw) (.slice aa st.ans.length ka)
      have hb := o3 XL.out (show w.heap.size ≤ w.heap.size + 1 + 1 by omega)
      have hrr := (XW.out.below hb).drew
      go_wp2_with fail
      exact bodyPost_ret (res60_2 rfl _ _ (w.heap.size + 1 + 1) _ _ _ _ _ _ _ _ _ _ rfl rfl rfl o1.drew) rfl ⟨⟨_, .slice A (st.q1.length + 1) C, _, _⟩, rfl, ⟨hrr.r0, (by show Row _ 9 1 _ (st.q1 ++ [d]).length (strC (st.q1 ++ [d])); rw [List.length_append, strC_append]; exact (o2 XR.out (by decide)).drew), hrr.rw_, hrr.ra, XW.out.o.new1 hb.drew.size XF.out⟩, hb.drew⟩
set_option maxRecDepth 100000 in
set_option maxHeartbeats 3200000 in
theorem rdo_write1 (c : Int) (d : ByteArray) (he : emptyB ⟨1, 1, c, d⟩ = false) (S : Sl) (st : St) (hs : Sm st) (w : World) (hR : Ref F w S st) :
    Calls Try.prog 67 #[rpV S st, .agg #[.int .i64 1, .int .i64 1, .int .i64 c, .string d]] w (DoSays F w ⟨st.q0 ++ [d], st.q1, st.c0, st.c1, st.limit, st.tks, st.ws, st.ans⟩ ⟨#[]⟩ d.size) := by
  obtain ⟨i0, hi, hz0, hz1, hz2⟩ := info_parts Try.info9
  have C79 := Lib.hid (fun W => rnothing_any ⟨1, 1, c, d⟩ ⟨.inr rfl, .inr rfl⟩ W)
  rw [he] at C79
  have hql : st.q0.length ≤ 200000 := by have := hs.q; omega
  obtain ⟨a0, k0, a1, k1, aw, kw, aa, ka, rfl⟩ := hR.open
  unfold rpV
  unfold opV at *
  have XW := Lib.hid hR
  have one2 : ∀ c ∈ ([.string d] : List Value), c.oneCell' = true := strC_one [d]
  have hw1 : IntKind.i64.wrap (1 - 1) = 0 := by decide
  have hw2 : IntKind.i64.wrap 0 = 0 := by decide
  have BW := Lib.hid (show Below w.heap.size w (((w.alloc (.cells #[.int .i64 st.limit, .slice a0 st.q0.length k0, .slice a1 st.q1.length k1, .bool st.c0, .bool st.c1, .int .i64 st.tks, .slice aw st.ws.length kw, .slice aa st.ans.length ka] 60)).alloc (.cells #[.int .i64 1, .int .i64 1, .int .i64 c, .string d] 107)).alloc (.cells #[.int .i64 0, .slice none 0 0, .slice none 0 0, .bool false, .bool false, .int .i64 0, .slice none 0 0, .slice none 0 0] 60)) from (((Below.refl _ _).alloc (Nat.le_refl _) _).alloc (by simp) _).alloc (by simp; omega) _)
  have KA := Lib.hid (show Blk (((w.alloc (.cells #[.int .i64 st.limit, .slice a0 st.q0.length k0, .slice a1 st.q1.length k1, .bool st.c0, .bool st.c1, .int .i64 st.tks, .slice aw st.ws.length kw, .slice aa st.ans.length ka] 60)).alloc (.cells #[.int .i64 1, .int .i64 1, .int .i64 c, .string d] 107)).alloc (.cells #[.int .i64 0, .slice none 0 0, .slice none 0 0, .bool false, .bool false, .int .i64 0, .slice none 0 0, .slice none 0 0] 60)) (w.heap.size) 60 [.int .i64 st.limit, .slice a0 st.q0.length k0, .slice a1 st.q1.length k1, .bool st.c0, .bool st.c1, .int .i64 st.tks, .slice aw st.ws.length kw, .slice aa st.ans.length ka] from ((Blk.new w 60 _).alloc _).alloc _)
  have KB := Lib.hid (show Blk (((w.alloc (.cells #[.int .i64 st.limit, .slice a0 st.q0.length k0, .slice a1 st.q1.length k1, .bool st.c0, .bool st.c1, .int .i64 st.tks, .slice aw st.ws.length kw, .slice aa st.ans.length ka] 60)).alloc (.cells #[.int .i64 1, .int .i64 1, .int .i64 c, .string d] 107)).alloc (.cells #[.int .i64 0, .slice none 0 0, .slice none 0 0, .bool false, .bool false, .int .i64 0, .slice none 0 0, .slice none 0 0] 60)) (w.heap.size + 1) 107 [.int .i64 1, .int .i64 1, .int .i64 c, .string d] from (blk_at (by simp) 107 [_, _, _, _]).alloc _)
  have KC := Lib.hid (show Blk (((w.alloc (.cells #[.int .i64 st.limit, .slice a0 st.q0.length k0, .slice a1 st.q1.length k1, .bool st.c0, .bool st.c1, .int .i64 st.tks, .slice aw st.ws.length kw, .slice aa st.ans.length ka] 60)).alloc (.cells #[.int .i64 1, .int .i64 1, .int .i64 c, .string d] 107)).alloc (.cells #[.int .i64 0, .slice none 0 0, .slice none 0 0, .bool false, .bool false, .int .i64 0, .slice none 0 0, .slice none 0 0] 60)) (w.heap.size + 1 + 1) 60 [.int .i64 0, .slice none 0 0, .slice none 0 0, .bool false, .bool false, .int .i64 0, .slice none 0 0, .slice none 0 0] from blk_at (by simp) 60 [_, _, _, _, _, _, _, _])
  clear hR he hs
  go_enter Try.func67, Try.ntmps67
  go_upto_region 5 with (go_at_call 79; refine (C79.out _).mono ?_; rintro e V0 ⟨rfl, hb⟩; have JA := Lib.hid (keepBlk hb KA.out); have ja0 : V0.cell? ⟨w.heap.size, 0, none⟩ = some (.int .i64 st.limit) := JA.out.cell 0; have ja1 : V0.cell? ⟨w.heap.size, 1, none⟩ = some (.slice a0 st.q0.length k0) := JA.out.cell 1; have ja2 : V0.cell? ⟨w.heap.size, 2, none⟩ = some (.slice a1 st.q1.length k1) := JA.out.cell 2; have ja3 : V0.cell? ⟨w.heap.size, 3, none⟩ = some (.bool st.c0) := JA.out.cell 3; have ja4 : V0.cell? ⟨w.heap.size, 4, none⟩ = some (.bool st.c1) := JA.out.cell 4; have ja5 : V0.cell? ⟨w.heap.size, 5, none⟩ = some (.int .i64 st.tks) := JA.out.cell 5; have ja6 : V0.cell? ⟨w.heap.size, 6, none⟩ = some (.slice aw st.ws.length kw) := JA.out.cell 6; have ja7 : V0.cell? ⟨w.heap.size, 7, none⟩ = some (.slice aa st.ans.length ka) := JA.out.cell 7; have JB := Lib.hid (keepBlk hb KB.out); have jb0 : V0.cell? ⟨w.heap.size + 1, 0, none⟩ = some (.int .i64 1) := JB.out.cell 0; have jb1 : V0.cell? ⟨w.heap.size + 1, 1, none⟩ = some (.int .i64 1) := JB.out.cell 1; have jb2 : V0.cell? ⟨w.heap.size + 1, 2, none⟩ = some (.int .i64 c) := JB.out.cell 2; have jb3 : V0.cell? ⟨w.heap.size + 1, 3, none⟩ = some (.string d) := JB.out.cell 3; have JC := Lib.hid (keepBlk hb KC.out); have jc0 : V0.cell? ⟨w.heap.size + 1 + 1, 0, none⟩ = some (.int .i64 0) := JC.out.cell 0; have jc1 : V0.cell? ⟨w.heap.size + 1 + 1, 1, none⟩ = some (.slice none 0 0) := JC.out.cell 1; have jc2 : V0.cell? ⟨w.heap.size + 1 + 1, 2, none⟩ = some (.slice none 0 0) := JC.out.cell 2; have jc3 : V0.cell? ⟨w.heap.size + 1 + 1, 3, none⟩ = some (.bool false) := JC.out.cell 3; have jc4 : V0.cell? ⟨w.heap.size + 1 + 1, 4, none⟩ = some (.bool false) := JC.out.cell 4; have jc5 : V0.cell? ⟨w.heap.size + 1 + 1, 5, none⟩ = some (.int .i64 0) := JC.out.cell 5; have jc6 : V0.cell? ⟨w.heap.size + 1 + 1, 6, none⟩ = some (.slice none 0 0) := JC.out.cell 6; have jc7 : V0.cell? ⟨w.heap.size + 1 + 1, 7, none⟩ = some (.slice none 0 0) := JC.out.cell 7; have BV := Lib.hid (keepBelow BW.out hb); have jaf := fun i => JA.out.frozen i; have jcf := fun i => JC.out.frozen i; clear hb)
  have HA := Lib.hid (show Row V0 9 1 (.slice a0 st.q0.length k0) st.q0.length (strC st.q0) from XW.out.r0.below BV.out)
  have EB1 := Lib.hid (show Below V0.heap.size V0 ((V0.alloc (Obj.cells #[] 9)).drew) from ((Below.refl _ _).alloc (Nat.le_refl _) _).drew)
  have ER1 := Lib.hid (show Row ((V0.alloc (Obj.cells #[] 9)).drew) 9 1 (.slice (some ⟨V0.heap.size, 0, none⟩) 0 0) 0 [] from (show Row (V0.alloc (Obj.cells #[] 9)) 9 1 (.slice (some ⟨V0.heap.size, 0, none⟩) 0 0) 0 [] from Row.empty (Blk.new V0 _ [])))
  have ES1 := Lib.hid (Row.below HA.out EB1.out)
  have EB2 := Lib.hid (show Below V0.heap.size V0 (((V0.alloc (Obj.cells #[] 9)).alloc (Obj.cells #[.string d] 9)).drew) from (((Below.refl _ _).alloc (Nat.le_refl _) _).alloc (by simp) _).drew)
  have ER2 := Lib.hid (show Row (((V0.alloc (Obj.cells #[] 9)).alloc (Obj.cells #[.string d] 9)).drew) 9 1 (.slice (some ⟨V0.heap.size, 0, none⟩) 0 0) 0 [] from (show Row ((V0.alloc (Obj.cells #[] 9)).alloc (Obj.cells #[.string d] 9)) 9 1 (.slice (some ⟨V0.heap.size, 0, none⟩) 0 0) 0 [] from Row.empty ((Blk.new V0 _ []).alloc _)))
  have ES2 := Lib.hid (Row.below HA.out EB2.out)
  have EB3 := Lib.hid (show Below V0.heap.size V0 (((V0.alloc (Obj.cells #[.string d] 9)).alloc (Obj.cells #[] 9)).drew) from (((Below.refl _ _).alloc (Nat.le_refl _) _).alloc (by simp) _).drew)
  have ER3 := Lib.hid (show Row (((V0.alloc (Obj.cells #[.string d] 9)).alloc (Obj.cells #[] 9)).drew) 9 1 (.slice (some ⟨V0.heap.size + 1, 0, none⟩) 0 0) 0 [] from (show Row ((V0.alloc (Obj.cells #[.string d] 9)).alloc (Obj.cells #[] 9)) 9 1 (.slice (some ⟨V0.heap.size + 1, 0, none⟩) 0 0) 0 [] from Row.empty (blk_at (by simp) _ [])))
  have ES3 := Lib.hid (Row.below HA.out EB3.out)
  have EN2 := Lib.hid (show Row (((V0.alloc (Obj.cells #[] 9)).alloc (Obj.cells #[.string d] 9)).drew) 9 1 (.slice (some ⟨V0.heap.size + 1, 0, none⟩) 1 1) 1 [.string d] from (show Row (((V0.alloc (Obj.cells #[] 9)).alloc (Obj.cells #[.string d] 9))) 9 1 (.slice (some ⟨V0.heap.size + 1, 0, none⟩) 1 1) 1 [.string d] from Row.one (blk_at (by simp) _ [.string d]) rfl))
  have EN3 := Lib.hid (show Row (((V0.alloc (Obj.cells #[.string d] 9)).alloc (Obj.cells #[] 9)).drew) 9 1 (.slice (some ⟨V0.heap.size, 0, none⟩) 1 1) 1 [.string d] from (show Row (((V0.alloc (Obj.cells #[.string d] 9)).alloc (Obj.cells #[] 9))) 9 1 (.slice (some ⟨V0.heap.size, 0, none⟩) 1 1) 1 [.string d] from Row.one ((Blk.new V0 _ [.string d]).alloc _) rfl))
  have ef : ∀ m c, Frsh V0.heap.size (.slice (some ⟨V0.heap.size, 0, none⟩) m c) := fun _ _ => Frsh.at_ (Nat.le_refl _)
  have ef' : ∀ m c, Frsh V0.heap.size (.slice (some ⟨V0.heap.size + 1, 0, none⟩) m c) := fun _ _ => Frsh.at_ (Nat.le_succ _)
  go_cut [] (fun wx => ∃ A C, Blk wx (w.heap.size) 60 [.int .i64 st.limit, .slice A (st.q0.length + 1) C, .slice a1 st.q1.length k1, .bool st.c0, .bool st.c1, .int .i64 st.tks, .slice aw st.ws.length kw, .slice aa st.ans.length ka] ∧ Blk wx (w.heap.size + 1) 107 [.int .i64 1, .int .i64 1, .int .i64 c, .string d] ∧ Blk wx (w.heap.size + 1 + 1) 60 [.int .i64 0, .slice none 0 0, .slice none 0 0, .bool false, .bool false, .int .i64 0, .slice none 0 0, .slice none 0 0] ∧ Row wx 9 1 (.slice A (st.q0.length + 1) C) (st.q0.length + 1) (strC st.q0 ++ [.string d]) ∧ Below w.heap.size w wx ∧ ∀ k, (Value.slice A (st.q0.length + 1) C).ownBlock = some k → w.heap.size ≤ k)
  case first =>
    go_region_held3 (fun W => W.cell? ⟨w.heap.size + 1, 1, none⟩ = some (.int .i64 1) ∧ W.cell? ⟨w.heap.size + 1, 3, none⟩ = some (.string d)) (first | go_keep | exact ⟨c1, c3⟩ | exact ⟨d1, d3⟩) (first
      | (refine step_append_n rfl (.tmp 27) (.tmp 28) 22 rfl 9 i0 _ 1 16 Try.underlying22 hi hz0 hz1 hz2 rfl (by omega) (v := .slice (some ⟨V0.heap.size, 0, none⟩) 0 0) rfl (u := .slice a0 st.q0.length k0) rfl 0 [] ER1.out st.q0.length (strC st.q0) ES1.out (strC_one _) (by unfold maxLen; omega) (by omega) st.q0.length (Nat.zero_add _) EB1.out (ef _ _) ?_; intro A1 C1 w1 R1 F1 B1 G1; rw [List.nil_append] at R1; have NN := True.intro; clear G1; have c1 : w1.cell? ⟨w.heap.size + 1, 1, none⟩ = some (.int .i64 1) := (keepBlk B1 JB.out).cell 1; have c3 : w1.cell? ⟨w.heap.size + 1, 3, none⟩ = some (.string d) := (keepBlk B1 JB.out).cell 3)
      | (refine step_append_n rfl (.tmp 27) (.tmp 28) 22 rfl 9 i0 _ 1 16 Try.underlying22 hi hz0 hz1 hz2 rfl (by omega) (v := .slice (some ⟨V0.heap.size, 0, none⟩) 0 0) rfl (u := .slice a0 st.q0.length k0) rfl 0 [] ER2.out st.q0.length (strC st.q0) ES2.out (strC_one _) (by unfold maxLen; omega) (by omega) st.q0.length (Nat.zero_add _) EB2.out (ef _ _) ?_; intro A1 C1 w1 R1 F1 B1 G1; rw [List.nil_append] at R1; have NN := Lib.hid (EN2.out.grown G1 (by simp [Value.ownBlock])); clear G1; have c1 : w1.cell? ⟨w.heap.size + 1, 1, none⟩ = some (.int .i64 1) := (keepBlk B1 JB.out).cell 1; have c3 : w1.cell? ⟨w.heap.size + 1, 3, none⟩ = some (.string d) := (keepBlk B1 JB.out).cell 3)
      | (refine step_append_n rfl (.tmp 27) (.tmp 28) 22 rfl 9 i0 _ 1 16 Try.underlying22 hi hz0 hz1 hz2 rfl (by omega) (v := .slice (some ⟨V0.heap.size + 1, 0, none⟩) 0 0) rfl (u := .slice a0 st.q0.length k0) rfl 0 [] ER3.out st.q0.length (strC st.q0) ES3.out (strC_one _) (by unfold maxLen; omega) (by omega) st.q0.length (Nat.zero_add _) EB3.out (ef' _ _) ?_; intro A1 C1 w1 R1 F1 B1 G1; rw [List.nil_append] at R1; have NN := Lib.hid (EN3.out.grown G1 (by simp [Value.ownBlock])); clear G1; have c1 : w1.cell? ⟨w.heap.size + 1, 1, none⟩ = some (.int .i64 1) := (keepBlk B1 JB.out).cell 1; have c3 : w1.cell? ⟨w.heap.size + 1, 3, none⟩ = some (.string d) := (keepBlk B1 JB.out).cell 3)
      | (refine step_append_n rfl (.tmp 29) (.tmp 32) 22 rfl 9 i0 _ 1 16 Try.underlying22 hi hz0 hz1 hz2 rfl (by omega) (v := .slice A1 st.q0.length C1) rfl (u := .slice (some ⟨w1.heap.size, 0, none⟩) 1 1) rfl st.q0.length (strC st.q0) (R1.below ((Below.refl _ _).alloc (Nat.le_refl _) _)) 1 [.string d] (Row.one (Blk.new w1 _ [.string d]) rfl) one2 (by unfold maxLen; omega) (by omega) (st.q0.length + 1) rfl (B1.alloc B1.size _) F1 ?_; intro A2 C2 w2 R2 F2 B2 G2; have p0 : w2.cell? ⟨w.heap.size, 1, none⟩ = some (.slice a0 st.q0.length k0) := (keepBlk B2 JA.out).cell 1; have pf : w2.frozen? ⟨w.heap.size, 1, none⟩ = false := (keepBlk B2 JA.out).frozen 1; have d1 : w2.cell? ⟨w.heap.size + 1, 1, none⟩ = some (.int .i64 1) := (keepBlk B2 JB.out).cell 1; have d3 : w2.cell? ⟨w.heap.size + 1, 3, none⟩ = some (.string d) := (keepBlk B2 JB.out).cell 3; have BB2 := Lib.hid B2; have RR2 := Lib.hid R2; have FF2 := Lib.hid F2; clear R2 F2 B2 G2 R1 F1 B1 NN)
      | (refine step_append_n rfl (.tmp 29) (.tmp 32) 22 rfl 9 i0 _ 1 16 Try.underlying22 hi hz0 hz1 hz2 rfl (by omega) (v := .slice A1 st.q0.length C1) rfl (u := .slice (some ⟨V0.heap.size + 1, 0, none⟩) 1 1) rfl st.q0.length (strC st.q0) R1 1 [.string d] NN.out one2 (by unfold maxLen; omega) (by omega) (st.q0.length + 1) rfl B1 F1 ?_; intro A2 C2 w2 R2 F2 B2 G2; have p0 : w2.cell? ⟨w.heap.size, 1, none⟩ = some (.slice a0 st.q0.length k0) := (keepBlk B2 JA.out).cell 1; have pf : w2.frozen? ⟨w.heap.size, 1, none⟩ = false := (keepBlk B2 JA.out).frozen 1; have d1 : w2.cell? ⟨w.heap.size + 1, 1, none⟩ = some (.int .i64 1) := (keepBlk B2 JB.out).cell 1; have d3 : w2.cell? ⟨w.heap.size + 1, 3, none⟩ = some (.string d) := (keepBlk B2 JB.out).cell 3; have BB2 := Lib.hid B2; have RR2 := Lib.hid R2; have FF2 := Lib.hid F2; clear R2 F2 B2 G2 R1 F1 B1 NN)
      | (refine step_append_n rfl (.tmp 29) (.tmp 32) 22 rfl 9 i0 _ 1 16 Try.underlying22 hi hz0 hz1 hz2 rfl (by omega) (v := .slice A1 st.q0.length C1) rfl (u := .slice (some ⟨V0.heap.size, 0, none⟩) 1 1) rfl st.q0.length (strC st.q0) R1 1 [.string d] NN.out one2 (by unfold maxLen; omega) (by omega) (st.q0.length + 1) rfl B1 F1 ?_; intro A2 C2 w2 R2 F2 B2 G2; have p0 : w2.cell? ⟨w.heap.size, 1, none⟩ = some (.slice a0 st.q0.length k0) := (keepBlk B2 JA.out).cell 1; have pf : w2.frozen? ⟨w.heap.size, 1, none⟩ = false := (keepBlk B2 JA.out).frozen 1; have d1 : w2.cell? ⟨w.heap.size + 1, 1, none⟩ = some (.int .i64 1) := (keepBlk B2 JB.out).cell 1; have d3 : w2.cell? ⟨w.heap.size + 1, 3, none⟩ = some (.string d) := (keepBlk B2 JB.out).cell 3; have BB2 := Lib.hid B2; have RR2 := Lib.hid R2; have FF2 := Lib.hid F2; clear R2 F2 B2 G2 R1 F1 B1 NN))
    all_goals
      refine (show ∀ a' w', Met _ a' w' → _ from by assumption) _ _ ?_
      refine Met.intro ?_
      refine (show ∀ a' w', _ → _ from by assumption) _ _ ?_
      (repeat apply Exists.intro)
      refine ⟨?_, rfl⟩
      exact ⟨A2, C2, (keepBlk BB2.out JA.out).set_ 1 _, (keepBlk BB2.out JB.out).far (Nat.succ_ne_self _) _, (keepBlk BB2.out JC.out).far (show w.heap.size + 1 + 1 ≠ w.heap.size by omega) _, RR2.out.set_ (RR2.out.ne (keepBlk BB2.out JA.out) (by decide)) _, (keepBelow BV.out BB2.out).setCell (Nat.le_refl _) _, fun k hk => Nat.le_trans BV.out.size (FF2.out k hk)⟩
  case rest =>
    obtain ⟨A, C, hKA, hKB, hKC, hRow, hBel, hFr⟩ := hcut
    have XF := Lib.hid hFr
    have XA := Lib.hid hKA
    have XB := Lib.hid hKB
    have XC := Lib.hid hKC
    have XR := Lib.hid hRow
    have XL := Lib.hid hBel
    clear hKA hKB hKC hRow hBel hFr ef ef' ja0 ja1 ja2 ja3 ja4 ja5 ja6 ja7 jb0 jb1 jb2 jb3 jc0 jc1 jc2 jc3 jc4 jc5 jc6 jc7 jaf jcf
    have d0 : wc.cell? ⟨w.heap.size, 0, none⟩ = some (.int .i64 st.limit) := XA.out.cell 0
    have d1 : wc.cell? ⟨w.heap.size, 1, none⟩ = some (.slice A (st.q0.length + 1) C) := XA.out.cell 1
    have d2 : wc.cell? ⟨w.heap.size, 2, none⟩ = some (.slice a1 st.q1.length k1) := XA.out.cell 2
    have d3 : wc.cell? ⟨w.heap.size, 3, none⟩ = some (.bool st.c0) := XA.out.cell 3
    have d4 : wc.cell? ⟨w.heap.size, 4, none⟩ = some (.bool st.c1) := XA.out.cell 4
    have d5 : wc.cell? ⟨w.heap.size, 5, none⟩ = some (.int .i64 st.tks) := XA.out.cell 5
    have d6 : wc.cell? ⟨w.heap.size, 6, none⟩ = some (.slice aw st.ws.length kw) := XA.out.cell 6
    have d7 : wc.cell? ⟨w.heap.size, 7, none⟩ = some (.slice aa st.ans.length ka) := XA.out.cell 7
    have g1 : wc.cell? ⟨w.heap.size + 1, 1, none⟩ = some (.int .i64 1) := XB.out.cell 1
    have g3 : wc.cell? ⟨w.heap.size + 1, 3, none⟩ = some (.string d) := XB.out.cell 3
    have e0 : wc.cell? ⟨w.heap.size + 1 + 1, 0, none⟩ = some (.int .i64 0) := XC.out.cell 0
    have e1 : wc.cell? ⟨w.heap.size + 1 + 1, 1, none⟩ = some (.slice none 0 0) := XC.out.cell 1
    have e2 : wc.cell? ⟨w.heap.size + 1 + 1, 2, none⟩ = some (.slice none 0 0) := XC.out.cell 2
    have e3 : wc.cell? ⟨w.heap.size + 1 + 1, 3, none⟩ = some (.bool false) := XC.out.cell 3
    have e4 : wc.cell? ⟨w.heap.size + 1 + 1, 4, none⟩ = some (.bool false) := XC.out.cell 4
    have e5 : wc.cell? ⟨w.heap.size + 1 + 1, 5, none⟩ = some (.int .i64 0) := XC.out.cell 5
    have e6 : wc.cell? ⟨w.heap.size + 1 + 1, 6, none⟩ = some (.slice none 0 0) := XC.out.cell 6
    have e7 : wc.cell? ⟨w.heap.size + 1 + 1, 7, none⟩ = some (.slice none 0 0) := XC.out.cell 7
    have zf := fun i => XC.out.frozen i
    go_upto_region 6 with fail
    go_region
    all_goals
      obtain ⟨o1, o2, o3, o4⟩ := put8 XC.out (.int .i64 st.limit) (.slice A (st.q0.length + 1) C) (.slice a1 st.q1.length k1) (.bool st.c0) (.bool st.c1) (.int .i64 st.tks) (.slice aw st.ws.length kw) (.slice aa st.ans.length ka)
      have hb := o3 XL.out (show w.heap.size ≤ w.heap.size + 1 + 1 by omega)
      have hrr := (XW.out.below hb).drew
      go_wp2_with fail
      exact bodyPost_ret (res60_2 rfl _ _ (w.heap.size + 1 + 1) _ _ _ _ _ _ _ _ _ _ rfl rfl rfl o1.drew) rfl ⟨⟨.slice A (st.q0.length + 1) C, _, _, _⟩, rfl, ⟨(by show Row _ 9 1 _ (st.q0 ++ [d]).length (strC (st.q0 ++ [d])); rw [List.length_append, strC_append]; exact (o2 XR.out (by decide)).drew), hrr.r1, hrr.rw_, hrr.ra, XW.out.o.new0 hb.drew.size XF.out⟩, hb.drew⟩
end Go.Proofs.Ytmnlojbfdpjjdaa
