/- Do: a call of a pipe that is not nil, kind by kind. -/
import Derived.Test.YtmnlojbfdpjjdaaE2
import Derived.Test.YtmnlojbfdpjjdaaD2
namespace Go.Proofs.Ytmnlojbfdpjjdaa
open Go.RowKit
attribute [local go_sem] Oper.semAt_some
theorem Out.both {w v : World} {g k1 : Nat} {S S' : Sl} {st' : St} (h : Out w g S k1 S' st' v) : PipeAt v g S' st' ∧ Turn g S w S' v := ⟨h.pipe, h.turn⟩
set_option maxRecDepth 100000 in
set_option maxHeartbeats 1600000 in
theorem act_ask (t ok of_ oc : Int) (od : ByteArray) (hd : od.size ≤ 9000) {n : Nat} {st : St} (h : Gd n st) (hn : n ≤ 900) (g : Nat) (S : Sl) (w : World) (hP : PipeAt w g S st) :
    Calls Try.prog 18 #[.pointer (some ⟨g, 0, none⟩), .agg #[.int .i64 0, .int .i64 t, .int .i64 ok, .int .i64 of_, .int .i64 oc, .string od]] w fun e w' => e = .returned (.agg #[.int .i64 (askR st ⟨ok, of_, oc, od⟩).2.1, .string ⟨#[]⟩, .int .i64 (askR st ⟨ok, of_, oc, od⟩).2.2, .slice none 0 0]) ∧ ∃ S', PipeAt w' g S' (askR st ⟨ok, of_, oc, od⟩).1 ∧ Turn g S w S' w' := by
  have BB : Below w.heap.size w (((w.alloc (.cells #[.int .i64 0, .int .i64 t, .int .i64 ok, .int .i64 of_, .int .i64 oc, .string od] 44)).alloc (.cells #[.int .i64 0, .string ⟨#[]⟩, .int .i64 0, .slice none 0 0] 47)).alloc (.cells #[.int .i64 0, .string ⟨#[]⟩, .int .i64 0, .slice none 0 0] 47)) := (((Below.refl _ _).alloc (Nat.le_refl _) _).alloc (by simp) _).alloc (by simp; omega) _
  have hsz : (((w.alloc (.cells #[.int .i64 0, .int .i64 t, .int .i64 ok, .int .i64 of_, .int .i64 oc, .string od] 44)).alloc (.cells #[.int .i64 0, .string ⟨#[]⟩, .int .i64 0, .slice none 0 0] 47)).alloc (.cells #[.int .i64 0, .string ⟨#[]⟩, .int .i64 0, .slice none 0 0] 47)).heap.size = w.heap.size + 3 := blk3 w _ _ _
  have HO : Hid (∀ {v S' st'}, PipeAt v g S' st' → Turn g S (((w.alloc (.cells #[.int .i64 0, .int .i64 t, .int .i64 ok, .int .i64 of_, .int .i64 oc, .string od] 44)).alloc (.cells #[.int .i64 0, .string ⟨#[]⟩, .int .i64 0, .slice none 0 0] 47)).alloc (.cells #[.int .i64 0, .string ⟨#[]⟩, .int .i64 0, .slice none 0 0] 47)) S' v → Out w g S (w.heap.size + 3) S' st' v) := Lib.hid (fun hp ht => hsz ▸ Out.of hP BB hp ht)
  have C := Lib.hid (Ask_gd h hn g S _ (hP.below BB) ⟨ok, of_, oc, od⟩ hd)
  (try unfold opV at C)
  have HK1 := Lib.hid (show Blk (((w.alloc (.cells #[.int .i64 0, .int .i64 t, .int .i64 ok, .int .i64 of_, .int .i64 oc, .string od] 44)).alloc (.cells #[.int .i64 0, .string ⟨#[]⟩, .int .i64 0, .slice none 0 0] 47)).alloc (.cells #[.int .i64 0, .string ⟨#[]⟩, .int .i64 0, .slice none 0 0] 47)) (w.heap.size + 1) 47 [.int .i64 0, .string ⟨#[]⟩, .int .i64 0, .slice none 0 0] from (blk_at (by simp) 47 [_, _, _, _]).alloc _)
  have HK2 := Lib.hid (show Blk (((w.alloc (.cells #[.int .i64 0, .int .i64 t, .int .i64 ok, .int .i64 of_, .int .i64 oc, .string od] 44)).alloc (.cells #[.int .i64 0, .string ⟨#[]⟩, .int .i64 0, .slice none 0 0] 47)).alloc (.cells #[.int .i64 0, .string ⟨#[]⟩, .int .i64 0, .slice none 0 0] 47)) (w.heap.size + 1 + 1) 47 [.int .i64 0, .string ⟨#[]⟩, .int .i64 0, .slice none 0 0] from blk_at (by simp) 47 [_, _, _, _])
  have nS1 : Hid (¬ S.has g (w.heap.size + 1)) := Lib.hid (fun hh => by have := hP.lt hh; omega)
  have nS2 : Hid (¬ S.has g (w.heap.size + 1 + 1)) := Lib.hid (fun hh => by have := hP.lt hh; omega)
  clear BB hsz h hn hP hd
  generalize askR st ⟨ok, of_, oc, od⟩ = r at *
  go_enter Try.func18, Try.ntmps18
  go_wp2_with (go_at_call 31; refine (C.out).mono ?_; rintro e v ⟨rfl, S1, P1, T1⟩; have J1 := Lib.hid (T1.blk HK1.out nS1.out); have J2 := Lib.hid (T1.blk HK2.out nS2.out); have HOV := Lib.hid (HO.out P1 T1); clear P1 T1; have j0 : v.cell? ⟨w.heap.size + 1 + 1, 0, none⟩ = some (.int .i64 0) := J2.out.cell 0; have i0 : v.cell? ⟨w.heap.size + 1, 0, none⟩ = some (.int .i64 0) := J1.out.cell 0; have j1 : v.cell? ⟨w.heap.size + 1 + 1, 1, none⟩ = some (.string ⟨#[]⟩) := J2.out.cell 1; have i1 : v.cell? ⟨w.heap.size + 1, 1, none⟩ = some (.string ⟨#[]⟩) := J1.out.cell 1; have j2 : v.cell? ⟨w.heap.size + 1 + 1, 2, none⟩ = some (.int .i64 0) := J2.out.cell 2; have i2 : v.cell? ⟨w.heap.size + 1, 2, none⟩ = some (.int .i64 0) := J1.out.cell 2; have j3 : v.cell? ⟨w.heap.size + 1 + 1, 3, none⟩ = some (.slice none 0 0) := J2.out.cell 3; have i3 : v.cell? ⟨w.heap.size + 1, 3, none⟩ = some (.slice none 0 0) := J1.out.cell 3; have jf := fun i => J2.out.frozen i; have if_ := fun i => J1.out.frozen i)
  refine bodyPost_ret (res47 rfl _ _ (w.heap.size + 1) _ _ _ _ rfl ((((((J1.out.far (p := ⟨w.heap.size + 1 + 1, 0, none⟩) (show w.heap.size + 1 ≠ w.heap.size + 1 + 1 by omega) _).far (p := ⟨w.heap.size + 1 + 1, 2, none⟩) (show w.heap.size + 1 ≠ w.heap.size + 1 + 1 by omega) _).set_ 0 _).set_ 1 _).set_ 2 _).set_ 3 _)) rfl ⟨rfl, S1, ?_⟩
  refine Out.both (k1 := w.heap.size + 3) ?_
  exact ((((((HOV.out).set (b := w.heap.size + 1 + 1) (i := 0) (by omega) (by omega) _).set (b := w.heap.size + 1 + 1) (i := 2) (by omega) (by omega) _).set (b := w.heap.size + 1) (i := 0) (by omega) (by omega) _).set (b := w.heap.size + 1) (i := 1) (by omega) (by omega) _).set (b := w.heap.size + 1) (i := 2) (by omega) (by omega) _).set (b := w.heap.size + 1) (i := 3) (by omega) (by omega) _
set_option maxRecDepth 100000 in
set_option maxHeartbeats 1600000 in
theorem act_read (t of_ oc : Int) (od : ByteArray) (hd : od.size ≤ 9000) {n : Nat} {st : St} (h : Gd n st) (hn : n ≤ 900) (g : Nat) (S : Sl) (w : World) (hP : PipeAt w g S st) :
    Calls Try.prog 18 #[.pointer (some ⟨g, 0, none⟩), .agg #[.int .i64 1, .int .i64 t, .int .i64 0, .int .i64 of_, .int .i64 oc, .string od]] w fun e w' => e = .returned (.agg #[.int .i64 0, .string (onceR st ⟨0, of_, oc, ⟨#[]⟩⟩).2.2.1, .int .i64 (onceR st ⟨0, of_, oc, ⟨#[]⟩⟩).2.2.2, .slice none 0 0]) ∧ ∃ S', PipeAt w' g S' (onceR st ⟨0, of_, oc, ⟨#[]⟩⟩).1 ∧ Turn g S w S' w' := by
  have BB : Below w.heap.size w (((w.alloc (.cells #[.int .i64 1, .int .i64 t, .int .i64 0, .int .i64 of_, .int .i64 oc, .string od] 44)).alloc (.cells #[.int .i64 0, .string ⟨#[]⟩, .int .i64 0, .slice none 0 0] 47)).alloc (.cells #[.int .i64 0, .string ⟨#[]⟩, .int .i64 0, .slice none 0 0] 47)) := (((Below.refl _ _).alloc (Nat.le_refl _) _).alloc (by simp) _).alloc (by simp; omega) _
  have hsz : (((w.alloc (.cells #[.int .i64 1, .int .i64 t, .int .i64 0, .int .i64 of_, .int .i64 oc, .string od] 44)).alloc (.cells #[.int .i64 0, .string ⟨#[]⟩, .int .i64 0, .slice none 0 0] 47)).alloc (.cells #[.int .i64 0, .string ⟨#[]⟩, .int .i64 0, .slice none 0 0] 47)).heap.size = w.heap.size + 3 := blk3 w _ _ _
  have HO : Hid (∀ {v S' st'}, PipeAt v g S' st' → Turn g S (((w.alloc (.cells #[.int .i64 1, .int .i64 t, .int .i64 0, .int .i64 of_, .int .i64 oc, .string od] 44)).alloc (.cells #[.int .i64 0, .string ⟨#[]⟩, .int .i64 0, .slice none 0 0] 47)).alloc (.cells #[.int .i64 0, .string ⟨#[]⟩, .int .i64 0, .slice none 0 0] 47)) S' v → Out w g S (w.heap.size + 3) S' st' v) := Lib.hid (fun hp ht => hsz ▸ Out.of hP BB hp ht)
  have C := Lib.hid (Read_gd h hn g S _ (hP.below BB) of_ oc)
  (try unfold opV at C)
  have HK1 := Lib.hid (show Blk (((w.alloc (.cells #[.int .i64 1, .int .i64 t, .int .i64 0, .int .i64 of_, .int .i64 oc, .string od] 44)).alloc (.cells #[.int .i64 0, .string ⟨#[]⟩, .int .i64 0, .slice none 0 0] 47)).alloc (.cells #[.int .i64 0, .string ⟨#[]⟩, .int .i64 0, .slice none 0 0] 47)) (w.heap.size + 1) 47 [.int .i64 0, .string ⟨#[]⟩, .int .i64 0, .slice none 0 0] from (blk_at (by simp) 47 [_, _, _, _]).alloc _)
  have HK2 := Lib.hid (show Blk (((w.alloc (.cells #[.int .i64 1, .int .i64 t, .int .i64 0, .int .i64 of_, .int .i64 oc, .string od] 44)).alloc (.cells #[.int .i64 0, .string ⟨#[]⟩, .int .i64 0, .slice none 0 0] 47)).alloc (.cells #[.int .i64 0, .string ⟨#[]⟩, .int .i64 0, .slice none 0 0] 47)) (w.heap.size + 1 + 1) 47 [.int .i64 0, .string ⟨#[]⟩, .int .i64 0, .slice none 0 0] from blk_at (by simp) 47 [_, _, _, _])
  have nS1 : Hid (¬ S.has g (w.heap.size + 1)) := Lib.hid (fun hh => by have := hP.lt hh; omega)
  have nS2 : Hid (¬ S.has g (w.heap.size + 1 + 1)) := Lib.hid (fun hh => by have := hP.lt hh; omega)
  clear BB hsz h hn hP hd
  generalize onceR st ⟨0, of_, oc, ⟨#[]⟩⟩ = r at *
  go_enter Try.func18, Try.ntmps18
  go_wp2_with (go_at_call 16; refine (C.out).mono ?_; rintro e v ⟨rfl, S1, P1, T1⟩; have J1 := Lib.hid (T1.blk HK1.out nS1.out); have J2 := Lib.hid (T1.blk HK2.out nS2.out); have HOV := Lib.hid (HO.out P1 T1); clear P1 T1; have j0 : v.cell? ⟨w.heap.size + 1 + 1, 0, none⟩ = some (.int .i64 0) := J2.out.cell 0; have i0 : v.cell? ⟨w.heap.size + 1, 0, none⟩ = some (.int .i64 0) := J1.out.cell 0; have j1 : v.cell? ⟨w.heap.size + 1 + 1, 1, none⟩ = some (.string ⟨#[]⟩) := J2.out.cell 1; have i1 : v.cell? ⟨w.heap.size + 1, 1, none⟩ = some (.string ⟨#[]⟩) := J1.out.cell 1; have j2 : v.cell? ⟨w.heap.size + 1 + 1, 2, none⟩ = some (.int .i64 0) := J2.out.cell 2; have i2 : v.cell? ⟨w.heap.size + 1, 2, none⟩ = some (.int .i64 0) := J1.out.cell 2; have j3 : v.cell? ⟨w.heap.size + 1 + 1, 3, none⟩ = some (.slice none 0 0) := J2.out.cell 3; have i3 : v.cell? ⟨w.heap.size + 1, 3, none⟩ = some (.slice none 0 0) := J1.out.cell 3; have jf := fun i => J2.out.frozen i; have if_ := fun i => J1.out.frozen i)
  refine bodyPost_ret (res47 rfl _ _ (w.heap.size + 1) _ _ _ _ rfl ((((((J1.out.far (p := ⟨w.heap.size + 1 + 1, 1, none⟩) (show w.heap.size + 1 ≠ w.heap.size + 1 + 1 by omega) _).far (p := ⟨w.heap.size + 1 + 1, 2, none⟩) (show w.heap.size + 1 ≠ w.heap.size + 1 + 1 by omega) _).set_ 0 _).set_ 1 _).set_ 2 _).set_ 3 _)) rfl ⟨rfl, S1, ?_⟩
  refine Out.both (k1 := w.heap.size + 3) ?_
  exact ((((((HOV.out).set (b := w.heap.size + 1 + 1) (i := 1) (by omega) (by omega) _).set (b := w.heap.size + 1 + 1) (i := 2) (by omega) (by omega) _).set (b := w.heap.size + 1) (i := 0) (by omega) (by omega) _).set (b := w.heap.size + 1) (i := 1) (by omega) (by omega) _).set (b := w.heap.size + 1) (i := 2) (by omega) (by omega) _).set (b := w.heap.size + 1) (i := 3) (by omega) (by omega) _
set_option maxRecDepth 100000 in
set_option maxHeartbeats 1600000 in
theorem act_write (t ok of_ oc : Int) (od : ByteArray) (hd : od.size ≤ 9000) (hok : (ok == 0) = false) {n : Nat} {st : St} (h : Gd n st) (hn : n ≤ 900) (g : Nat) (S : Sl) (w : World) (hP : PipeAt w g S st) :
    Calls Try.prog 18 #[.pointer (some ⟨g, 0, none⟩), .agg #[.int .i64 1, .int .i64 t, .int .i64 ok, .int .i64 of_, .int .i64 oc, .string od]] w fun e w' => e = .returned (.agg #[.int .i64 (onceR st ⟨1, of_, 0, od⟩).2.1, .string ⟨#[]⟩, .int .i64 (onceR st ⟨1, of_, 0, od⟩).2.2.2, .slice none 0 0]) ∧ ∃ S', PipeAt w' g S' (onceR st ⟨1, of_, 0, od⟩).1 ∧ Turn g S w S' w' := by
  have BB : Below w.heap.size w (((w.alloc (.cells #[.int .i64 1, .int .i64 t, .int .i64 ok, .int .i64 of_, .int .i64 oc, .string od] 44)).alloc (.cells #[.int .i64 0, .string ⟨#[]⟩, .int .i64 0, .slice none 0 0] 47)).alloc (.cells #[.int .i64 0, .string ⟨#[]⟩, .int .i64 0, .slice none 0 0] 47)) := (((Below.refl _ _).alloc (Nat.le_refl _) _).alloc (by simp) _).alloc (by simp; omega) _
  have hsz : (((w.alloc (.cells #[.int .i64 1, .int .i64 t, .int .i64 ok, .int .i64 of_, .int .i64 oc, .string od] 44)).alloc (.cells #[.int .i64 0, .string ⟨#[]⟩, .int .i64 0, .slice none 0 0] 47)).alloc (.cells #[.int .i64 0, .string ⟨#[]⟩, .int .i64 0, .slice none 0 0] 47)).heap.size = w.heap.size + 3 := blk3 w _ _ _
  have HO : Hid (∀ {v S' st'}, PipeAt v g S' st' → Turn g S (((w.alloc (.cells #[.int .i64 1, .int .i64 t, .int .i64 ok, .int .i64 of_, .int .i64 oc, .string od] 44)).alloc (.cells #[.int .i64 0, .string ⟨#[]⟩, .int .i64 0, .slice none 0 0] 47)).alloc (.cells #[.int .i64 0, .string ⟨#[]⟩, .int .i64 0, .slice none 0 0] 47)) S' v → Out w g S (w.heap.size + 3) S' st' v) := Lib.hid (fun hp ht => hsz ▸ Out.of hP BB hp ht)
  have C := Lib.hid (Write_gd h hn g S _ (hP.below BB) of_ od hd)
  (try unfold opV at C)
  have HK1 := Lib.hid (show Blk (((w.alloc (.cells #[.int .i64 1, .int .i64 t, .int .i64 ok, .int .i64 of_, .int .i64 oc, .string od] 44)).alloc (.cells #[.int .i64 0, .string ⟨#[]⟩, .int .i64 0, .slice none 0 0] 47)).alloc (.cells #[.int .i64 0, .string ⟨#[]⟩, .int .i64 0, .slice none 0 0] 47)) (w.heap.size + 1) 47 [.int .i64 0, .string ⟨#[]⟩, .int .i64 0, .slice none 0 0] from (blk_at (by simp) 47 [_, _, _, _]).alloc _)
  have HK2 := Lib.hid (show Blk (((w.alloc (.cells #[.int .i64 1, .int .i64 t, .int .i64 ok, .int .i64 of_, .int .i64 oc, .string od] 44)).alloc (.cells #[.int .i64 0, .string ⟨#[]⟩, .int .i64 0, .slice none 0 0] 47)).alloc (.cells #[.int .i64 0, .string ⟨#[]⟩, .int .i64 0, .slice none 0 0] 47)) (w.heap.size + 1 + 1) 47 [.int .i64 0, .string ⟨#[]⟩, .int .i64 0, .slice none 0 0] from blk_at (by simp) 47 [_, _, _, _])
  have nS1 : Hid (¬ S.has g (w.heap.size + 1)) := Lib.hid (fun hh => by have := hP.lt hh; omega)
  have nS2 : Hid (¬ S.has g (w.heap.size + 1 + 1)) := Lib.hid (fun hh => by have := hP.lt hh; omega)
  clear BB hsz h hn hP hd
  generalize onceR st ⟨1, of_, 0, od⟩ = r at *
  go_enter Try.func18, Try.ntmps18
  go_wp2_with (go_at_call 13; refine (C.out).mono ?_; rintro e v ⟨rfl, S1, P1, T1⟩; have J1 := Lib.hid (T1.blk HK1.out nS1.out); have J2 := Lib.hid (T1.blk HK2.out nS2.out); have HOV := Lib.hid (HO.out P1 T1); clear P1 T1; have j0 : v.cell? ⟨w.heap.size + 1 + 1, 0, none⟩ = some (.int .i64 0) := J2.out.cell 0; have i0 : v.cell? ⟨w.heap.size + 1, 0, none⟩ = some (.int .i64 0) := J1.out.cell 0; have j1 : v.cell? ⟨w.heap.size + 1 + 1, 1, none⟩ = some (.string ⟨#[]⟩) := J2.out.cell 1; have i1 : v.cell? ⟨w.heap.size + 1, 1, none⟩ = some (.string ⟨#[]⟩) := J1.out.cell 1; have j2 : v.cell? ⟨w.heap.size + 1 + 1, 2, none⟩ = some (.int .i64 0) := J2.out.cell 2; have i2 : v.cell? ⟨w.heap.size + 1, 2, none⟩ = some (.int .i64 0) := J1.out.cell 2; have j3 : v.cell? ⟨w.heap.size + 1 + 1, 3, none⟩ = some (.slice none 0 0) := J2.out.cell 3; have i3 : v.cell? ⟨w.heap.size + 1, 3, none⟩ = some (.slice none 0 0) := J1.out.cell 3; have jf := fun i => J2.out.frozen i; have if_ := fun i => J1.out.frozen i)
  refine bodyPost_ret (res47 rfl _ _ (w.heap.size + 1) _ _ _ _ rfl ((((((J1.out.far (p := ⟨w.heap.size + 1 + 1, 0, none⟩) (show w.heap.size + 1 ≠ w.heap.size + 1 + 1 by omega) _).far (p := ⟨w.heap.size + 1 + 1, 2, none⟩) (show w.heap.size + 1 ≠ w.heap.size + 1 + 1 by omega) _).set_ 0 _).set_ 1 _).set_ 2 _).set_ 3 _)) rfl ⟨rfl, S1, ?_⟩
  refine Out.both (k1 := w.heap.size + 3) ?_
  exact ((((((HOV.out).set (b := w.heap.size + 1 + 1) (i := 0) (by omega) (by omega) _).set (b := w.heap.size + 1 + 1) (i := 2) (by omega) (by omega) _).set (b := w.heap.size + 1) (i := 0) (by omega) (by omega) _).set (b := w.heap.size + 1) (i := 1) (by omega) (by omega) _).set (b := w.heap.size + 1) (i := 2) (by omega) (by omega) _).set (b := w.heap.size + 1) (i := 3) (by omega) (by omega) _
set_option maxRecDepth 100000 in
set_option maxHeartbeats 1600000 in
theorem act_cancel (t ok of_ oc : Int) (od : ByteArray) (hd : od.size ≤ 9000) {n : Nat} {st : St} (h : Gd n st) (hn : n ≤ 900) (g : Nat) (S : Sl) (w : World) (hP : PipeAt w g S st) :
    Calls Try.prog 18 #[.pointer (some ⟨g, 0, none⟩), .agg #[.int .i64 2, .int .i64 t, .int .i64 ok, .int .i64 of_, .int .i64 oc, .string od]] w fun e w' => e = .returned (.agg #[.int .i64 0, .string ⟨#[]⟩, .int .i64 (cancelR st t).2, .slice none 0 0]) ∧ ∃ S', PipeAt w' g S' (cancelR st t).1 ∧ Turn g S w S' w' := by
  have BB : Below w.heap.size w (((w.alloc (.cells #[.int .i64 2, .int .i64 t, .int .i64 ok, .int .i64 of_, .int .i64 oc, .string od] 44)).alloc (.cells #[.int .i64 0, .string ⟨#[]⟩, .int .i64 0, .slice none 0 0] 47)).alloc (.cells #[.int .i64 0, .string ⟨#[]⟩, .int .i64 0, .slice none 0 0] 47)) := (((Below.refl _ _).alloc (Nat.le_refl _) _).alloc (by simp) _).alloc (by simp; omega) _
  have hsz : (((w.alloc (.cells #[.int .i64 2, .int .i64 t, .int .i64 ok, .int .i64 of_, .int .i64 oc, .string od] 44)).alloc (.cells #[.int .i64 0, .string ⟨#[]⟩, .int .i64 0, .slice none 0 0] 47)).alloc (.cells #[.int .i64 0, .string ⟨#[]⟩, .int .i64 0, .slice none 0 0] 47)).heap.size = w.heap.size + 3 := blk3 w _ _ _
  have HO : Hid (∀ {v S' st'}, PipeAt v g S' st' → Turn g S (((w.alloc (.cells #[.int .i64 2, .int .i64 t, .int .i64 ok, .int .i64 of_, .int .i64 oc, .string od] 44)).alloc (.cells #[.int .i64 0, .string ⟨#[]⟩, .int .i64 0, .slice none 0 0] 47)).alloc (.cells #[.int .i64 0, .string ⟨#[]⟩, .int .i64 0, .slice none 0 0] 47)) S' v → Out w g S (w.heap.size + 3) S' st' v) := Lib.hid (fun hp ht => hsz ▸ Out.of hP BB hp ht)
  have C := Lib.hid (Cancel_any t g S st _ (hP.below BB) (h.sm (by omega)) h.w)
  (try unfold opV at C)
  have HK1 := Lib.hid (show Blk (((w.alloc (.cells #[.int .i64 2, .int .i64 t, .int .i64 ok, .int .i64 of_, .int .i64 oc, .string od] 44)).alloc (.cells #[.int .i64 0, .string ⟨#[]⟩, .int .i64 0, .slice none 0 0] 47)).alloc (.cells #[.int .i64 0, .string ⟨#[]⟩, .int .i64 0, .slice none 0 0] 47)) (w.heap.size + 1) 47 [.int .i64 0, .string ⟨#[]⟩, .int .i64 0, .slice none 0 0] from (blk_at (by simp) 47 [_, _, _, _]).alloc _)
  have HK2 := Lib.hid (show Blk (((w.alloc (.cells #[.int .i64 2, .int .i64 t, .int .i64 ok, .int .i64 of_, .int .i64 oc, .string od] 44)).alloc (.cells #[.int .i64 0, .string ⟨#[]⟩, .int .i64 0, .slice none 0 0] 47)).alloc (.cells #[.int .i64 0, .string ⟨#[]⟩, .int .i64 0, .slice none 0 0] 47)) (w.heap.size + 1 + 1) 47 [.int .i64 0, .string ⟨#[]⟩, .int .i64 0, .slice none 0 0] from blk_at (by simp) 47 [_, _, _, _])
  have nS1 : Hid (¬ S.has g (w.heap.size + 1)) := Lib.hid (fun hh => by have := hP.lt hh; omega)
  have nS2 : Hid (¬ S.has g (w.heap.size + 1 + 1)) := Lib.hid (fun hh => by have := hP.lt hh; omega)
  clear BB hsz h hn hP hd
  generalize cancelR st t = r at *
  go_enter Try.func18, Try.ntmps18
  go_wp2_with (go_at_call 37; refine (C.out).mono ?_; rintro e v ⟨rfl, S1, P1, T1⟩; have J1 := Lib.hid (T1.blk HK1.out nS1.out); have J2 := Lib.hid (T1.blk HK2.out nS2.out); have HOV := Lib.hid (HO.out P1 T1); clear P1 T1; have j0 : v.cell? ⟨w.heap.size + 1 + 1, 0, none⟩ = some (.int .i64 0) := J2.out.cell 0; have i0 : v.cell? ⟨w.heap.size + 1, 0, none⟩ = some (.int .i64 0) := J1.out.cell 0; have j1 : v.cell? ⟨w.heap.size + 1 + 1, 1, none⟩ = some (.string ⟨#[]⟩) := J2.out.cell 1; have i1 : v.cell? ⟨w.heap.size + 1, 1, none⟩ = some (.string ⟨#[]⟩) := J1.out.cell 1; have j2 : v.cell? ⟨w.heap.size + 1 + 1, 2, none⟩ = some (.int .i64 0) := J2.out.cell 2; have i2 : v.cell? ⟨w.heap.size + 1, 2, none⟩ = some (.int .i64 0) := J1.out.cell 2; have j3 : v.cell? ⟨w.heap.size + 1 + 1, 3, none⟩ = some (.slice none 0 0) := J2.out.cell 3; have i3 : v.cell? ⟨w.heap.size + 1, 3, none⟩ = some (.slice none 0 0) := J1.out.cell 3; have jf := fun i => J2.out.frozen i; have if_ := fun i => J1.out.frozen i)
  refine bodyPost_ret (res47 rfl _ _ (w.heap.size + 1) _ _ _ _ rfl (((((J1.out.far (p := ⟨w.heap.size + 1 + 1, 2, none⟩) (show w.heap.size + 1 ≠ w.heap.size + 1 + 1 by omega) _).set_ 0 _).set_ 1 _).set_ 2 _).set_ 3 _)) rfl ⟨rfl, S1, ?_⟩
  refine Out.both (k1 := w.heap.size + 3) ?_
  exact (((((HOV.out).set (b := w.heap.size + 1 + 1) (i := 2) (by omega) (by omega) _).set (b := w.heap.size + 1) (i := 0) (by omega) (by omega) _).set (b := w.heap.size + 1) (i := 1) (by omega) (by omega) _).set (b := w.heap.size + 1) (i := 2) (by omega) (by omega) _).set (b := w.heap.size + 1) (i := 3) (by omega) (by omega) _
set_option maxRecDepth 100000 in
set_option maxHeartbeats 1600000 in
theorem act_flush (t ok of_ oc : Int) (od : ByteArray) (hd : od.size ≤ 9000) {n : Nat} {st : St} (h : Gd n st) (hn : n ≤ 900) (g : Nat) (S : Sl) (w : World) (hP : PipeAt w g S st) :
    Calls Try.prog 18 #[.pointer (some ⟨g, 0, none⟩), .agg #[.int .i64 3, .int .i64 t, .int .i64 ok, .int .i64 of_, .int .i64 oc, .string od]] w fun e w' => e = .returned (.agg #[.int .i64 0, .string ⟨#[]⟩, .int .i64 (flushR st of_).2, .slice none 0 0]) ∧ ∃ S', PipeAt w' g S' (flushR st of_).1 ∧ Turn g S w S' w' := by
  have BB : Below w.heap.size w (((w.alloc (.cells #[.int .i64 3, .int .i64 t, .int .i64 ok, .int .i64 of_, .int .i64 oc, .string od] 44)).alloc (.cells #[.int .i64 0, .string ⟨#[]⟩, .int .i64 0, .slice none 0 0] 47)).alloc (.cells #[.int .i64 0, .string ⟨#[]⟩, .int .i64 0, .slice none 0 0] 47)) := (((Below.refl _ _).alloc (Nat.le_refl _) _).alloc (by simp) _).alloc (by simp; omega) _
  have hsz : (((w.alloc (.cells #[.int .i64 3, .int .i64 t, .int .i64 ok, .int .i64 of_, .int .i64 oc, .string od] 44)).alloc (.cells #[.int .i64 0, .string ⟨#[]⟩, .int .i64 0, .slice none 0 0] 47)).alloc (.cells #[.int .i64 0, .string ⟨#[]⟩, .int .i64 0, .slice none 0 0] 47)).heap.size = w.heap.size + 3 := blk3 w _ _ _
  have HO : Hid (∀ {v S' st'}, PipeAt v g S' st' → Turn g S (((w.alloc (.cells #[.int .i64 3, .int .i64 t, .int .i64 ok, .int .i64 of_, .int .i64 oc, .string od] 44)).alloc (.cells #[.int .i64 0, .string ⟨#[]⟩, .int .i64 0, .slice none 0 0] 47)).alloc (.cells #[.int .i64 0, .string ⟨#[]⟩, .int .i64 0, .slice none 0 0] 47)) S' v → Out w g S (w.heap.size + 3) S' st' v) := Lib.hid (fun hp ht => hsz ▸ Out.of hP BB hp ht)
  have C := Lib.hid (Flush_any of_ g S st _ (hP.below BB) (h.sm (by omega)) h.w)
  (try unfold opV at C)
  have HK1 := Lib.hid (show Blk (((w.alloc (.cells #[.int .i64 3, .int .i64 t, .int .i64 ok, .int .i64 of_, .int .i64 oc, .string od] 44)).alloc (.cells #[.int .i64 0, .string ⟨#[]⟩, .int .i64 0, .slice none 0 0] 47)).alloc (.cells #[.int .i64 0, .string ⟨#[]⟩, .int .i64 0, .slice none 0 0] 47)) (w.heap.size + 1) 47 [.int .i64 0, .string ⟨#[]⟩, .int .i64 0, .slice none 0 0] from (blk_at (by simp) 47 [_, _, _, _]).alloc _)
  have HK2 := Lib.hid (show Blk (((w.alloc (.cells #[.int .i64 3, .int .i64 t, .int .i64 ok, .int .i64 of_, .int .i64 oc, .string od] 44)).alloc (.cells #[.int .i64 0, .string ⟨#[]⟩, .int .i64 0, .slice none 0 0] 47)).alloc (.cells #[.int .i64 0, .string ⟨#[]⟩, .int .i64 0, .slice none 0 0] 47)) (w.heap.size + 1 + 1) 47 [.int .i64 0, .string ⟨#[]⟩, .int .i64 0, .slice none 0 0] from blk_at (by simp) 47 [_, _, _, _])
  have nS1 : Hid (¬ S.has g (w.heap.size + 1)) := Lib.hid (fun hh => by have := hP.lt hh; omega)
  have nS2 : Hid (¬ S.has g (w.heap.size + 1 + 1)) := Lib.hid (fun hh => by have := hP.lt hh; omega)
  clear BB hsz h hn hP hd
  generalize flushR st of_ = r at *
  go_enter Try.func18, Try.ntmps18
  go_wp2_with (go_at_call 38; refine (C.out).mono ?_; rintro e v ⟨rfl, S1, P1, T1⟩; have J1 := Lib.hid (T1.blk HK1.out nS1.out); have J2 := Lib.hid (T1.blk HK2.out nS2.out); have HOV := Lib.hid (HO.out P1 T1); clear P1 T1; have j0 : v.cell? ⟨w.heap.size + 1 + 1, 0, none⟩ = some (.int .i64 0) := J2.out.cell 0; have i0 : v.cell? ⟨w.heap.size + 1, 0, none⟩ = some (.int .i64 0) := J1.out.cell 0; have j1 : v.cell? ⟨w.heap.size + 1 + 1, 1, none⟩ = some (.string ⟨#[]⟩) := J2.out.cell 1; have i1 : v.cell? ⟨w.heap.size + 1, 1, none⟩ = some (.string ⟨#[]⟩) := J1.out.cell 1; have j2 : v.cell? ⟨w.heap.size + 1 + 1, 2, none⟩ = some (.int .i64 0) := J2.out.cell 2; have i2 : v.cell? ⟨w.heap.size + 1, 2, none⟩ = some (.int .i64 0) := J1.out.cell 2; have j3 : v.cell? ⟨w.heap.size + 1 + 1, 3, none⟩ = some (.slice none 0 0) := J2.out.cell 3; have i3 : v.cell? ⟨w.heap.size + 1, 3, none⟩ = some (.slice none 0 0) := J1.out.cell 3; have jf := fun i => J2.out.frozen i; have if_ := fun i => J1.out.frozen i)
  refine bodyPost_ret (res47 rfl _ _ (w.heap.size + 1) _ _ _ _ rfl (((((J1.out.far (p := ⟨w.heap.size + 1 + 1, 2, none⟩) (show w.heap.size + 1 ≠ w.heap.size + 1 + 1 by omega) _).set_ 0 _).set_ 1 _).set_ 2 _).set_ 3 _)) rfl ⟨rfl, S1, ?_⟩
  refine Out.both (k1 := w.heap.size + 3) ?_
  exact (((((HOV.out).set (b := w.heap.size + 1 + 1) (i := 2) (by omega) (by omega) _).set (b := w.heap.size + 1) (i := 0) (by omega) (by omega) _).set (b := w.heap.size + 1) (i := 1) (by omega) (by omega) _).set (b := w.heap.size + 1) (i := 2) (by omega) (by omega) _).set (b := w.heap.size + 1) (i := 3) (by omega) (by omega) _
set_option maxRecDepth 100000 in
set_option maxHeartbeats 1600000 in
theorem act_close (t ok of_ oc : Int) (od : ByteArray) (hd : od.size ≤ 9000) {n : Nat} {st : St} (h : Gd n st) (hn : n ≤ 900) (g : Nat) (S : Sl) (w : World) (hP : PipeAt w g S st) :
    Calls Try.prog 18 #[.pointer (some ⟨g, 0, none⟩), .agg #[.int .i64 4, .int .i64 t, .int .i64 ok, .int .i64 of_, .int .i64 oc, .string od]] w fun e w' => e = .returned (.agg #[.int .i64 0, .string ⟨#[]⟩, .int .i64 (closeR st of_).2, .slice none 0 0]) ∧ ∃ S', PipeAt w' g S' (closeR st of_).1 ∧ Turn g S w S' w' := by
  have BB : Below w.heap.size w (((w.alloc (.cells #[.int .i64 4, .int .i64 t, .int .i64 ok, .int .i64 of_, .int .i64 oc, .string od] 44)).alloc (.cells #[.int .i64 0, .string ⟨#[]⟩, .int .i64 0, .slice none 0 0] 47)).alloc (.cells #[.int .i64 0, .string ⟨#[]⟩, .int .i64 0, .slice none 0 0] 47)) := (((Below.refl _ _).alloc (Nat.le_refl _) _).alloc (by simp) _).alloc (by simp; omega) _
  have hsz : (((w.alloc (.cells #[.int .i64 4, .int .i64 t, .int .i64 ok, .int .i64 of_, .int .i64 oc, .string od] 44)).alloc (.cells #[.int .i64 0, .string ⟨#[]⟩, .int .i64 0, .slice none 0 0] 47)).alloc (.cells #[.int .i64 0, .string ⟨#[]⟩, .int .i64 0, .slice none 0 0] 47)).heap.size = w.heap.size + 3 := blk3 w _ _ _
  have HO : Hid (∀ {v S' st'}, PipeAt v g S' st' → Turn g S (((w.alloc (.cells #[.int .i64 4, .int .i64 t, .int .i64 ok, .int .i64 of_, .int .i64 oc, .string od] 44)).alloc (.cells #[.int .i64 0, .string ⟨#[]⟩, .int .i64 0, .slice none 0 0] 47)).alloc (.cells #[.int .i64 0, .string ⟨#[]⟩, .int .i64 0, .slice none 0 0] 47)) S' v → Out w g S (w.heap.size + 3) S' st' v) := Lib.hid (fun hp ht => hsz ▸ Out.of hP BB hp ht)
  have C := Lib.hid (Close_any of_ g S st _ (hP.below BB) (h.sm (by omega)))
  (try unfold opV at C)
  have HK1 := Lib.hid (show Blk (((w.alloc (.cells #[.int .i64 4, .int .i64 t, .int .i64 ok, .int .i64 of_, .int .i64 oc, .string od] 44)).alloc (.cells #[.int .i64 0, .string ⟨#[]⟩, .int .i64 0, .slice none 0 0] 47)).alloc (.cells #[.int .i64 0, .string ⟨#[]⟩, .int .i64 0, .slice none 0 0] 47)) (w.heap.size + 1) 47 [.int .i64 0, .string ⟨#[]⟩, .int .i64 0, .slice none 0 0] from (blk_at (by simp) 47 [_, _, _, _]).alloc _)
  have HK2 := Lib.hid (show Blk (((w.alloc (.cells #[.int .i64 4, .int .i64 t, .int .i64 ok, .int .i64 of_, .int .i64 oc, .string od] 44)).alloc (.cells #[.int .i64 0, .string ⟨#[]⟩, .int .i64 0, .slice none 0 0] 47)).alloc (.cells #[.int .i64 0, .string ⟨#[]⟩, .int .i64 0, .slice none 0 0] 47)) (w.heap.size + 1 + 1) 47 [.int .i64 0, .string ⟨#[]⟩, .int .i64 0, .slice none 0 0] from blk_at (by simp) 47 [_, _, _, _])
  have nS1 : Hid (¬ S.has g (w.heap.size + 1)) := Lib.hid (fun hh => by have := hP.lt hh; omega)
  have nS2 : Hid (¬ S.has g (w.heap.size + 1 + 1)) := Lib.hid (fun hh => by have := hP.lt hh; omega)
  clear BB hsz h hn hP hd
  generalize closeR st of_ = r at *
  go_enter Try.func18, Try.ntmps18
  go_wp2_with (go_at_call 14; refine (C.out).mono ?_; rintro e v ⟨rfl, S1, P1, T1⟩; have J1 := Lib.hid (T1.blk HK1.out nS1.out); have J2 := Lib.hid (T1.blk HK2.out nS2.out); have HOV := Lib.hid (HO.out P1 T1); clear P1 T1; have j0 : v.cell? ⟨w.heap.size + 1 + 1, 0, none⟩ = some (.int .i64 0) := J2.out.cell 0; have i0 : v.cell? ⟨w.heap.size + 1, 0, none⟩ = some (.int .i64 0) := J1.out.cell 0; have j1 : v.cell? ⟨w.heap.size + 1 + 1, 1, none⟩ = some (.string ⟨#[]⟩) := J2.out.cell 1; have i1 : v.cell? ⟨w.heap.size + 1, 1, none⟩ = some (.string ⟨#[]⟩) := J1.out.cell 1; have j2 : v.cell? ⟨w.heap.size + 1 + 1, 2, none⟩ = some (.int .i64 0) := J2.out.cell 2; have i2 : v.cell? ⟨w.heap.size + 1, 2, none⟩ = some (.int .i64 0) := J1.out.cell 2; have j3 : v.cell? ⟨w.heap.size + 1 + 1, 3, none⟩ = some (.slice none 0 0) := J2.out.cell 3; have i3 : v.cell? ⟨w.heap.size + 1, 3, none⟩ = some (.slice none 0 0) := J1.out.cell 3; have jf := fun i => J2.out.frozen i; have if_ := fun i => J1.out.frozen i)
  refine bodyPost_ret (res47 rfl _ _ (w.heap.size + 1) _ _ _ _ rfl (((((J1.out.far (p := ⟨w.heap.size + 1 + 1, 2, none⟩) (show w.heap.size + 1 ≠ w.heap.size + 1 + 1 by omega) _).set_ 0 _).set_ 1 _).set_ 2 _).set_ 3 _)) rfl ⟨rfl, S1, ?_⟩
  refine Out.both (k1 := w.heap.size + 3) ?_
  exact (((((HOV.out).set (b := w.heap.size + 1 + 1) (i := 2) (by omega) (by omega) _).set (b := w.heap.size + 1) (i := 0) (by omega) (by omega) _).set (b := w.heap.size + 1) (i := 1) (by omega) (by omega) _).set (b := w.heap.size + 1) (i := 2) (by omega) (by omega) _).set (b := w.heap.size + 1) (i := 3) (by omega) (by omega) _
set_option maxRecDepth 100000 in
set_option maxHeartbeats 1600000 in
theorem act_send (t ok of_ oc : Int) (od : ByteArray) (hd : od.size ≤ 9000) (ha : of_ = 0 ∨ of_ = 1) {n : Nat} {st : St} (h : Gd n st) (hn : n ≤ 900) (g : Nat) (S : Sl) (w : World) (hP : PipeAt w g S st) :
    Calls Try.prog 18 #[.pointer (some ⟨g, 0, none⟩), .agg #[.int .i64 6, .int .i64 t, .int .i64 ok, .int .i64 of_, .int .i64 oc, .string od]] w fun e w' => e = .returned (.agg #[.int .i64 0, .string ⟨#[]⟩, .int .i64 (onceR st ⟨1, of_, 0, od⟩).2.2.2, .slice none 0 0]) ∧ ∃ S', PipeAt w' g S' (onceR st ⟨1, of_, 0, od⟩).1 ∧ Turn g S w S' w' := by
  have BB : Below w.heap.size w (((w.alloc (.cells #[.int .i64 6, .int .i64 t, .int .i64 ok, .int .i64 of_, .int .i64 oc, .string od] 44)).alloc (.cells #[.int .i64 0, .string ⟨#[]⟩, .int .i64 0, .slice none 0 0] 47)).alloc (.cells #[.int .i64 0, .string ⟨#[]⟩, .int .i64 0, .slice none 0 0] 47)) := (((Below.refl _ _).alloc (Nat.le_refl _) _).alloc (by simp) _).alloc (by simp; omega) _
  have hsz : (((w.alloc (.cells #[.int .i64 6, .int .i64 t, .int .i64 ok, .int .i64 of_, .int .i64 oc, .string od] 44)).alloc (.cells #[.int .i64 0, .string ⟨#[]⟩, .int .i64 0, .slice none 0 0] 47)).alloc (.cells #[.int .i64 0, .string ⟨#[]⟩, .int .i64 0, .slice none 0 0] 47)).heap.size = w.heap.size + 3 := blk3 w _ _ _
  have HO : Hid (∀ {v S' st'}, PipeAt v g S' st' → Turn g S (((w.alloc (.cells #[.int .i64 6, .int .i64 t, .int .i64 ok, .int .i64 of_, .int .i64 oc, .string od] 44)).alloc (.cells #[.int .i64 0, .string ⟨#[]⟩, .int .i64 0, .slice none 0 0] 47)).alloc (.cells #[.int .i64 0, .string ⟨#[]⟩, .int .i64 0, .slice none 0 0] 47)) S' v → Out w g S (w.heap.size + 3) S' st' v) := Lib.hid (fun hp ht => hsz ▸ Out.of hP BB hp ht)
  have C := Lib.hid (Send_gd h hn g S _ (hP.below BB) of_ od hd)
  (try unfold opV at C)
  have HK1 := Lib.hid (show Blk (((w.alloc (.cells #[.int .i64 6, .int .i64 t, .int .i64 ok, .int .i64 of_, .int .i64 oc, .string od] 44)).alloc (.cells #[.int .i64 0, .string ⟨#[]⟩, .int .i64 0, .slice none 0 0] 47)).alloc (.cells #[.int .i64 0, .string ⟨#[]⟩, .int .i64 0, .slice none 0 0] 47)) (w.heap.size + 1) 47 [.int .i64 0, .string ⟨#[]⟩, .int .i64 0, .slice none 0 0] from (blk_at (by simp) 47 [_, _, _, _]).alloc _)
  have HK2 := Lib.hid (show Blk (((w.alloc (.cells #[.int .i64 6, .int .i64 t, .int .i64 ok, .int .i64 of_, .int .i64 oc, .string od] 44)).alloc (.cells #[.int .i64 0, .string ⟨#[]⟩, .int .i64 0, .slice none 0 0] 47)).alloc (.cells #[.int .i64 0, .string ⟨#[]⟩, .int .i64 0, .slice none 0 0] 47)) (w.heap.size + 1 + 1) 47 [.int .i64 0, .string ⟨#[]⟩, .int .i64 0, .slice none 0 0] from blk_at (by simp) 47 [_, _, _, _])
  have nS1 : Hid (¬ S.has g (w.heap.size + 1)) := Lib.hid (fun hh => by have := hP.lt hh; omega)
  have nS2 : Hid (¬ S.has g (w.heap.size + 1 + 1)) := Lib.hid (fun hh => by have := hP.lt hh; omega)
  clear BB hsz h hn hP hd
  have CI := Lib.hid (fun W => Wire_ok of_ ha g W)
  unfold wireV at CI
  generalize onceR st ⟨1, of_, 0, od⟩ = r at *
  clear ha
  go_enter Try.func18, Try.ntmps18
  go_wp2_with (first | (go_at_call 29; refine (CI.out _).mono ?_; rintro e u1 ⟨rfl, rfl⟩) | (go_at_call 101; refine (C.out).mono ?_; rintro e v ⟨rfl, S1, P1, T1⟩; have J1 := Lib.hid (T1.blk HK1.out nS1.out); have J2 := Lib.hid (T1.blk HK2.out nS2.out); have HOV := Lib.hid (HO.out P1 T1); clear P1 T1; have j0 : v.cell? ⟨w.heap.size + 1 + 1, 0, none⟩ = some (.int .i64 0) := J2.out.cell 0; have i0 : v.cell? ⟨w.heap.size + 1, 0, none⟩ = some (.int .i64 0) := J1.out.cell 0; have j1 : v.cell? ⟨w.heap.size + 1 + 1, 1, none⟩ = some (.string ⟨#[]⟩) := J2.out.cell 1; have i1 : v.cell? ⟨w.heap.size + 1, 1, none⟩ = some (.string ⟨#[]⟩) := J1.out.cell 1; have j2 : v.cell? ⟨w.heap.size + 1 + 1, 2, none⟩ = some (.int .i64 0) := J2.out.cell 2; have i2 : v.cell? ⟨w.heap.size + 1, 2, none⟩ = some (.int .i64 0) := J1.out.cell 2; have j3 : v.cell? ⟨w.heap.size + 1 + 1, 3, none⟩ = some (.slice none 0 0) := J2.out.cell 3; have i3 : v.cell? ⟨w.heap.size + 1, 3, none⟩ = some (.slice none 0 0) := J1.out.cell 3; have jf := fun i => J2.out.frozen i; have if_ := fun i => J1.out.frozen i))
  refine bodyPost_ret (res47 rfl _ _ (w.heap.size + 1) _ _ _ _ rfl (((((J1.out.far (p := ⟨w.heap.size + 1 + 1, 2, none⟩) (show w.heap.size + 1 ≠ w.heap.size + 1 + 1 by omega) _).set_ 0 _).set_ 1 _).set_ 2 _).set_ 3 _)) rfl ⟨rfl, S1, ?_⟩
  refine Out.both (k1 := w.heap.size + 3) ?_
  exact (((((HOV.out).set (b := w.heap.size + 1 + 1) (i := 2) (by omega) (by omega) _).set (b := w.heap.size + 1) (i := 0) (by omega) (by omega) _).set (b := w.heap.size + 1) (i := 1) (by omega) (by omega) _).set (b := w.heap.size + 1) (i := 2) (by omega) (by omega) _).set (b := w.heap.size + 1) (i := 3) (by omega) (by omega) _
set_option maxRecDepth 100000 in
set_option maxHeartbeats 1600000 in
theorem act_recv (t ok of_ oc : Int) (od : ByteArray) (hd : od.size ≤ 9000) (ha : of_ = 0 ∨ of_ = 1) {n : Nat} {st : St} (h : Gd n st) (hn : n ≤ 900) (g : Nat) (S : Sl) (w : World) (hP : PipeAt w g S st) :
    Calls Try.prog 18 #[.pointer (some ⟨g, 0, none⟩), .agg #[.int .i64 7, .int .i64 t, .int .i64 ok, .int .i64 of_, .int .i64 oc, .string od]] w fun e w' => e = .returned (.agg #[.int .i64 0, .string (recvR st of_).2.1, .int .i64 (recvR st of_).2.2, .slice none 0 0]) ∧ ∃ S', PipeAt w' g S' (recvR st of_).1 ∧ Turn g S w S' w' := by
  have BB : Below w.heap.size w (((w.alloc (.cells #[.int .i64 7, .int .i64 t, .int .i64 ok, .int .i64 of_, .int .i64 oc, .string od] 44)).alloc (.cells #[.int .i64 0, .string ⟨#[]⟩, .int .i64 0, .slice none 0 0] 47)).alloc (.cells #[.int .i64 0, .string ⟨#[]⟩, .int .i64 0, .slice none 0 0] 47)) := (((Below.refl _ _).alloc (Nat.le_refl _) _).alloc (by simp) _).alloc (by simp; omega) _
  have hsz : (((w.alloc (.cells #[.int .i64 7, .int .i64 t, .int .i64 ok, .int .i64 of_, .int .i64 oc, .string od] 44)).alloc (.cells #[.int .i64 0, .string ⟨#[]⟩, .int .i64 0, .slice none 0 0] 47)).alloc (.cells #[.int .i64 0, .string ⟨#[]⟩, .int .i64 0, .slice none 0 0] 47)).heap.size = w.heap.size + 3 := blk3 w _ _ _
  have HO : Hid (∀ {v S' st'}, PipeAt v g S' st' → Turn g S (((w.alloc (.cells #[.int .i64 7, .int .i64 t, .int .i64 ok, .int .i64 of_, .int .i64 oc, .string od] 44)).alloc (.cells #[.int .i64 0, .string ⟨#[]⟩, .int .i64 0, .slice none 0 0] 47)).alloc (.cells #[.int .i64 0, .string ⟨#[]⟩, .int .i64 0, .slice none 0 0] 47)) S' v → Out w g S (w.heap.size + 3) S' st' v) := Lib.hid (fun hp ht => hsz ▸ Out.of hP BB hp ht)
  have C := Lib.hid (Receive_any of_ ha g S st _ (hP.below BB) (h.sm (by omega)) h.w)
  (try unfold opV at C)
  have HK1 := Lib.hid (show Blk (((w.alloc (.cells #[.int .i64 7, .int .i64 t, .int .i64 ok, .int .i64 of_, .int .i64 oc, .string od] 44)).alloc (.cells #[.int .i64 0, .string ⟨#[]⟩, .int .i64 0, .slice none 0 0] 47)).alloc (.cells #[.int .i64 0, .string ⟨#[]⟩, .int .i64 0, .slice none 0 0] 47)) (w.heap.size + 1) 47 [.int .i64 0, .string ⟨#[]⟩, .int .i64 0, .slice none 0 0] from (blk_at (by simp) 47 [_, _, _, _]).alloc _)
  have HK2 := Lib.hid (show Blk (((w.alloc (.cells #[.int .i64 7, .int .i64 t, .int .i64 ok, .int .i64 of_, .int .i64 oc, .string od] 44)).alloc (.cells #[.int .i64 0, .string ⟨#[]⟩, .int .i64 0, .slice none 0 0] 47)).alloc (.cells #[.int .i64 0, .string ⟨#[]⟩, .int .i64 0, .slice none 0 0] 47)) (w.heap.size + 1 + 1) 47 [.int .i64 0, .string ⟨#[]⟩, .int .i64 0, .slice none 0 0] from blk_at (by simp) 47 [_, _, _, _])
  have nS1 : Hid (¬ S.has g (w.heap.size + 1)) := Lib.hid (fun hh => by have := hP.lt hh; omega)
  have nS2 : Hid (¬ S.has g (w.heap.size + 1 + 1)) := Lib.hid (fun hh => by have := hP.lt hh; omega)
  clear BB hsz h hn hP hd
  have CI := Lib.hid (fun W => Wire_ok of_ ha g W)
  unfold wireV at CI
  generalize recvR st of_ = r at *
  clear ha
  go_enter Try.func18, Try.ntmps18
  go_wp2_with (first | (go_at_call 29; refine (CI.out _).mono ?_; rintro e u1 ⟨rfl, rfl⟩) | (go_at_call 100; refine (C.out).mono ?_; rintro e v ⟨rfl, S1, P1, T1⟩; have J1 := Lib.hid (T1.blk HK1.out nS1.out); have J2 := Lib.hid (T1.blk HK2.out nS2.out); have HOV := Lib.hid (HO.out P1 T1); clear P1 T1; have j0 : v.cell? ⟨w.heap.size + 1 + 1, 0, none⟩ = some (.int .i64 0) := J2.out.cell 0; have i0 : v.cell? ⟨w.heap.size + 1, 0, none⟩ = some (.int .i64 0) := J1.out.cell 0; have j1 : v.cell? ⟨w.heap.size + 1 + 1, 1, none⟩ = some (.string ⟨#[]⟩) := J2.out.cell 1; have i1 : v.cell? ⟨w.heap.size + 1, 1, none⟩ = some (.string ⟨#[]⟩) := J1.out.cell 1; have j2 : v.cell? ⟨w.heap.size + 1 + 1, 2, none⟩ = some (.int .i64 0) := J2.out.cell 2; have i2 : v.cell? ⟨w.heap.size + 1, 2, none⟩ = some (.int .i64 0) := J1.out.cell 2; have j3 : v.cell? ⟨w.heap.size + 1 + 1, 3, none⟩ = some (.slice none 0 0) := J2.out.cell 3; have i3 : v.cell? ⟨w.heap.size + 1, 3, none⟩ = some (.slice none 0 0) := J1.out.cell 3; have jf := fun i => J2.out.frozen i; have if_ := fun i => J1.out.frozen i))
  refine bodyPost_ret (res47 rfl _ _ (w.heap.size + 1) _ _ _ _ rfl ((((((J1.out.far (p := ⟨w.heap.size + 1 + 1, 1, none⟩) (show w.heap.size + 1 ≠ w.heap.size + 1 + 1 by omega) _).far (p := ⟨w.heap.size + 1 + 1, 2, none⟩) (show w.heap.size + 1 ≠ w.heap.size + 1 + 1 by omega) _).set_ 0 _).set_ 1 _).set_ 2 _).set_ 3 _)) rfl ⟨rfl, S1, ?_⟩
  refine Out.both (k1 := w.heap.size + 3) ?_
  exact ((((((HOV.out).set (b := w.heap.size + 1 + 1) (i := 1) (by omega) (by omega) _).set (b := w.heap.size + 1 + 1) (i := 2) (by omega) (by omega) _).set (b := w.heap.size + 1) (i := 0) (by omega) (by omega) _).set (b := w.heap.size + 1) (i := 1) (by omega) (by omega) _).set (b := w.heap.size + 1) (i := 2) (by omega) (by omega) _).set (b := w.heap.size + 1) (i := 3) (by omega) (by omega) _
set_option maxRecDepth 100000 in
set_option maxHeartbeats 800000 in
theorem act_send_bad (t ok of_ oc : Int) (od : ByteArray) (ha : ¬ (of_ = 0 ∨ of_ = 1)) (g : Nat) (w : World) :
    Calls Try.prog 18 #[.pointer (some ⟨g, 0, none⟩), .agg #[.int .i64 6, .int .i64 t, .int .i64 ok, .int .i64 of_, .int .i64 oc, .string od]] w fun e w' => e = .returned (.agg #[.int .i64 0, .string ⟨#[]⟩, .int .i64 30, .slice none 0 0]) ∧ Below w.heap.size w w' := by
  have C := Lib.hid (fun W => Wire_bad of_ ha g W)
  clear ha
  go_enter Try.func18, Try.ntmps18
  go_wp2_with (go_at_call 29; refine (C.out _).mono ?_; rintro e v ⟨rfl, rfl⟩)
  refine bodyPost_ret (res47 rfl _ _ (w.heap.size + 1) _ _ _ _ rfl ((blk_at (by simp) 47 [_, _, _, _]).alloc _)) rfl ⟨rfl, ?_⟩
  exact (((Below.refl _ _).alloc (Nat.le_refl _) _).alloc (by simp) _).alloc (by simp; omega) _
set_option maxRecDepth 100000 in
set_option maxHeartbeats 800000 in
theorem act_recv_bad (t ok of_ oc : Int) (od : ByteArray) (ha : ¬ (of_ = 0 ∨ of_ = 1)) (g : Nat) (w : World) :
    Calls Try.prog 18 #[.pointer (some ⟨g, 0, none⟩), .agg #[.int .i64 7, .int .i64 t, .int .i64 ok, .int .i64 of_, .int .i64 oc, .string od]] w fun e w' => e = .returned (.agg #[.int .i64 0, .string ⟨#[]⟩, .int .i64 30, .slice none 0 0]) ∧ Below w.heap.size w w' := by
  have C := Lib.hid (fun W => Wire_bad of_ ha g W)
  clear ha
  go_enter Try.func18, Try.ntmps18
  go_wp2_with (go_at_call 29; refine (C.out _).mono ?_; rintro e v ⟨rfl, rfl⟩)
  refine bodyPost_ret (res47 rfl _ _ (w.heap.size + 1) _ _ _ _ rfl ((blk_at (by simp) 47 [_, _, _, _]).alloc _)) rfl ⟨rfl, ?_⟩
  exact (((Below.refl _ _).alloc (Nat.le_refl _) _).alloc (by simp) _).alloc (by simp; omega) _
set_option maxRecDepth 100000 in
set_option maxHeartbeats 800000 in
theorem act_else (k t ok of_ oc : Int) (od : ByteArray) (hk : ¬ (0 ≤ k ∧ k ≤ 7)) (g : Nat) (w : World) :
    Calls Try.prog 18 #[.pointer (some ⟨g, 0, none⟩), .agg #[.int .i64 k, .int .i64 t, .int .i64 ok, .int .i64 of_, .int .i64 oc, .string od]] w fun e w' => e = .returned (.agg #[.int .i64 0, .string ⟨#[]⟩, .int .i64 0, .slice none 0 0]) ∧ Below w.heap.size w w' := by
  have e0 : (k == 0) = false := by rw [beq_eq_false_iff_ne]; omega
  have e1 : (k == 1) = false := by rw [beq_eq_false_iff_ne]; omega
  have e2 : (k == 2) = false := by rw [beq_eq_false_iff_ne]; omega
  have e3 : (k == 3) = false := by rw [beq_eq_false_iff_ne]; omega
  have e4 : (k == 4) = false := by rw [beq_eq_false_iff_ne]; omega
  have e5 : (k == 5) = false := by rw [beq_eq_false_iff_ne]; omega
  have e6 : (k == 6) = false := by rw [beq_eq_false_iff_ne]; omega
  have e7 : (k == 7) = false := by rw [beq_eq_false_iff_ne]; omega
  clear hk
  go_enter Try.func18, Try.ntmps18
  go_wp2_with fail
  refine bodyPost_ret (res47 rfl _ _ (w.heap.size + 1) _ _ _ _ rfl ((blk_at (by simp) 47 [_, _, _, _]).alloc _)) rfl ⟨rfl, ?_⟩
  exact (((Below.refl _ _).alloc (Nat.le_refl _) _).alloc (by simp) _).alloc (by simp; omega) _
set_option maxRecDepth 100000 in
set_option maxHeartbeats 1600000 in
theorem act_answers (t ok of_ oc : Int) (od : ByteArray) {st : St} (g : Nat) (S : Sl) (w : World) (hP : PipeAt w g S st) :
    Calls Try.prog 18 #[.pointer (some ⟨g, 0, none⟩), .agg #[.int .i64 5, .int .i64 t, .int .i64 ok, .int .i64 of_, .int .i64 oc, .string od]] w fun e w' => e = .returned (.agg #[.int .i64 0, .string ⟨#[]⟩, .int .i64 0, S.sa]) ∧ Row w' 51 4 S.sa st.ans.length (ansC st.ans) ∧ (∀ k, S.sa.ownBlock = some k → ¬ Sl.has ⟨S.s0, S.s1, S.sw, .slice none 0 0⟩ g k) ∧ PipeAt w' g ⟨S.s0, S.s1, S.sw, .slice none 0 0⟩ (taken st) ∧ Turn g S w ⟨S.s0, S.s1, S.sw, .slice none 0 0⟩ w' := by
  have BB : Below w.heap.size w (((w.alloc (.cells #[.int .i64 5, .int .i64 t, .int .i64 ok, .int .i64 of_, .int .i64 oc, .string od] 44)).alloc (.cells #[.int .i64 0, .string ⟨#[]⟩, .int .i64 0, .slice none 0 0] 47)).alloc (.cells #[.int .i64 0, .string ⟨#[]⟩, .int .i64 0, .slice none 0 0] 47)) := (((Below.refl _ _).alloc (Nat.le_refl _) _).alloc (by simp) _).alloc (by simp; omega) _
  have hsz : (((w.alloc (.cells #[.int .i64 5, .int .i64 t, .int .i64 ok, .int .i64 of_, .int .i64 oc, .string od] 44)).alloc (.cells #[.int .i64 0, .string ⟨#[]⟩, .int .i64 0, .slice none 0 0] 47)).alloc (.cells #[.int .i64 0, .string ⟨#[]⟩, .int .i64 0, .slice none 0 0] 47)).heap.size = w.heap.size + 3 := blk3 w _ _ _
  have HO : Hid (∀ {v S' st'}, PipeAt v g S' st' → Turn g S (((w.alloc (.cells #[.int .i64 5, .int .i64 t, .int .i64 ok, .int .i64 of_, .int .i64 oc, .string od] 44)).alloc (.cells #[.int .i64 0, .string ⟨#[]⟩, .int .i64 0, .slice none 0 0] 47)).alloc (.cells #[.int .i64 0, .string ⟨#[]⟩, .int .i64 0, .slice none 0 0] 47)) S' v → Out w g S (w.heap.size + 3) S' st' v) := Lib.hid (fun hp ht => hsz ▸ Out.of hP BB hp ht)
  have C := Lib.hid (Answers_any g S st _ (hP.below BB))
  have NO1 : Hid (S.sa.ownBlock ≠ some (w.heap.size + 1)) := Lib.hid (fun e => by have := hP.ra.lt e; omega)
  have NO2 : Hid (S.sa.ownBlock ≠ some (w.heap.size + 1 + 1)) := Lib.hid (fun e => by have := hP.ra.lt e; omega)
  have HK1 := Lib.hid (show Blk (((w.alloc (.cells #[.int .i64 5, .int .i64 t, .int .i64 ok, .int .i64 of_, .int .i64 oc, .string od] 44)).alloc (.cells #[.int .i64 0, .string ⟨#[]⟩, .int .i64 0, .slice none 0 0] 47)).alloc (.cells #[.int .i64 0, .string ⟨#[]⟩, .int .i64 0, .slice none 0 0] 47)) (w.heap.size + 1) 47 [.int .i64 0, .string ⟨#[]⟩, .int .i64 0, .slice none 0 0] from (blk_at (by simp) 47 [_, _, _, _]).alloc _)
  have HK2 := Lib.hid (show Blk (((w.alloc (.cells #[.int .i64 5, .int .i64 t, .int .i64 ok, .int .i64 of_, .int .i64 oc, .string od] 44)).alloc (.cells #[.int .i64 0, .string ⟨#[]⟩, .int .i64 0, .slice none 0 0] 47)).alloc (.cells #[.int .i64 0, .string ⟨#[]⟩, .int .i64 0, .slice none 0 0] 47)) (w.heap.size + 1 + 1) 47 [.int .i64 0, .string ⟨#[]⟩, .int .i64 0, .slice none 0 0] from blk_at (by simp) 47 [_, _, _, _])
  have nS1 : Hid (¬ S.has g (w.heap.size + 1)) := Lib.hid (fun hh => by have := hP.lt hh; omega)
  have nS2 : Hid (¬ S.has g (w.heap.size + 1 + 1)) := Lib.hid (fun hh => by have := hP.lt hh; omega)
  obtain ⟨av, cv, hsv, _⟩ := hP.ra.form
  have HSV := Lib.hid hsv
  rw [hsv] at C
  clear BB hsz hP hsv
  go_enter Try.func18, Try.ntmps18
  go_wp2_with (go_at_call 19; refine (C.out).mono ?_; rintro e v ⟨rfl, R1, P1, T1, A1⟩; have HR := Lib.hid R1; have HA := Lib.hid A1; have J1 := Lib.hid (T1.blk HK1.out nS1.out); have J2 := Lib.hid (T1.blk HK2.out nS2.out); have HOV := Lib.hid (HO.out P1 T1); clear P1 T1 R1 A1; have j0 : v.cell? ⟨w.heap.size + 1 + 1, 0, none⟩ = some (.int .i64 0) := J2.out.cell 0; have i0 : v.cell? ⟨w.heap.size + 1, 0, none⟩ = some (.int .i64 0) := J1.out.cell 0; have j1 : v.cell? ⟨w.heap.size + 1 + 1, 1, none⟩ = some (.string ⟨#[]⟩) := J2.out.cell 1; have i1 : v.cell? ⟨w.heap.size + 1, 1, none⟩ = some (.string ⟨#[]⟩) := J1.out.cell 1; have j2 : v.cell? ⟨w.heap.size + 1 + 1, 2, none⟩ = some (.int .i64 0) := J2.out.cell 2; have i2 : v.cell? ⟨w.heap.size + 1, 2, none⟩ = some (.int .i64 0) := J1.out.cell 2; have j3 : v.cell? ⟨w.heap.size + 1 + 1, 3, none⟩ = some (.slice none 0 0) := J2.out.cell 3; have i3 : v.cell? ⟨w.heap.size + 1, 3, none⟩ = some (.slice none 0 0) := J1.out.cell 3; have jf := fun i => J2.out.frozen i; have if_ := fun i => J1.out.frozen i)
  rw [HSV.out] at NO1 NO2
  rw [HSV.out]
  refine bodyPost_ret (res47 rfl _ _ (w.heap.size + 1) _ _ _ _ rfl (((((J1.out.far (p := ⟨w.heap.size + 1 + 1, 3, none⟩) (show w.heap.size + 1 ≠ w.heap.size + 1 + 1 by omega) _).set_ 0 _).set_ 1 _).set_ 2 _).set_ 3 _)) rfl ⟨rfl, ?_, HA.out, ?_⟩
  · exact ((((((((((HR.out).set_ (p := ⟨w.heap.size + 1 + 1, 3, none⟩) NO2.out _)).set_ (p := ⟨w.heap.size + 1, 0, none⟩) NO1.out _)).set_ (p := ⟨w.heap.size + 1, 1, none⟩) NO1.out _)).set_ (p := ⟨w.heap.size + 1, 2, none⟩) NO1.out _)).set_ (p := ⟨w.heap.size + 1, 3, none⟩) NO1.out _)
  · refine Out.both (k1 := w.heap.size + 3) ?_
    exact (((((HOV.out).set (b := w.heap.size + 1 + 1) (i := 3) (by omega) (by omega) _).set (b := w.heap.size + 1) (i := 0) (by omega) (by omega) _).set (b := w.heap.size + 1) (i := 1) (by omega) (by omega) _).set (b := w.heap.size + 1) (i := 2) (by omega) (by omega) _).set (b := w.heap.size + 1) (i := 3) (by omega) (by omega) _
/-- Do -/
theorem Do_any (x : Ac) (hd : x.op.data.size ≤ 9000) {n : Nat} {st : St} (h : Gd n st) (hn : n ≤ 900) (g : Nat) (S : Sl) (w : World) (hP : PipeAt w g S st) :
    Calls Try.prog 18 #[.pointer (some ⟨g, 0, none⟩), acV x] w fun e w' => ∃ v S', e = .returned (.agg #[.int .i64 (doR st x).2.num, .string (doR st x).2.txt, .int .i64 (doR st x).2.err, v]) ∧ Row w' 51 4 v (doR st x).2.ans.length (ansC (doR st x).2.ans) ∧ (∀ k, v.ownBlock = some k → S.has g k ∧ ¬ S'.has g k) ∧ PipeAt w' g S' (doR st x).1 ∧ Turn g S w S' w' := by
  obtain ⟨k, t, ⟨ok, of_, oc, od⟩⟩ := x
  unfold acV
  have hnil : ∀ (S' : Sl) (j : Nat), (Value.slice none 0 0).ownBlock = some j → S.has g j ∧ ¬ S'.has g j := fun _ _ hk => by cases hk
  by_cases k0 : k = 0
  · subst k0
    exact (act_ask t ok of_ oc od hd h hn g S w hP).mono fun e w' ⟨he, S', p, q⟩ => ⟨_, S', he, Row.nil _ _ _, hnil S', p, q⟩
  by_cases k1 : k = 1
  · subst k1
    by_cases o0 : ok = 0
    · subst o0
      exact (act_read t of_ oc od hd h hn g S w hP).mono fun e w' ⟨he, S', p, q⟩ => ⟨_, S', he, Row.nil _ _ _, hnil S', p, q⟩
    · have hr : doR st ⟨1, t, ⟨ok, of_, oc, od⟩⟩ = ((onceR st ⟨1, of_, 0, od⟩).1, ⟨(onceR st ⟨1, of_, 0, od⟩).2.1, ⟨#[]⟩, (onceR st ⟨1, of_, 0, od⟩).2.2.2, []⟩) := by
        unfold doR; rw [if_neg (show ¬ (1 : Int) = 0 by decide), if_pos rfl, if_neg o0]
      rw [hr]
      exact (act_write t ok of_ oc od hd (by rw [beq_eq_false_iff_ne]; exact o0) h hn g S w hP).mono fun e w' ⟨he, S', p, q⟩ => ⟨_, S', he, Row.nil _ _ _, hnil S', p, q⟩
  by_cases k2 : k = 2
  · subst k2
    exact (act_cancel t ok of_ oc od hd h hn g S w hP).mono fun e w' ⟨he, S', p, q⟩ => ⟨_, S', he, Row.nil _ _ _, hnil S', p, q⟩
  by_cases k3 : k = 3
  · subst k3
    exact (act_flush t ok of_ oc od hd h hn g S w hP).mono fun e w' ⟨he, S', p, q⟩ => ⟨_, S', he, Row.nil _ _ _, hnil S', p, q⟩
  by_cases k4 : k = 4
  · subst k4
    exact (act_close t ok of_ oc od hd h hn g S w hP).mono fun e w' ⟨he, S', p, q⟩ => ⟨_, S', he, Row.nil _ _ _, hnil S', p, q⟩
  by_cases k5 : k = 5
  · subst k5
    exact (act_answers t ok of_ oc od g S w hP).mono fun e w' ⟨he, r, a, p, q⟩ => ⟨_, _, he, r, fun j hj => ⟨.inr (.inr (.inr (.inr hj))), a j hj⟩, p, q⟩
  by_cases k6 : k = 6
  · subst k6
    by_cases ha : of_ = 0 ∨ of_ = 1
    · have hr : doR st ⟨6, t, ⟨ok, of_, oc, od⟩⟩ = ((onceR st ⟨1, of_, 0, od⟩).1, ⟨0, ⟨#[]⟩, (onceR st ⟨1, of_, 0, od⟩).2.2.2, []⟩) := by
        unfold doR; simp only [if_pos ha]; rfl
      rw [hr]
      exact (act_send t ok of_ oc od hd ha h hn g S w hP).mono fun e w' ⟨he, S', p, q⟩ => ⟨_, S', he, Row.nil _ _ _, hnil S', p, q⟩
    · have hr : doR st ⟨6, t, ⟨ok, of_, oc, od⟩⟩ = (st, ⟨0, ⟨#[]⟩, 30, []⟩) := by
        unfold doR; simp only [if_neg ha]; rfl
      rw [hr]
      exact (act_send_bad t ok of_ oc od ha g w).mono fun e w' ⟨he, hb⟩ => ⟨_, S, he, Row.nil _ _ _, hnil S, hP.below hb, Turn.of_below hb⟩
  by_cases k7 : k = 7
  · subst k7
    by_cases ha : of_ = 0 ∨ of_ = 1
    · have hr : doR st ⟨7, t, ⟨ok, of_, oc, od⟩⟩ = ((recvR st of_).1, ⟨0, (recvR st of_).2.1, (recvR st of_).2.2, []⟩) := by
        unfold doR; simp only [if_pos ha]; rfl
      rw [hr]
      exact (act_recv t ok of_ oc od hd ha h hn g S w hP).mono fun e w' ⟨he, S', p, q⟩ => ⟨_, S', he, Row.nil _ _ _, hnil S', p, q⟩
    · have hr : doR st ⟨7, t, ⟨ok, of_, oc, od⟩⟩ = (st, ⟨0, ⟨#[]⟩, 30, []⟩) := by
        unfold doR; simp only [if_neg ha]; rfl
      rw [hr]
      exact (act_recv_bad t ok of_ oc od ha g w).mono fun e w' ⟨he, hb⟩ => ⟨_, S, he, Row.nil _ _ _, hnil S, hP.below hb, Turn.of_below hb⟩
  · have hr : doR st ⟨k, t, ⟨ok, of_, oc, od⟩⟩ = (st, ⟨0, ⟨#[]⟩, 0, []⟩) := by
      unfold doR; simp only [if_neg k0, if_neg k1, if_neg k2, if_neg k3, if_neg k4, if_neg k5, if_neg k6, if_neg k7]
    rw [hr]
    exact (act_else k t ok of_ oc od (by omega) g w).mono fun e w' ⟨he, hb⟩ => ⟨_, S, he, Row.nil _ _ _, hnil S, hP.below hb, Turn.of_below hb⟩
end Go.Proofs.Ytmnlojbfdpjjdaa
