/- Read, Write, Ask. -/
import Derived.Test.YtmnlojbfdpjjdaaB5
import Derived.Deep.AppendLies
namespace Go.Proofs.Ytmnlojbfdpjjdaa
open Go.RowKit
attribute [local go_sem] Oper.semAt_some
attribute [local go_sem ↓] run_appSem
theorem PipeAt.cellset {w : World} {g : Nat} {S : Sl} {st st' : St} (h : PipeAt w g S st) (i : Nat) (u : Value) (hC : (pipeC S st).set i u = pipeC S st') (e0 : st'.q0 = st.q0) (e1 : st'.q1 = st.q1) (e2 : st'.ws = st.ws) (e3 : st'.ans = st.ans) :
    PipeAt (w.setCell ⟨g, i, none⟩ u) g S st' ∧ Turn g S w S (w.setCell ⟨g, i, none⟩ u) := by
  have hset : ∀ k, k ≠ g → (w.setCell ⟨g, i, none⟩ u).heap[k]? = w.heap[k]? := fun k hk => Below.heap_setCell w _ u k hk
  have hB := h.blk.set_ i u
  rw [hC] at hB
  refine ⟨⟨hB, ?_, ?_, ?_, ?_, h.apart⟩, ⟨rfl, rfl, rfl, by simp [World.setCell], fun k _ hn => hset k (fun e => hn (.inl e)), fun k hk => .inl hk⟩⟩
  · rw [e0]; exact h.r0.keep fun k e => hset k (fun e2 => h.r0.ne h.blk (by decide) (e2 ▸ e))
  · rw [e1]; exact h.r1.keep fun k e => hset k (fun e2 => h.r1.ne h.blk (by decide) (e2 ▸ e))
  · rw [e2]; exact h.rw_.keep fun k e => hset k (fun e2 => h.rw_.ne h.blk (by decide) (e2 ▸ e))
  · rw [e3]; exact h.ra.keep fun k e => hset k (fun e2 => h.ra.ne h.blk (by decide) (e2 ▸ e))
theorem Write_nil (a : Int) (d : ByteArray) (w : World) : Calls Try.prog 13 #[.pointer none, .int .i64 a, .string d] w fun e w' => e = .returned (.tuple #[.int .i64 0, .int .i64 6]) ∧ Below w.heap.size w w' := by
  have C := Lib.hid (fun W => once_nil ⟨1, a, 0, d⟩ W)
  unfold opV at C
  go_enter Try.func13, Try.ntmps13
  go_wp2_with (go_at_call 33; refine (C.out _).mono ?_; rintro e v1 ⟨rfl, hb1⟩)
  go_ret2
  exact ⟨rfl, hb1⟩
theorem Write_any (a : Int) (d : ByteArray) (hd : d.size ≤ 1000000) (g : Nat) (S : Sl) (st : St) (w : World) (hP : PipeAt w g S st) (hs : Sm st) (hs2 : Sm (doS st ⟨1, a, 0, d⟩).1) (hw : WOk st) :
    Calls Try.prog 13 #[.pointer (some ⟨g, 0, none⟩), .int .i64 a, .string d] w fun e w' => e = .returned (.tuple #[.int .i64 (onceR st ⟨1, a, 0, d⟩).2.1, .int .i64 (onceR st ⟨1, a, 0, d⟩).2.2.2]) ∧ ∃ S', PipeAt w' g S' (onceR st ⟨1, a, 0, d⟩).1 ∧ Turn g S w S' w' := by
  have C := Lib.hid (once_any ⟨1, a, 0, d⟩ hd g S st w hP hs hs2 hw)
  unfold opV at C
  clear hP hs hs2 hw
  generalize onceR st ⟨1, a, 0, d⟩ = r at *
  go_enter Try.func13, Try.ntmps13
  go_wp2_with (go_at_call 33; refine (C.out).mono ?_; rintro e v1 ⟨rfl, S1, P1, T1⟩)
  go_ret2
  exact ⟨rfl, S1, P1, T1⟩
theorem Read_nil (a c : Int) (w : World) : Calls Try.prog 16 #[.pointer none, .int .i64 a, .int .i64 c] w fun e w' => e = .returned (.tuple #[.string ⟨#[]⟩, .int .i64 6]) ∧ Below w.heap.size w w' := by
  have C := Lib.hid (fun W => once_nil ⟨0, a, c, ⟨#[]⟩⟩ W)
  unfold opV at C
  go_enter Try.func16, Try.ntmps16
  go_wp2_with (go_at_call 33; refine (C.out _).mono ?_; rintro e v1 ⟨rfl, hb1⟩)
  go_ret2
  exact ⟨rfl, hb1⟩
theorem Read_any (a c : Int) (g : Nat) (S : Sl) (st : St) (w : World) (hP : PipeAt w g S st) (hs : Sm st) (hs2 : Sm (doS st ⟨0, a, c, ⟨#[]⟩⟩).1) (hw : WOk st) :
    Calls Try.prog 16 #[.pointer (some ⟨g, 0, none⟩), .int .i64 a, .int .i64 c] w fun e w' => e = .returned (.tuple #[.string (onceR st ⟨0, a, c, ⟨#[]⟩⟩).2.2.1, .int .i64 (onceR st ⟨0, a, c, ⟨#[]⟩⟩).2.2.2]) ∧ ∃ S', PipeAt w' g S' (onceR st ⟨0, a, c, ⟨#[]⟩⟩).1 ∧ Turn g S w S' w' := by
  have C := Lib.hid (once_any ⟨0, a, c, ⟨#[]⟩⟩ (by show (0 : Nat) ≤ _; omega) g S st w hP hs hs2 hw)
  unfold opV at C
  clear hP hs hs2 hw
  generalize onceR st ⟨0, a, c, ⟨#[]⟩⟩ = r at *
  go_enter Try.func16, Try.ntmps16
  go_wp2_with (go_at_call 33; refine (C.out).mono ?_; rintro e v1 ⟨rfl, S1, P1, T1⟩)
  go_ret2
  exact ⟨rfl, S1, P1, T1⟩
/-- to ask: the pipe, the ticket, the error -/
def tick (st : St) : St := ⟨st.q0, st.q1, st.c0, st.c1, st.limit, st.tks + 1, st.ws, st.ans⟩
def askW (st : St) (x : Op) : St := ⟨st.q0, st.q1, st.c0, st.c1, st.limit, st.tks + 1, st.ws ++ [⟨x, st.tks + 1⟩], st.ans⟩
def askD (st : St) (x : Op) : St := answered (doS (tick st) x).1 ⟨st.tks + 1, (doS (tick st) x).2.1, (doS (tick st) x).2.2, 0⟩
def askR (st : St) (x : Op) : St × Int × Int :=
  if checkE st x ≠ 0 then (st, 0, checkE st x) else if waitsB st x then (if 16 ≤ likeN st.ws x then (st, 0, 24) else (settle (askW st x), st.tks + 1, 0)) else (settle (askD st x), st.tks + 1, 0)
set_option maxHeartbeats 800000 in
theorem Ask_nil (x : Op) (w : World) : Calls Try.prog 31 #[.pointer none, opV x] w fun e w' => e = .returned (.tuple #[.int .i64 0, .int .i64 6]) ∧ Below w.heap.size w w' := by
  have CC := Lib.hid (fun W (_ : Below w.heap.size w W) => check_nil x W)
  obtain ⟨k, f, c, d⟩ := x
  unfold opV at *
  go_enter Try.func31, Try.ntmps31
  go_wp2_with (go_at_call 53; refine (CC.out _ ?_).mono ?_; exact (Below.refl _ _).alloc (Nat.le_refl _) _; rintro e v1 ⟨rfl, hb1⟩; have K1 := Lib.hid (keepBlk hb1 (Blk.new w 42 [.int .i64 k, .int .i64 f, .int .i64 c, .string d])); have b0v1 : v1.cell? ⟨w.heap.size, 0, none⟩ = some (.int .i64 k) := K1.out.cell 0; have b1v1 : v1.cell? ⟨w.heap.size, 1, none⟩ = some (.int .i64 f) := K1.out.cell 1; have b2v1 : v1.cell? ⟨w.heap.size, 2, none⟩ = some (.int .i64 c) := K1.out.cell 2; have b3v1 : v1.cell? ⟨w.heap.size, 3, none⟩ = some (.string d) := K1.out.cell 3; have B1 := Lib.hid (keepBelow ((Below.refl _ _).alloc (Nat.le_refl _) _) hb1); clear hb1)
  go_ret2
  exact ⟨rfl, B1.out⟩
theorem Ask_err (x : Op) (g : Nat) (S : Sl) (st : St) (w : World) (hP : PipeAt w g S st) (hs : Sm st) (he : checkE st x ≠ 0) :
    Calls Try.prog 31 #[.pointer (some ⟨g, 0, none⟩), opV x] w fun e w' => e = .returned (.tuple #[.int .i64 0, .int .i64 (checkE st x)]) ∧ Below w.heap.size w w' := by
  have CC := Lib.hid (fun W (hb : Below w.heap.size w W) => check_any x g S st W (hP.below hb) hs)
  generalize checkE st x = ce at *
  have hne : (ce != 0) = true := by rw [bne_iff_ne]; exact he
  clear hP hs he
  obtain ⟨k, f, c, d⟩ := x
  unfold opV at *
  go_enter Try.func31, Try.ntmps31
  go_wp2_with (go_at_call 53; refine (CC.out _ ?_).mono ?_; exact (Below.refl _ _).alloc (Nat.le_refl _) _; rintro e v1 ⟨rfl, hb1⟩; have K1 := Lib.hid (keepBlk hb1 (Blk.new w 42 [.int .i64 k, .int .i64 f, .int .i64 c, .string d])); have b0v1 : v1.cell? ⟨w.heap.size, 0, none⟩ = some (.int .i64 k) := K1.out.cell 0; have b1v1 : v1.cell? ⟨w.heap.size, 1, none⟩ = some (.int .i64 f) := K1.out.cell 1; have b2v1 : v1.cell? ⟨w.heap.size, 2, none⟩ = some (.int .i64 c) := K1.out.cell 2; have b3v1 : v1.cell? ⟨w.heap.size, 3, none⟩ = some (.string d) := K1.out.cell 3; have B1 := Lib.hid (keepBelow ((Below.refl _ _).alloc (Nat.le_refl _) _) hb1); clear hb1)
  go_ret2
  exact ⟨rfl, B1.out⟩
theorem Ask_full (x : Op) (g : Nat) (S : Sl) (st : St) (w : World) (hP : PipeAt w g S st) (hs : Sm st) (he : checkE st x = 0) (hwt : waitsB st x = true) (hl : 16 ≤ likeN st.ws x) :
    Calls Try.prog 31 #[.pointer (some ⟨g, 0, none⟩), opV x] w fun e w' => e = .returned (.tuple #[.int .i64 0, .int .i64 24]) ∧ Below w.heap.size w w' := by
  have HP := Lib.hid (fun W (hb : Below w.heap.size w W) => hP.below hb)
  have CC := Lib.hid (fun W (hb : Below w.heap.size w W) => check_any x g S st W (hP.below hb) hs)
  rw [he] at CC
  have CW := Lib.hid (fun W (hb : Below w.heap.size w W) => waits_any x (checkE_ok he).1 g S st W (hP.below hb) hs)
  rw [hwt] at CW
  have CL := Lib.hid (fun W (hb : Below w.heap.size w W) => like_any x g S st W (hP.below hb) hs)
  have hg := hP.blk.lt
  generalize likeN st.ws x = n at *
  have hn : (16 : Int) ≤ n := by omega
  clear hP hs he hwt hl HP hg
  obtain ⟨k, f, c, d⟩ := x
  unfold opV at *
  go_enter Try.func31, Try.ntmps31
  go_wp2_with (first
    | (go_at_call 53; refine (CC.out _ ?_).mono ?_; exact (Below.refl _ _).alloc (Nat.le_refl _) _; rintro e v1 ⟨rfl, hb1⟩; have K1 := Lib.hid (keepBlk hb1 (Blk.new w 42 [.int .i64 k, .int .i64 f, .int .i64 c, .string d])); have b0v1 : v1.cell? ⟨w.heap.size, 0, none⟩ = some (.int .i64 k) := K1.out.cell 0; have b1v1 : v1.cell? ⟨w.heap.size, 1, none⟩ = some (.int .i64 f) := K1.out.cell 1; have b2v1 : v1.cell? ⟨w.heap.size, 2, none⟩ = some (.int .i64 c) := K1.out.cell 2; have b3v1 : v1.cell? ⟨w.heap.size, 3, none⟩ = some (.string d) := K1.out.cell 3; have B1 := Lib.hid (keepBelow ((Below.refl _ _).alloc (Nat.le_refl _) _) hb1); clear hb1)
    | (go_at_call 54; refine (CW.out _ ?_).mono ?_; exact B1.out; rintro e v2 ⟨rfl, hb2⟩; have K2 := Lib.hid (keepBlk hb2 K1.out); have b0v2 : v2.cell? ⟨w.heap.size, 0, none⟩ = some (.int .i64 k) := K2.out.cell 0; have b1v2 : v2.cell? ⟨w.heap.size, 1, none⟩ = some (.int .i64 f) := K2.out.cell 1; have b2v2 : v2.cell? ⟨w.heap.size, 2, none⟩ = some (.int .i64 c) := K2.out.cell 2; have b3v2 : v2.cell? ⟨w.heap.size, 3, none⟩ = some (.string d) := K2.out.cell 3; have B2 := Lib.hid (keepBelow B1.out hb2); clear hb2 b0v1 b1v1 b2v1 b3v1)
    | (go_at_call 55; refine (CL.out _ ?_).mono ?_; exact B2.out; rintro e v3 ⟨rfl, hb3⟩; have K3 := Lib.hid (keepBlk hb3 K2.out); have b0v3 : v3.cell? ⟨w.heap.size, 0, none⟩ = some (.int .i64 k) := K3.out.cell 0; have b1v3 : v3.cell? ⟨w.heap.size, 1, none⟩ = some (.int .i64 f) := K3.out.cell 1; have b2v3 : v3.cell? ⟨w.heap.size, 2, none⟩ = some (.int .i64 c) := K3.out.cell 2; have b3v3 : v3.cell? ⟨w.heap.size, 3, none⟩ = some (.string d) := K3.out.cell 3; have B3 := Lib.hid (keepBelow B2.out hb3); clear hb3))
  go_ret2
  exact ⟨rfl, B3.out⟩
set_option maxRecDepth 100000 in
set_option maxHeartbeats 1600000 in
theorem Ask_wait (x : Op) (g : Nat) (S : Sl) (st : St) (w : World) (hP : PipeAt w g S st) (hs : Sm st) (he : checkE st x = 0) (hwt : waitsB st x = true) (hl : likeN st.ws x < 16) (ht0 : 0 ≤ st.tks) (ht1 : st.tks ≤ 1000000) (hs2 : Sm (askW st x)) (hw2 : WOk (askW st x)) :
    Calls Try.prog 31 #[.pointer (some ⟨g, 0, none⟩), opV x] w fun e w' => e = .returned (.tuple #[.int .i64 (st.tks + 1), .int .i64 0]) ∧ ∃ S', PipeAt w' g S' (settle (askW st x)) ∧ Turn g S w S' w' := by
  obtain ⟨i0, hi, hz0, hz1, hz2⟩ := info_parts Try.info92
  have HP := Lib.hid (fun W (hb : Below w.heap.size w W) => hP.below hb)
  have CC := Lib.hid (fun W (hb : Below w.heap.size w W) => check_any x g S st W (hP.below hb) hs)
  rw [he] at CC
  have CW := Lib.hid (fun W (hb : Below w.heap.size w W) => waits_any x (checkE_ok he).1 g S st W (hP.below hb) hs)
  rw [hwt] at CW
  have CL := Lib.hid (fun W (hb : Below w.heap.size w W) => like_any x g S st W (hP.below hb) hs)
  have hg := hP.blk.lt
  have hql : st.ws.length ≤ 100000 := by have := hs.q; omega
  generalize likeN st.ws x = n at *
  have hn : ¬ (16 : Int) ≤ n := by omega
  have CSX := Lib.hid (fun W S' (hp : PipeAt W g S' (askW st x)) => settle_any g S' (askW st x) W hp hs2 hw2)
  have hX : askW st x = ⟨st.q0, st.q1, st.c0, st.c1, st.limit, st.tks + 1, st.ws ++ [⟨x, st.tks + 1⟩], st.ans⟩ := rfl
  have HX := Lib.hid hX
  generalize askW st x = stA at *
  clear hP hs he hwt hl hs2 hw2 hX
  obtain ⟨k, f, c, d⟩ := x
  unfold opV at *
  go_enter Try.func31, Try.ntmps31
  go_upto_region 10 with (first
    | (go_at_call 53; refine (CC.out _ ?_).mono ?_; exact (Below.refl _ _).alloc (Nat.le_refl _) _; rintro e v1 ⟨rfl, hb1⟩; have K1 := Lib.hid (keepBlk hb1 (Blk.new w 42 [.int .i64 k, .int .i64 f, .int .i64 c, .string d])); have b0v1 : v1.cell? ⟨w.heap.size, 0, none⟩ = some (.int .i64 k) := K1.out.cell 0; have b1v1 : v1.cell? ⟨w.heap.size, 1, none⟩ = some (.int .i64 f) := K1.out.cell 1; have b2v1 : v1.cell? ⟨w.heap.size, 2, none⟩ = some (.int .i64 c) := K1.out.cell 2; have b3v1 : v1.cell? ⟨w.heap.size, 3, none⟩ = some (.string d) := K1.out.cell 3; have B1 := Lib.hid (keepBelow ((Below.refl _ _).alloc (Nat.le_refl _) _) hb1); clear hb1)
    | (go_at_call 54; refine (CW.out _ ?_).mono ?_; exact B1.out; rintro e v2 ⟨rfl, hb2⟩; have K2 := Lib.hid (keepBlk hb2 K1.out); have b0v2 : v2.cell? ⟨w.heap.size, 0, none⟩ = some (.int .i64 k) := K2.out.cell 0; have b1v2 : v2.cell? ⟨w.heap.size, 1, none⟩ = some (.int .i64 f) := K2.out.cell 1; have b2v2 : v2.cell? ⟨w.heap.size, 2, none⟩ = some (.int .i64 c) := K2.out.cell 2; have b3v2 : v2.cell? ⟨w.heap.size, 3, none⟩ = some (.string d) := K2.out.cell 3; have B2 := Lib.hid (keepBelow B1.out hb2); clear hb2 b0v1 b1v1 b2v1 b3v1)
    | (go_at_call 55; refine (CL.out _ ?_).mono ?_; exact B2.out; rintro e v3 ⟨rfl, hb3⟩; have K3 := Lib.hid (keepBlk hb3 K2.out); have b0v3 : v3.cell? ⟨w.heap.size, 0, none⟩ = some (.int .i64 k) := K3.out.cell 0; have b1v3 : v3.cell? ⟨w.heap.size, 1, none⟩ = some (.int .i64 f) := K3.out.cell 1; have b2v3 : v3.cell? ⟨w.heap.size, 2, none⟩ = some (.int .i64 c) := K3.out.cell 2; have b3v3 : v3.cell? ⟨w.heap.size, 3, none⟩ = some (.string d) := K3.out.cell 3; have B3 := Lib.hid (keepBelow B2.out hb3); clear hb3; have z5 : v3.cell? ⟨g, 5, none⟩ = some (.int .i64 st.tks) := (HP.out v3 B3.out).cells.2.2.2.2.2.1; have f5 : v3.frozen? ⟨g, 5, none⟩ = false := (HP.out v3 B3.out).frozen 5))
  obtain ⟨PV, TV⟩ := (HP.out v3 B3.out).cellset (st' := tick st) 5 (.int .i64 (st.tks + 1)) rfl rfl rfl rfl rfl
  have HPV := Lib.hid PV
  have HTV := Lib.hid ((Turn.of_below B3.out : Turn g S w S v3).trans TV)
  have KV := Lib.hid (Blk.far K3.out (p := ⟨g, 5, none⟩) (by intro e; have e1 : w.heap.size = g := e; omega) (.int .i64 (st.tks + 1)))
  obtain ⟨V, hV⟩ : ∃ V, V = v3.setCell ⟨g, 5, none⟩ (.int .i64 (st.tks + 1)) := ⟨_, rfl⟩
  rw [← hV] at HPV HTV KV
  rw [← hV]
  clear PV TV hV z5 f5 b0v2 b1v2 b2v2 b3v2 b0v3 b1v3 b2v3 b3v3
  have b0 : V.cell? ⟨w.heap.size, 0, none⟩ = some (.int .i64 k) := KV.out.cell 0
  have b1 : V.cell? ⟨w.heap.size, 1, none⟩ = some (.int .i64 f) := KV.out.cell 1
  have b2 : V.cell? ⟨w.heap.size, 2, none⟩ = some (.int .i64 c) := KV.out.cell 2
  have b3 : V.cell? ⟨w.heap.size, 3, none⟩ = some (.string d) := KV.out.cell 3
  have s6 : V.cell? ⟨g, 6, none⟩ = some S.sw := HPV.out.cells.2.2.2.2.2.2.1
  have s6f := HPV.out.frozen 6
  have hgV := HPV.out.blk.lt
  have hbV := KV.out.lt
  have hdr : Below V.heap.size V ((V.alloc (.cells #[.int .i64 k, .int .i64 f, .int .i64 c, .string d, .int .i64 (st.tks + 1)] 92)).drew) := ((Below.refl _ _).alloc (Nat.le_refl _) _).drew
  obtain ⟨v7, w7, hrun, hrow7, hgr, hat⟩ := run_append_row (P := Try.prog) (w := (V.alloc (.cells #[.int .i64 k, .int .i64 f, .int .i64 c, .string d, .int .i64 (st.tks + 1)] 92)).drew) 86 86 92 i0 _ 5 48 Try.underlying86 hi hz0 hz1 hz2 rfl (by decide) S.sw st.ws.length (wtsC st.ws) (HPV.out.rw_.below hdr)
    ⟨V.heap.size, 0, none⟩ 1 1 [.int .i64 k, .int .i64 f, .int .i64 c, .string d, .int .i64 (st.tks + 1)] rfl (World.news_of_block (cs := #[.int .i64 k, .int .i64 f, .int .i64 c, .string d, .int .i64 (st.tks + 1)]) (t := 92) (fr := (0, 0)) (heap_alloc_new V _)) (by simp [Value.oneCell']) (by unfold maxLen; omega) (by omega)
  obtain ⟨a7, cap7, rfl, _⟩ := hrow7.form
  rw [run_appSem] at hrun
  have hsg : S.sw.ownBlock ≠ some g := HPV.out.rw_.ne HPV.out.blk (by decide)
  have w7c : w7.cell? ⟨g, 6, none⟩ = some S.sw := by rw [grown_cell hgr (by simp; omega) hsg, World.cell?_drew, World.cell?_alloc_lt _ _ _ hgV]; exact s6
  have w7f : w7.frozen? ⟨g, 6, none⟩ = false := by rw [grown_frozen hgr (by simp; omega) hsg, World.frozen?_drew, World.frozen?_of_block (w := V) (hdr.block g hgV)]; exact s6f
  obtain ⟨P7, T7⟩ := HPV.out.updw (w1 := w7) (v := .slice a7 (st.ws.length + 1) cap7) (st.ws ++ [⟨⟨k, f, c, d⟩, st.tks + 1⟩]) (grown_trans (below_grown hdr _) hgr) (by simpa [wtsC, wtC] using hrow7) (hat.imp id fun h k hk => by have := h k hk; simp at this; omega)
  have FIN := Lib.hid (HTV.out.trans T7)
  have HP7 : Hid (PipeAt _ g _ stA) := Lib.hid (by rw [HX.out]; exact P7)
  clear P7 T7 hrow7 hat hgr hi hz0 hz1 hz2 hdr hsg
  go_region
  all_goals go_wp2_with (go_at_call 57; refine (CSX.out _ _ HP7.out).mono ?_; rintro e w9 ⟨rfl, S9, P9, T9⟩)
  all_goals go_ret2
  all_goals exact ⟨rfl, S9, P9, FIN.out.trans T9⟩
set_option maxRecDepth 100000 in
set_option maxHeartbeats 1600000 in
theorem Ask_now (x : Op) (g : Nat) (S : Sl) (st : St) (w : World) (hP : PipeAt w g S st) (hs : Sm st) (he : checkE st x = 0) (hwt : waitsB st x = false) (hd : x.data.size ≤ 1000000) (ht0 : 0 ≤ st.tks) (ht1 : st.tks ≤ 1000000) (hs1 : Sm (tick st)) (hs2 : Sm (askD st x)) (hw2 : WOk (askD st x)) :
    Calls Try.prog 31 #[.pointer (some ⟨g, 0, none⟩), opV x] w fun e w' => e = .returned (.tuple #[.int .i64 (st.tks + 1), .int .i64 0]) ∧ ∃ S', PipeAt w' g S' (settle (askD st x)) ∧ Turn g S w S' w' := by
  obtain ⟨i0, hi, hz0, hz1, hz2⟩ := info_parts Try.info51
  have HP := Lib.hid (fun W (hb : Below w.heap.size w W) => hP.below hb)
  have CC := Lib.hid (fun W (hb : Below w.heap.size w W) => check_any x g S st W (hP.below hb) hs)
  rw [he] at CC
  have CW := Lib.hid (fun W (hb : Below w.heap.size w W) => waits_any x (checkE_ok he).1 g S st W (hP.below hb) hs)
  rw [hwt] at CW
  have CL := Lib.hid (fun W (hb : Below w.heap.size w W) => like_any x g S st W (hP.below hb) hs)
  have hg := hP.blk.lt
  have CD := Lib.hid (fun S' W (hp : PipeAt W g S' (tick st)) => do_any x (checkE_ok he).1 (checkE_ok he).2 g S' (tick st) (waits_no hwt) W hp hs1 hd)
  have CSX := Lib.hid (fun W S' (hp : PipeAt W g S' (askD st x)) => settle_any g S' (askD st x) W hp hs2 hw2)
  have hal := hs2.a
  obtain ⟨r, hr⟩ : ∃ r, r = doS (tick st) x := ⟨_, rfl⟩
  have hX : askD st x = answered r.1 ⟨st.tks + 1, r.2.1, r.2.2, 0⟩ := by rw [hr]; rfl
  rw [← hr] at CD
  rw [hX] at CSX hal
  obtain ⟨st3, cnt, dat⟩ := r
  simp only at CD CSX hal
  have hal2 : st3.ans.length ≤ 100000 := by have e : (answered st3 ⟨st.tks + 1, cnt, dat, 0⟩).ans.length = st3.ans.length + 1 := by simp [answered]
                                            omega
  rw [hX]
  clear hP hs he hwt hs2 hw2 hX hs1 hr hal CL
  obtain ⟨k, f, c, d⟩ := x
  unfold opV at *
  go_enter Try.func31, Try.ntmps31
  go_upto_region 11 with (first
    | (go_at_call 53; refine (CC.out _ ?_).mono ?_; exact (Below.refl _ _).alloc (Nat.le_refl _) _; rintro e v1 ⟨rfl, hb1⟩; have K1 := Lib.hid (keepBlk hb1 (Blk.new w 42 [.int .i64 k, .int .i64 f, .int .i64 c, .string d])); have b0v1 : v1.cell? ⟨w.heap.size, 0, none⟩ = some (.int .i64 k) := K1.out.cell 0; have b1v1 : v1.cell? ⟨w.heap.size, 1, none⟩ = some (.int .i64 f) := K1.out.cell 1; have b2v1 : v1.cell? ⟨w.heap.size, 2, none⟩ = some (.int .i64 c) := K1.out.cell 2; have b3v1 : v1.cell? ⟨w.heap.size, 3, none⟩ = some (.string d) := K1.out.cell 3; have B1 := Lib.hid (keepBelow ((Below.refl _ _).alloc (Nat.le_refl _) _) hb1); clear hb1)
    | (go_at_call 54; refine (CW.out _ ?_).mono ?_; exact B1.out; rintro e v2 ⟨rfl, hb2⟩; have K2 := Lib.hid (keepBlk hb2 K1.out); have b0v2 : v2.cell? ⟨w.heap.size, 0, none⟩ = some (.int .i64 k) := K2.out.cell 0; have b1v2 : v2.cell? ⟨w.heap.size, 1, none⟩ = some (.int .i64 f) := K2.out.cell 1; have b2v2 : v2.cell? ⟨w.heap.size, 2, none⟩ = some (.int .i64 c) := K2.out.cell 2; have b3v2 : v2.cell? ⟨w.heap.size, 3, none⟩ = some (.string d) := K2.out.cell 3; have B2 := Lib.hid (keepBelow B1.out hb2); clear hb2 b0v1 b1v1 b2v1 b3v1; have z5 : v2.cell? ⟨g, 5, none⟩ = some (.int .i64 st.tks) := (HP.out v2 B2.out).cells.2.2.2.2.2.1; have f5 : v2.frozen? ⟨g, 5, none⟩ = false := (HP.out v2 B2.out).frozen 5))
  obtain ⟨PV, TV⟩ := (HP.out v2 B2.out).cellset (st' := tick st) 5 (.int .i64 (st.tks + 1)) rfl rfl rfl rfl rfl
  have HPV := Lib.hid PV
  have HTV := Lib.hid ((Turn.of_below B2.out : Turn g S w S v2).trans TV)
  have KV := Lib.hid (Blk.far K2.out (p := ⟨g, 5, none⟩) (by intro e; have e1 : w.heap.size = g := e; omega) (.int .i64 (st.tks + 1)))
  obtain ⟨V, hV⟩ : ∃ V, V = v2.setCell ⟨g, 5, none⟩ (.int .i64 (st.tks + 1)) := ⟨_, rfl⟩
  rw [← hV] at HPV HTV KV
  rw [← hV]
  clear PV TV hV z5 f5 b0v2 b1v2 b2v2 b3v2
  have b0 : V.cell? ⟨w.heap.size, 0, none⟩ = some (.int .i64 k) := KV.out.cell 0
  have b1 : V.cell? ⟨w.heap.size, 1, none⟩ = some (.int .i64 f) := KV.out.cell 1
  have b2 : V.cell? ⟨w.heap.size, 2, none⟩ = some (.int .i64 c) := KV.out.cell 2
  have b3 : V.cell? ⟨w.heap.size, 3, none⟩ = some (.string d) := KV.out.cell 3
  go_upto_region 12 with (go_at_call 56; refine (CD.out _ _ HPV.out).mono ?_; rintro e w5 ⟨rfl, S3, P5, T5⟩; have HP5 := Lib.hid P5; have HT5 := Lib.hid (HTV.out.trans T5); clear P5 T5 b0 b1 b2 b3)
  have s7 := HP5.out.cells.2.2.2.2.2.2.2
  have s7f := HP5.out.frozen 7
  have hg5 := HP5.out.blk.lt
  have hdr : Below w5.heap.size w5 (w5.alloc (.cells #[.int .i64 (st.tks + 1), .int .i64 cnt, .string dat, .int .i64 0] 51)) := (Below.refl _ _).alloc (Nat.le_refl _) _
  obtain ⟨v7, w7, hrun, hrow7, hgr, hat⟩ := run_append_row (P := Try.prog) (w := w5.alloc (.cells #[.int .i64 (st.tks + 1), .int .i64 cnt, .string dat, .int .i64 0] 51)) 45 45 51 i0 _ 4 40 Try.underlying45 hi hz0 hz1 hz2 rfl (by decide) S3.sa st3.ans.length (ansC st3.ans) (HP5.out.ra.below hdr)
    ⟨w5.heap.size, 0, none⟩ 1 1 [.int .i64 (st.tks + 1), .int .i64 cnt, .string dat, .int .i64 0] rfl (World.news_of_block (cs := #[.int .i64 (st.tks + 1), .int .i64 cnt, .string dat, .int .i64 0]) (t := 51) (fr := (0, 0)) (heap_alloc_new w5 _)) (by simp [Value.oneCell']) (by unfold maxLen; omega) (by omega)
  obtain ⟨a7, cap7, rfl, _⟩ := hrow7.form
  rw [run_appSem] at hrun
  have hsg : S3.sa.ownBlock ≠ some g := HP5.out.ra.ne HP5.out.blk (by decide)
  have w7c : w7.cell? ⟨g, 7, none⟩ = some S3.sa := by rw [grown_cell hgr (by simp; omega) hsg, World.cell?_alloc_lt _ _ _ hg5]; exact s7
  have w7f : w7.frozen? ⟨g, 7, none⟩ = false := by rw [grown_frozen hgr (by simp; omega) hsg, World.frozen?_of_block (w := w5) (hdr.block g hg5)]; exact s7f
  obtain ⟨P7, T7⟩ := HP5.out.upda (w1 := w7) (v := .slice a7 (st3.ans.length + 1) cap7) (st3.ans ++ [⟨st.tks + 1, cnt, dat, 0⟩]) (grown_trans (below_grown hdr _) hgr) (by simpa [ansC, anC] using hrow7) (hat.imp id fun h k hk => by have := h k hk; simp at this; omega)
  have FIN := Lib.hid (HT5.out.trans T7)
  have HP7 := Lib.hid P7
  clear P7 T7 hrow7 hat hgr hi hz0 hz1 hz2 hdr hsg
  go_wp2_with (go_at_call 57; refine (CSX.out _ _ HP7.out).mono ?_; rintro e w9 ⟨rfl, S9, P9, T9⟩)
  go_ret2
  exact ⟨rfl, S9, P9, FIN.out.trans T9⟩
theorem Ask_any (x : Op) (hd : x.data.size ≤ 1000000) (g : Nat) (S : Sl) (st : St) (w : World) (hP : PipeAt w g S st) (hs : Sm st) (ht0 : 0 ≤ st.tks) (ht1 : st.tks ≤ 1000000) (hsW : Sm (askW st x)) (hwW : checkE st x = 0 → WOk (askW st x)) (hsD : Sm (askD st x)) (hwD : WOk (askD st x)) :
    Calls Try.prog 31 #[.pointer (some ⟨g, 0, none⟩), opV x] w fun e w' => e = .returned (.tuple #[.int .i64 (askR st x).2.1, .int .i64 (askR st x).2.2]) ∧ ∃ S', PipeAt w' g S' (askR st x).1 ∧ Turn g S w S' w' := by
  unfold askR
  by_cases he : checkE st x = 0
  · rw [if_neg (by simp [he])]
    cases hwt : waitsB st x with
    | true =>
      rw [if_pos rfl]
      by_cases hl : 16 ≤ likeN st.ws x
      · rw [if_pos hl]
        exact (Ask_full x g S st w hP hs he hwt hl).mono fun e w' h => ⟨h.1, S, hP.below h.2, Turn.of_below h.2⟩
      · rw [if_neg hl]
        exact Ask_wait x g S st w hP hs he hwt (by omega) ht0 ht1 hsW (hwW he)
    | false =>
      rw [if_neg (by simp)]
      exact Ask_now x g S st w hP hs he hwt hd ht0 ht1 ⟨hs.q, hs.a, hs.z⟩ hsD hwD
  · rw [if_pos he]
    exact (Ask_err x g S st w hP hs he).mono fun e w' h => ⟨h.1, S, hP.below h.2, Turn.of_below h.2⟩
end Go.Proofs.Ytmnlojbfdpjjdaa
