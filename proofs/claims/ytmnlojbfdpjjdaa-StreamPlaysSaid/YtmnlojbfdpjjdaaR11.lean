/- The reference: Waits, At, Flush, Cancel. -/
import Derived.Test.YtmnlojbfdpjjdaaR10
namespace Go.Proofs.Ytmnlojbfdpjjdaa
open Go.RowKit
variable {F : Nat → Prop}
set_option maxHeartbeats 1600000 in
theorem rwaits_any (x : Op) (hx : OpIn x) (S : Sl) (st : St) (hs : Sm st) (w : World) (hR : Ref F w S st) :
    Calls Try.prog 64 #[rpV S st, opV x] w fun e w' => e = .returned (.bool (waitsB st x)) ∧ Below w.heap.size w w' := by
  have C79 := Lib.hid (fun W => rnothing_any x hx W)
  have C80 := Lib.hid (fun W (hb : Below w.heap.size w W) => rable_any x hx S st hs W (hR.below hb))
  have C65 := Lib.hid (fun W (hb : Below w.heap.size w W) => rahead_any x.kind x.fin S st hs W (hR.below hb))
  have hlk : likeN st.ws ⟨x.kind, x.fin, 0, ⟨#[]⟩⟩ = likeN st.ws x := rfl
  rw [hlk] at C65
  have HWB := Lib.hid (show waitsB st x = (!emptyB x && (decide (0 < likeN st.ws x) || !readyB st x)) from rfl)
  unfold ableB at C80
  obtain ⟨za0, zk0, za1, zk1, zaw, zkw, zaa, zka, rfl⟩ := hR.open
  obtain ⟨k, f, c, d⟩ := x
  unfold rpV opV at *
  have BW := Lib.hid (show Below w.heap.size w ((w.alloc (.cells #[.int .i64 st.limit, .slice za0 st.q0.length zk0, .slice za1 st.q1.length zk1, .bool st.c0, .bool st.c1, .int .i64 st.tks, .slice zaw st.ws.length zkw, .slice zaa st.ans.length zka] 60)).alloc (.cells #[.int .i64 k, .int .i64 f, .int .i64 c, .string d] 107)) from ((Below.refl _ _).alloc (Nat.le_refl _) _).alloc (by simp) _)
  have KA := Lib.hid (show Blk ((w.alloc (.cells #[.int .i64 st.limit, .slice za0 st.q0.length zk0, .slice za1 st.q1.length zk1, .bool st.c0, .bool st.c1, .int .i64 st.tks, .slice zaw st.ws.length zkw, .slice zaa st.ans.length zka] 60)).alloc (.cells #[.int .i64 k, .int .i64 f, .int .i64 c, .string d] 107)) w.heap.size 60 [.int .i64 st.limit, .slice za0 st.q0.length zk0, .slice za1 st.q1.length zk1, .bool st.c0, .bool st.c1, .int .i64 st.tks, .slice zaw st.ws.length zkw, .slice zaa st.ans.length zka] from (Blk.new w 60 _).alloc _)
  have KB := Lib.hid (show Blk ((w.alloc (.cells #[.int .i64 st.limit, .slice za0 st.q0.length zk0, .slice za1 st.q1.length zk1, .bool st.c0, .bool st.c1, .int .i64 st.tks, .slice zaw st.ws.length zkw, .slice zaa st.ans.length zka] 60)).alloc (.cells #[.int .i64 k, .int .i64 f, .int .i64 c, .string d] 107)) (w.heap.size + 1) 107 [.int .i64 k, .int .i64 f, .int .i64 c, .string d] from blk_at (by simp) 107 [_, _, _, _])
  simp only at C65 C80 C79
  clear hR hs hlk hx
  generalize emptyB ⟨k, f, c, d⟩ = eb at *
  generalize readyB st ⟨k, f, c, d⟩ = rb at *
  generalize likeN st.ws ⟨k, f, c, d⟩ = ln at *
  rw [HWB.out]
  cases eb with
  | true =>
    go_enter Try.func64, Try.ntmps64
    go_wp2_with (go_at_call 79; refine (C79.out _).mono ?_; rintro e v ⟨rfl, hb⟩; have HB := Lib.hid (keepBelow BW.out hb); clear hb)
    go_ret
    exact ⟨rfl, HB.out⟩
  | false =>
    simp only [Bool.false_or] at C80
    cases rb with
    | false =>
      have hor : (decide (0 < ln) || true) = true := by simp
      go_enter Try.func64, Try.ntmps64
      go_wp2_with (first
        | (go_at_call 79; refine (C79.out _).mono ?_; rintro e v ⟨rfl, hb⟩; have HB := Lib.hid (keepBelow BW.out hb); have JA := Lib.hid (keepBlk hb KA.out); have ja0 : v.cell? ⟨w.heap.size, 0, none⟩ = some (.int .i64 st.limit) := JA.out.cell 0; have ja1 : v.cell? ⟨w.heap.size, 1, none⟩ = some (.slice za0 st.q0.length zk0) := JA.out.cell 1; have ja2 : v.cell? ⟨w.heap.size, 2, none⟩ = some (.slice za1 st.q1.length zk1) := JA.out.cell 2; have ja3 : v.cell? ⟨w.heap.size, 3, none⟩ = some (.bool st.c0) := JA.out.cell 3; have ja4 : v.cell? ⟨w.heap.size, 4, none⟩ = some (.bool st.c1) := JA.out.cell 4; have ja5 : v.cell? ⟨w.heap.size, 5, none⟩ = some (.int .i64 st.tks) := JA.out.cell 5; have ja6 : v.cell? ⟨w.heap.size, 6, none⟩ = some (.slice zaw st.ws.length zkw) := JA.out.cell 6; have ja7 : v.cell? ⟨w.heap.size, 7, none⟩ = some (.slice zaa st.ans.length zka) := JA.out.cell 7; have JB := Lib.hid (keepBlk hb KB.out); have jb0 : v.cell? ⟨w.heap.size + 1, 0, none⟩ = some (.int .i64 k) := JB.out.cell 0; have jb1 : v.cell? ⟨w.heap.size + 1, 1, none⟩ = some (.int .i64 f) := JB.out.cell 1; have jb2 : v.cell? ⟨w.heap.size + 1, 2, none⟩ = some (.int .i64 c) := JB.out.cell 2; have jb3 : v.cell? ⟨w.heap.size + 1, 3, none⟩ = some (.string d) := JB.out.cell 3; clear hb)
        | (go_at_call 80; refine (C80.out _ ?_).mono ?_; exact HB.out; rintro e v2 ⟨rfl, hb⟩; have HB2 := Lib.hid (keepBelow HB.out hb); clear hb))
      go_ret
      exact ⟨by simp, HB2.out⟩
    | true =>
      have hor : (decide (0 < ln) || false) = decide (0 < ln) := by simp
      go_enter Try.func64, Try.ntmps64
      go_wp2_with (first
        | (go_at_call 79; refine (C79.out _).mono ?_; rintro e v ⟨rfl, hb⟩; have HB := Lib.hid (keepBelow BW.out hb); have JA := Lib.hid (keepBlk hb KA.out); have ja0 : v.cell? ⟨w.heap.size, 0, none⟩ = some (.int .i64 st.limit) := JA.out.cell 0; have ja1 : v.cell? ⟨w.heap.size, 1, none⟩ = some (.slice za0 st.q0.length zk0) := JA.out.cell 1; have ja2 : v.cell? ⟨w.heap.size, 2, none⟩ = some (.slice za1 st.q1.length zk1) := JA.out.cell 2; have ja3 : v.cell? ⟨w.heap.size, 3, none⟩ = some (.bool st.c0) := JA.out.cell 3; have ja4 : v.cell? ⟨w.heap.size, 4, none⟩ = some (.bool st.c1) := JA.out.cell 4; have ja5 : v.cell? ⟨w.heap.size, 5, none⟩ = some (.int .i64 st.tks) := JA.out.cell 5; have ja6 : v.cell? ⟨w.heap.size, 6, none⟩ = some (.slice zaw st.ws.length zkw) := JA.out.cell 6; have ja7 : v.cell? ⟨w.heap.size, 7, none⟩ = some (.slice zaa st.ans.length zka) := JA.out.cell 7; have JB := Lib.hid (keepBlk hb KB.out); have jb0 : v.cell? ⟨w.heap.size + 1, 0, none⟩ = some (.int .i64 k) := JB.out.cell 0; have jb1 : v.cell? ⟨w.heap.size + 1, 1, none⟩ = some (.int .i64 f) := JB.out.cell 1; have jb2 : v.cell? ⟨w.heap.size + 1, 2, none⟩ = some (.int .i64 c) := JB.out.cell 2; have jb3 : v.cell? ⟨w.heap.size + 1, 3, none⟩ = some (.string d) := JB.out.cell 3; clear hb)
        | (go_at_call 80; refine (C80.out _ ?_).mono ?_; exact HB.out; rintro e v2 ⟨rfl, hb⟩; have HB2 := Lib.hid (keepBelow HB.out hb); have LA := Lib.hid (keepBlk hb JA.out); have la0 : v2.cell? ⟨w.heap.size, 0, none⟩ = some (.int .i64 st.limit) := LA.out.cell 0; have la1 : v2.cell? ⟨w.heap.size, 1, none⟩ = some (.slice za0 st.q0.length zk0) := LA.out.cell 1; have la2 : v2.cell? ⟨w.heap.size, 2, none⟩ = some (.slice za1 st.q1.length zk1) := LA.out.cell 2; have la3 : v2.cell? ⟨w.heap.size, 3, none⟩ = some (.bool st.c0) := LA.out.cell 3; have la4 : v2.cell? ⟨w.heap.size, 4, none⟩ = some (.bool st.c1) := LA.out.cell 4; have la5 : v2.cell? ⟨w.heap.size, 5, none⟩ = some (.int .i64 st.tks) := LA.out.cell 5; have la6 : v2.cell? ⟨w.heap.size, 6, none⟩ = some (.slice zaw st.ws.length zkw) := LA.out.cell 6; have la7 : v2.cell? ⟨w.heap.size, 7, none⟩ = some (.slice zaa st.ans.length zka) := LA.out.cell 7; have LB := Lib.hid (keepBlk hb JB.out); have lb0 : v2.cell? ⟨w.heap.size + 1, 0, none⟩ = some (.int .i64 k) := LB.out.cell 0; have lb1 : v2.cell? ⟨w.heap.size + 1, 1, none⟩ = some (.int .i64 f) := LB.out.cell 1; have lb2 : v2.cell? ⟨w.heap.size + 1, 2, none⟩ = some (.int .i64 c) := LB.out.cell 2; have lb3 : v2.cell? ⟨w.heap.size + 1, 3, none⟩ = some (.string d) := LB.out.cell 3; clear hb)
        | (go_at_call 65; refine (C65.out _ ?_).mono ?_; exact HB2.out; rintro e v3 ⟨rfl, hb⟩; have HB3 := Lib.hid (keepBelow HB2.out hb); clear hb))
      go_ret
      exact ⟨by simp, HB3.out⟩
end Go.Proofs.Ytmnlojbfdpjjdaa
