/- The reference: able, ahead, Check, Waits. -/
import Derived.Test.YtmnlojbfdpjjdaaR1
namespace Go.Proofs.Ytmnlojbfdpjjdaa
open Go.RowKit
variable {F : Nat → Prop}
/-- a cell of a block, behind draws -/
theorem drewN_cell (w : World) (n : Nat) (a : Addr) : (w.drewN n).cell? a = w.cell? a := World.cell?_drewN ..
def ableB (st : St) (x : Op) : Bool := emptyB x || readyB st x
set_option maxHeartbeats 1600000 in
theorem rable_any (x : Op) (hx : OpIn x) (S : Sl) (st : St) (hs : Sm st) (w : World) (hR : Ref F w S st) :
    Calls Try.prog 80 #[rpV S st, opV x] w fun e w' => e = .returned (.bool (ableB st x)) ∧ Below w.heap.size w w' := by
  have C79 := Lib.hid (fun W => rnothing_any x hx W)
  have hql : ∀ y, (qOf st y).length ≤ 100000 := by intro y; have := hs.q; unfold qOf; split <;> omega
  have hqz : ∀ y, sizes (qOf st y) ≤ 1000000000000 := by intro y; have := hs.z; unfold qOf; split <;> omega
  obtain ⟨a0, k0, a1, k1, aw, kw, aa, ka, rfl⟩ := hR.open
  have C0 := Lib.hid (fun W (hb : Below w.heap.size w W) => rsize_any st.q0 _ W (hR.r0.below hb) (by have := hs.q; omega) (by have := hs.z; omega))
  have C1 := Lib.hid (fun W (hb : Below w.heap.size w W) => rsize_any st.q1 _ W (hR.r1.below hb) (by have := hs.q; omega) (by have := hs.z; omega))
  have hq0 : st.q0.length ≤ 100000 := by have := hs.q; omega
  have hq1 : st.q1.length ≤ 100000 := by have := hs.q; omega
  obtain ⟨k, f, c, d⟩ := x
  obtain ⟨hk, hf⟩ := hx
  unfold rpV
  unfold opV at *
  unfold ableB
  simp only at hk hf C79
  have BW := Lib.hid (show Below w.heap.size w ((w.alloc (.cells #[.int .i64 st.limit, .slice a0 st.q0.length k0, .slice a1 st.q1.length k1, .bool st.c0, .bool st.c1, .int .i64 st.tks, .slice aw st.ws.length kw, .slice aa st.ans.length ka] 60)).alloc (.cells #[.int .i64 k, .int .i64 f, .int .i64 c, .string d] 107)) from ((Below.refl _ _).alloc (Nat.le_refl _) _).alloc (by simp) _)
  have KA := Lib.hid (show Blk ((w.alloc (.cells #[.int .i64 st.limit, .slice a0 st.q0.length k0, .slice a1 st.q1.length k1, .bool st.c0, .bool st.c1, .int .i64 st.tks, .slice aw st.ws.length kw, .slice aa st.ans.length ka] 60)).alloc (.cells #[.int .i64 k, .int .i64 f, .int .i64 c, .string d] 107)) w.heap.size 60 [.int .i64 st.limit, .slice a0 st.q0.length k0, .slice a1 st.q1.length k1, .bool st.c0, .bool st.c1, .int .i64 st.tks, .slice aw st.ws.length kw, .slice aa st.ans.length ka] from (Blk.new w 60 _).alloc _)
  have KB := Lib.hid (show Blk ((w.alloc (.cells #[.int .i64 st.limit, .slice a0 st.q0.length k0, .slice a1 st.q1.length k1, .bool st.c0, .bool st.c1, .int .i64 st.tks, .slice aw st.ws.length kw, .slice aa st.ans.length ka] 60)).alloc (.cells #[.int .i64 k, .int .i64 f, .int .i64 c, .string d] 107)) (w.heap.size + 1) 107 [.int .i64 k, .int .i64 f, .int .i64 c, .string d] from blk_at (by simp) 107 [_, _, _, _])
  clear hR hql hqz hs
  cases he : emptyB ⟨k, f, c, d⟩ with
  | true =>
    rw [he] at C79
    clear he hk hf
    go_enter Try.func80, Try.ntmps80
    go_wp2_with (go_at_call 79; refine (C79.out _).mono ?_; rintro e v ⟨rfl, hb⟩; have HB := Lib.hid (keepBelow BW.out hb); clear hb)
    go_ret
    exact ⟨rfl, HB.out⟩
  | false =>
    rw [he] at C79
    rcases hk with rfl | rfl
    · rcases hf with rfl | rfl
      · rw [show (false || readyB st ⟨0, 0, c, d⟩) = decide (0 < st.q0.length) from rfl]
        clear he C0 C1
        go_enter Try.func80, Try.ntmps80
        go_wp2_with (go_at_call 79; refine (C79.out _).mono ?_; rintro e v ⟨rfl, hb⟩; have HB := Lib.hid (keepBelow BW.out hb); have JA := Lib.hid (keepBlk hb KA.out); have ja0 : v.cell? ⟨w.heap.size, 0, none⟩ = some (.int .i64 st.limit) := JA.out.cell 0; have ja1 : v.cell? ⟨w.heap.size, 1, none⟩ = some (.slice a0 st.q0.length k0) := JA.out.cell 1; have ja2 : v.cell? ⟨w.heap.size, 2, none⟩ = some (.slice a1 st.q1.length k1) := JA.out.cell 2; have ja3 : v.cell? ⟨w.heap.size, 3, none⟩ = some (.bool st.c0) := JA.out.cell 3; have ja4 : v.cell? ⟨w.heap.size, 4, none⟩ = some (.bool st.c1) := JA.out.cell 4; have ja5 : v.cell? ⟨w.heap.size, 5, none⟩ = some (.int .i64 st.tks) := JA.out.cell 5; have ja6 : v.cell? ⟨w.heap.size, 6, none⟩ = some (.slice aw st.ws.length kw) := JA.out.cell 6; have ja7 : v.cell? ⟨w.heap.size, 7, none⟩ = some (.slice aa st.ans.length ka) := JA.out.cell 7; have JB := Lib.hid (keepBlk hb KB.out); have jb0 : v.cell? ⟨w.heap.size + 1, 0, none⟩ = some (.int .i64 0) := JB.out.cell 0; have jb1 : v.cell? ⟨w.heap.size + 1, 1, none⟩ = some (.int .i64 0) := JB.out.cell 1; have jb2 : v.cell? ⟨w.heap.size + 1, 2, none⟩ = some (.int .i64 c) := JB.out.cell 2; have jb3 : v.cell? ⟨w.heap.size + 1, 3, none⟩ = some (.string d) := JB.out.cell 3; clear hb)
        go_ret
        exact ⟨rfl, HB.out⟩
      · rw [show (false || readyB st ⟨0, 1, c, d⟩) = decide (0 < st.q1.length) from rfl]
        clear he C0 C1
        go_enter Try.func80, Try.ntmps80
        go_wp2_with (go_at_call 79; refine (C79.out _).mono ?_; rintro e v ⟨rfl, hb⟩; have HB := Lib.hid (keepBelow BW.out hb); have JA := Lib.hid (keepBlk hb KA.out); have ja0 : v.cell? ⟨w.heap.size, 0, none⟩ = some (.int .i64 st.limit) := JA.out.cell 0; have ja1 : v.cell? ⟨w.heap.size, 1, none⟩ = some (.slice a0 st.q0.length k0) := JA.out.cell 1; have ja2 : v.cell? ⟨w.heap.size, 2, none⟩ = some (.slice a1 st.q1.length k1) := JA.out.cell 2; have ja3 : v.cell? ⟨w.heap.size, 3, none⟩ = some (.bool st.c0) := JA.out.cell 3; have ja4 : v.cell? ⟨w.heap.size, 4, none⟩ = some (.bool st.c1) := JA.out.cell 4; have ja5 : v.cell? ⟨w.heap.size, 5, none⟩ = some (.int .i64 st.tks) := JA.out.cell 5; have ja6 : v.cell? ⟨w.heap.size, 6, none⟩ = some (.slice aw st.ws.length kw) := JA.out.cell 6; have ja7 : v.cell? ⟨w.heap.size, 7, none⟩ = some (.slice aa st.ans.length ka) := JA.out.cell 7; have JB := Lib.hid (keepBlk hb KB.out); have jb0 : v.cell? ⟨w.heap.size + 1, 0, none⟩ = some (.int .i64 0) := JB.out.cell 0; have jb1 : v.cell? ⟨w.heap.size + 1, 1, none⟩ = some (.int .i64 1) := JB.out.cell 1; have jb2 : v.cell? ⟨w.heap.size + 1, 2, none⟩ = some (.int .i64 c) := JB.out.cell 2; have jb3 : v.cell? ⟨w.heap.size + 1, 3, none⟩ = some (.string d) := JB.out.cell 3; clear hb)
        go_ret
        exact ⟨rfl, HB.out⟩
    · rcases hf with rfl | rfl
      · rw [show (false || readyB st ⟨1, 0, c, d⟩) = decide ((sizes st.q1 : Int) < st.limit) from rfl]
        clear he
        have hw1 : IntKind.i64.wrap (1 - 0) = 1 := by decide
        have hw2 : IntKind.i64.wrap 1 = 1 := by decide
        go_enter Try.func80, Try.ntmps80
        go_wp2_with (go_at_call 79; refine (C79.out _).mono ?_; rintro e v ⟨rfl, hb⟩; have HB := Lib.hid (keepBelow BW.out hb); have JA := Lib.hid (keepBlk hb KA.out); have ja0 : v.cell? ⟨w.heap.size, 0, none⟩ = some (.int .i64 st.limit) := JA.out.cell 0; have ja1 : v.cell? ⟨w.heap.size, 1, none⟩ = some (.slice a0 st.q0.length k0) := JA.out.cell 1; have ja2 : v.cell? ⟨w.heap.size, 2, none⟩ = some (.slice a1 st.q1.length k1) := JA.out.cell 2; have ja3 : v.cell? ⟨w.heap.size, 3, none⟩ = some (.bool st.c0) := JA.out.cell 3; have ja4 : v.cell? ⟨w.heap.size, 4, none⟩ = some (.bool st.c1) := JA.out.cell 4; have ja5 : v.cell? ⟨w.heap.size, 5, none⟩ = some (.int .i64 st.tks) := JA.out.cell 5; have ja6 : v.cell? ⟨w.heap.size, 6, none⟩ = some (.slice aw st.ws.length kw) := JA.out.cell 6; have ja7 : v.cell? ⟨w.heap.size, 7, none⟩ = some (.slice aa st.ans.length ka) := JA.out.cell 7; have JB := Lib.hid (keepBlk hb KB.out); have jb0 : v.cell? ⟨w.heap.size + 1, 0, none⟩ = some (.int .i64 1) := JB.out.cell 0; have jb1 : v.cell? ⟨w.heap.size + 1, 1, none⟩ = some (.int .i64 0) := JB.out.cell 1; have jb2 : v.cell? ⟨w.heap.size + 1, 2, none⟩ = some (.int .i64 c) := JB.out.cell 2; have jb3 : v.cell? ⟨w.heap.size + 1, 3, none⟩ = some (.string d) := JB.out.cell 3; clear hb)
        go_quiet ((go_at_call 82; exact Calls.quiet_of_same ((C1.out _ (belowN HB.out _)).mono fun _ _ ⟨h1, h2⟩ => ⟨h1, h2.symm⟩)))
        go_wp2_with fail
        go_ret
        exact ⟨rfl, belowN HB.out _⟩
      · rw [show (false || readyB st ⟨1, 1, c, d⟩) = decide ((sizes st.q0 : Int) < st.limit) from rfl]
        clear he
        have hw1 : IntKind.i64.wrap (1 - 1) = 0 := by decide
        have hw2 : IntKind.i64.wrap 0 = 0 := by decide
        go_enter Try.func80, Try.ntmps80
        go_wp2_with (go_at_call 79; refine (C79.out _).mono ?_; rintro e v ⟨rfl, hb⟩; have HB := Lib.hid (keepBelow BW.out hb); have JA := Lib.hid (keepBlk hb KA.out); have ja0 : v.cell? ⟨w.heap.size, 0, none⟩ = some (.int .i64 st.limit) := JA.out.cell 0; have ja1 : v.cell? ⟨w.heap.size, 1, none⟩ = some (.slice a0 st.q0.length k0) := JA.out.cell 1; have ja2 : v.cell? ⟨w.heap.size, 2, none⟩ = some (.slice a1 st.q1.length k1) := JA.out.cell 2; have ja3 : v.cell? ⟨w.heap.size, 3, none⟩ = some (.bool st.c0) := JA.out.cell 3; have ja4 : v.cell? ⟨w.heap.size, 4, none⟩ = some (.bool st.c1) := JA.out.cell 4; have ja5 : v.cell? ⟨w.heap.size, 5, none⟩ = some (.int .i64 st.tks) := JA.out.cell 5; have ja6 : v.cell? ⟨w.heap.size, 6, none⟩ = some (.slice aw st.ws.length kw) := JA.out.cell 6; have ja7 : v.cell? ⟨w.heap.size, 7, none⟩ = some (.slice aa st.ans.length ka) := JA.out.cell 7; have JB := Lib.hid (keepBlk hb KB.out); have jb0 : v.cell? ⟨w.heap.size + 1, 0, none⟩ = some (.int .i64 1) := JB.out.cell 0; have jb1 : v.cell? ⟨w.heap.size + 1, 1, none⟩ = some (.int .i64 1) := JB.out.cell 1; have jb2 : v.cell? ⟨w.heap.size + 1, 2, none⟩ = some (.int .i64 c) := JB.out.cell 2; have jb3 : v.cell? ⟨w.heap.size + 1, 3, none⟩ = some (.string d) := JB.out.cell 3; clear hb)
        go_quiet ((go_at_call 82; exact Calls.quiet_of_same ((C0.out _ (belowN HB.out _)).mono fun _ _ ⟨h1, h2⟩ => ⟨h1, h2.symm⟩)))
        go_wp2_with fail
        go_ret
        exact ⟨rfl, belowN HB.out _⟩
end Go.Proofs.Ytmnlojbfdpjjdaa
