/- once, Read, Write: an operation at once. -/
import Derived.Test.YtmnlojbfdpjjdaaB4
namespace Go.Proofs.Ytmnlojbfdpjjdaa
open Go.RowKit
theorem checkE_ok {st : St} {x : Op} (h : checkE st x = 0) : OpIn x ∧ (x.kind = 0 → 0 ≤ x.count) := by
  unfold checkE at h
  cases hb : badB x with
  | true => rw [hb, if_pos rfl] at h; cases h
  | false =>
    obtain ⟨h1, h2⟩ := badB_no hb
    exact ⟨h1, fun h0 => by by_cases hc : 0 ≤ x.count; exact hc; exact absurd ⟨h0, by omega⟩ h2⟩
theorem waits_no {st : St} {x : Op} (h : waitsB st x = false) : emptyB x = false → x.kind = 0 → qOf st x ≠ [] := by
  intro he h0 hq
  unfold waitsB at h
  rw [he] at h
  simp only [Bool.not_false, Bool.true_and, Bool.or_eq_false_iff, Bool.not_eq_false'] at h
  have := h.2
  unfold readyB at this
  rw [if_pos h0, hq] at this
  simp at this
/-- an operation at once: the pipe, the count, the data, the error -/
def onceR (st : St) (x : Op) : St × Int × ByteArray × Int :=
  if checkE st x ≠ 0 then (st, 0, ⟨#[]⟩, checkE st x) else if waitsB st x then (st, 0, ⟨#[]⟩, 36) else (settle (doS st x).1, (doS st x).2.1, (doS st x).2.2, 0)
set_option maxHeartbeats 800000 in
theorem once_nil (x : Op) (w : World) : Calls Try.prog 33 #[.pointer none, opV x] w fun e w' => e = .returned (.tuple #[.int .i64 0, .string ⟨#[]⟩, .int .i64 6]) ∧ Below w.heap.size w w' := by
  have CC := Lib.hid (fun W (_ : Below w.heap.size w W) => check_nil x W)
  obtain ⟨k, f, c, d⟩ := x
  unfold opV at *
  go_enter_defers Try.func33, Try.ntmps33
  go_wp2_with (go_at_call 53; refine (CC.out _ ?_).mono ?_; exact (Below.refl _ _).alloc (Nat.le_refl _) _; rintro e v1 ⟨rfl, hb1⟩; have K1 := Lib.hid (keepBlk hb1 (Blk.new w 42 [.int .i64 k, .int .i64 f, .int .i64 c, .string d])); have b0v1 : v1.cell? ⟨w.heap.size, 0, none⟩ = some (.int .i64 k) := K1.out.cell 0; have b1v1 : v1.cell? ⟨w.heap.size, 1, none⟩ = some (.int .i64 f) := K1.out.cell 1; have b2v1 : v1.cell? ⟨w.heap.size, 2, none⟩ = some (.int .i64 c) := K1.out.cell 2; have b3v1 : v1.cell? ⟨w.heap.size, 3, none⟩ = some (.string d) := K1.out.cell 3; have B1 := Lib.hid (keepBelow ((Below.refl _ _).alloc (Nat.le_refl _) _) hb1); clear hb1)
  exact ⟨_, results_tmp3 rfl _ _ _, rfl, B1.out⟩
set_option maxHeartbeats 1600000 in
theorem once_any (x : Op) (hd : x.data.size ≤ 1000000) (g : Nat) (S : Sl) (st : St) (w : World) (hP : PipeAt w g S st) (hs : Sm st) (hs2 : Sm (doS st x).1) (hw : WOk st) :
    Calls Try.prog 33 #[.pointer (some ⟨g, 0, none⟩), opV x] w fun e w' => e = .returned (.tuple #[.int .i64 (onceR st x).2.1, .string (onceR st x).2.2.1, .int .i64 (onceR st x).2.2.2]) ∧ ∃ S', PipeAt w' g S' (onceR st x).1 ∧ Turn g S w S' w' := by
  have HP := Lib.hid hP
  have CC := Lib.hid (fun W (hb : Below w.heap.size w W) => check_any x g S st W (hP.below hb) hs)
  have CW := Lib.hid (fun (h : checkE st x = 0) W (hb : Below w.heap.size w W) => waits_any x (checkE_ok h).1 g S st W (hP.below hb) hs)
  have CD := Lib.hid (fun (h : checkE st x = 0) (h2 : waitsB st x = false) W (hb : Below w.heap.size w W) => do_any x (checkE_ok h).1 (checkE_ok h).2 g S st (waits_no h2) W (hP.below hb) hs hd)
  have hr : onceR st x = if checkE st x ≠ 0 then (st, 0, ⟨#[]⟩, checkE st x) else if waitsB st x then (st, 0, ⟨#[]⟩, 36) else (settle (doS st x).1, (doS st x).2.1, (doS st x).2.2, 0) := rfl
  have hw2 : WOk (doS st x).1 := fun y hy => by rw [(doS_grows st x).1] at hy; exact hw y hy
  by_cases he : checkE st x = 0
  · rw [if_neg (by simp [he])] at hr
    replace CW := Lib.hid (CW.out he)
    replace CD := Lib.hid (CD.out he)
    rw [he] at CC
    cases hwt : waitsB st x with
    | true =>
      rw [hwt, if_pos rfl] at hr
      rw [hwt] at CW
      have HR := Lib.hid hr
      rw [HR.out]
      clear hP hs hs2 hw hw2 hr he hwt CD
      obtain ⟨k, f, c, d⟩ := x
      unfold opV at *
      go_enter_defers Try.func33, Try.ntmps33
      go_wp2_with (first
        | (go_at_call 53; refine (CC.out _ ?_).mono ?_; exact (Below.refl _ _).alloc (Nat.le_refl _) _; rintro e v1 ⟨rfl, hb1⟩; have K1 := Lib.hid (keepBlk hb1 (Blk.new w 42 [.int .i64 k, .int .i64 f, .int .i64 c, .string d])); have b0v1 : v1.cell? ⟨w.heap.size, 0, none⟩ = some (.int .i64 k) := K1.out.cell 0; have b1v1 : v1.cell? ⟨w.heap.size, 1, none⟩ = some (.int .i64 f) := K1.out.cell 1; have b2v1 : v1.cell? ⟨w.heap.size, 2, none⟩ = some (.int .i64 c) := K1.out.cell 2; have b3v1 : v1.cell? ⟨w.heap.size, 3, none⟩ = some (.string d) := K1.out.cell 3; have B1 := Lib.hid (keepBelow ((Below.refl _ _).alloc (Nat.le_refl _) _) hb1); clear hb1)
        | (go_at_call 54; refine (CW.out _ ?_).mono ?_; exact B1.out; rintro e v2 ⟨rfl, hb2⟩; have K2 := Lib.hid (keepBlk hb2 K1.out); have b0v2 : v2.cell? ⟨w.heap.size, 0, none⟩ = some (.int .i64 k) := K2.out.cell 0; have b1v2 : v2.cell? ⟨w.heap.size, 1, none⟩ = some (.int .i64 f) := K2.out.cell 1; have b2v2 : v2.cell? ⟨w.heap.size, 2, none⟩ = some (.int .i64 c) := K2.out.cell 2; have b3v2 : v2.cell? ⟨w.heap.size, 3, none⟩ = some (.string d) := K2.out.cell 3; have B2 := Lib.hid (keepBelow B1.out hb2); clear hb2 b0v1 b1v1 b2v1 b3v1))
      exact ⟨_, results_tmp3 rfl _ _ _, rfl, S, HP.out.below B2.out, Turn.of_below B2.out⟩
    | false =>
      rw [hwt, if_neg (by simp)] at hr
      rw [hwt] at CW
      replace CD := Lib.hid (CD.out hwt)
      obtain ⟨r, hrr⟩ : ∃ r, r = doS st x := ⟨_, rfl⟩
      rw [← hrr] at CD hr hs2 hw2
      obtain ⟨st3, cnt, dat⟩ := r
      have HR := Lib.hid hr
      have HS2 := Lib.hid (And.intro hs2 hw2)
      rw [HR.out]
      simp only at CD HS2
      clear hP hs hs2 hw hw2 hr he hwt hrr
      obtain ⟨k, f, c, d⟩ := x
      unfold opV at *
      go_enter_defers Try.func33, Try.ntmps33
      go_wp2_with (first
        | (go_at_call 53; refine (CC.out _ ?_).mono ?_; exact (Below.refl _ _).alloc (Nat.le_refl _) _; rintro e v1 ⟨rfl, hb1⟩; have K1 := Lib.hid (keepBlk hb1 (Blk.new w 42 [.int .i64 k, .int .i64 f, .int .i64 c, .string d])); have b0v1 : v1.cell? ⟨w.heap.size, 0, none⟩ = some (.int .i64 k) := K1.out.cell 0; have b1v1 : v1.cell? ⟨w.heap.size, 1, none⟩ = some (.int .i64 f) := K1.out.cell 1; have b2v1 : v1.cell? ⟨w.heap.size, 2, none⟩ = some (.int .i64 c) := K1.out.cell 2; have b3v1 : v1.cell? ⟨w.heap.size, 3, none⟩ = some (.string d) := K1.out.cell 3; have B1 := Lib.hid (keepBelow ((Below.refl _ _).alloc (Nat.le_refl _) _) hb1); clear hb1)
        | (go_at_call 54; refine (CW.out _ ?_).mono ?_; exact B1.out; rintro e v2 ⟨rfl, hb2⟩; have K2 := Lib.hid (keepBlk hb2 K1.out); have b0v2 : v2.cell? ⟨w.heap.size, 0, none⟩ = some (.int .i64 k) := K2.out.cell 0; have b1v2 : v2.cell? ⟨w.heap.size, 1, none⟩ = some (.int .i64 f) := K2.out.cell 1; have b2v2 : v2.cell? ⟨w.heap.size, 2, none⟩ = some (.int .i64 c) := K2.out.cell 2; have b3v2 : v2.cell? ⟨w.heap.size, 3, none⟩ = some (.string d) := K2.out.cell 3; have B2 := Lib.hid (keepBelow B1.out hb2); clear hb2 b0v1 b1v1 b2v1 b3v1)
        | (go_at_call 56; refine (CD.out _ ?_).mono ?_; exact B2.out; rintro e v3 ⟨rfl, S3, P3, T3⟩; have HP3 := Lib.hid P3; have HT3 := Lib.hid ((Turn.of_below B2.out : Turn g S w S v2).trans T3); clear P3 T3))
      refine leaves_cons (f := 57) (args := #[.pointer (some ⟨g, 0, none⟩)]) (by simp) (by simp [go_sem]) ?_
      refine (settleD_any g S3 st3 v3 .returning HP3.out HS2.out.1 HS2.out.2).mono ?_
      rintro e u' w'' ⟨rfl, rfl, S4, P4, T4⟩
      exact ⟨_, results_tmp3 rfl _ _ _, rfl, S4, P4, HT3.out.trans T4⟩
  · rw [if_pos he] at hr
    have HR := Lib.hid hr
    rw [HR.out]
    generalize checkE st x = ce at *
    have hne : (ce != 0) = true := by rw [bne_iff_ne]; exact he
    clear hP hs hs2 hw hw2 hr he CD CW
    obtain ⟨k, f, c, d⟩ := x
    unfold opV at *
    go_enter_defers Try.func33, Try.ntmps33
    go_wp2_with (go_at_call 53; refine (CC.out _ ?_).mono ?_; exact (Below.refl _ _).alloc (Nat.le_refl _) _; rintro e v1 ⟨rfl, hb1⟩; have K1 := Lib.hid (keepBlk hb1 (Blk.new w 42 [.int .i64 k, .int .i64 f, .int .i64 c, .string d])); have b0v1 : v1.cell? ⟨w.heap.size, 0, none⟩ = some (.int .i64 k) := K1.out.cell 0; have b1v1 : v1.cell? ⟨w.heap.size, 1, none⟩ = some (.int .i64 f) := K1.out.cell 1; have b2v1 : v1.cell? ⟨w.heap.size, 2, none⟩ = some (.int .i64 c) := K1.out.cell 2; have b3v1 : v1.cell? ⟨w.heap.size, 3, none⟩ = some (.string d) := K1.out.cell 3; have B1 := Lib.hid (keepBelow ((Below.refl _ _).alloc (Nat.le_refl _) _) hb1); clear hb1)
    exact ⟨_, results_tmp3 rfl _ _ _, rfl, S, HP.out.below B1.out, Turn.of_below B1.out⟩
end Go.Proofs.Ytmnlojbfdpjjdaa
