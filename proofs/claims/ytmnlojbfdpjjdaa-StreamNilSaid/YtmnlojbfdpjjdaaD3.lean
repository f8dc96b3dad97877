/- StreamNil: the law's walk. -/
import Derived.Test.YtmnlojbfdpjjdaaD2
namespace Go.Proofs.Ytmnlojbfdpjjdaa
open Go.RowKit
theorem act_new (w : World) (k t ok of_ oc : Int) (od : ByteArray) : Acts (w.alloc (.cells #[.int .i64 k, .int .i64 t, .int .i64 ok, .int .i64 of_, .int .i64 oc, .string od] 44)) (.slice (some ⟨w.heap.size, 0, none⟩) 1 1) [⟨k, t, ⟨ok, of_, oc, od⟩⟩] := by
  have h := Blk.new w 44 [.int .i64 k, .int .i64 t, .int .i64 ok, .int .i64 of_, .int .i64 oc, .string od]
  refine .inr ⟨w.heap.size, 0, 1, rfl, by simp, by simp, h.lt, fun i hi => ?_⟩
  obtain rfl : i = 0 := by simpa using hi
  exact ⟨h.cell 0, h.cell 1, h.cell 2, h.cell 3, h.cell 4, h.cell 5⟩
set_option maxRecDepth 100000 in
set_option maxHeartbeats 1600000 in
theorem nil_long (k t ok of_ oc : Int) (od : ByteArray) (hlong : longA ⟨k, t, ⟨ok, of_, oc, od⟩⟩ = true) (w : World) : Calls Try.prog 7 #[.agg #[.int .i64 k, .int .i64 t, .int .i64 ok, .int .i64 of_, .int .i64 oc, .string od]] w fun e w' => e = .returned (.bool true) ∧ Below w.heap.size w w' := by
  have CA := Lib.hid (fun W => awake_any W)
  have CF0 := Lib.hid (fun (b : Nat) W hr => few_any [⟨k, t, ⟨ok, of_, oc, od⟩⟩] (.slice (some ⟨b, 0, none⟩) 1 1) W hr)
  have hfw : fewB [⟨k, t, ⟨ok, of_, oc, od⟩⟩] = false := by simp [fewB, hlong]
  rw [hfw] at CF0
  have CF : Hid (∀ W {b : Nat}, Acts W (.slice (some ⟨b, 0, none⟩) 1 1) [⟨k, t, ⟨ok, of_, oc, od⟩⟩] → _) := Lib.hid (fun W {b} hr => CF0.out b W hr)
  clear CF0 hfw hlong
  go_enter Try.func7, Try.ntmps7
  go_wp2_with (first
    | (go_at_call 9; refine (CA.out _).mono ?_; rintro e v1 ⟨rfl, hb1⟩; have K1 := Lib.hid (keepBlk hb1 (Blk.new w 44 [.int .i64 k, .int .i64 t, .int .i64 ok, .int .i64 of_, .int .i64 oc, .string od])); have x0v1 : v1.cell? ⟨w.heap.size, 0, none⟩ = some (.int .i64 k) := K1.out.cell 0; have x1v1 : v1.cell? ⟨w.heap.size, 1, none⟩ = some (.int .i64 t) := K1.out.cell 1; have x2v1 : v1.cell? ⟨w.heap.size, 2, none⟩ = some (.int .i64 ok) := K1.out.cell 2; have x3v1 : v1.cell? ⟨w.heap.size, 3, none⟩ = some (.int .i64 of_) := K1.out.cell 3; have x4v1 : v1.cell? ⟨w.heap.size, 4, none⟩ = some (.int .i64 oc) := K1.out.cell 4; have x5v1 : v1.cell? ⟨w.heap.size, 5, none⟩ = some (.string od) := K1.out.cell 5; have B1 := Lib.hid (keepBelow ((Below.refl _ _).alloc (Nat.le_refl _) _) hb1); clear hb1)
    | (go_at_call 17; refine (CF.out _ (act_new v1 k t ok of_ oc od)).mono ?_; rintro e v2 ⟨rfl, hb2⟩; have hb2' := keepBelow ((Below.refl _ _).alloc (Nat.le_refl _) _ : Below v1.heap.size v1 _) hb2; have K2 := Lib.hid (keepBlk hb2' K1.out); have x0v2 : v2.cell? ⟨w.heap.size, 0, none⟩ = some (.int .i64 k) := K2.out.cell 0; have x1v2 : v2.cell? ⟨w.heap.size, 1, none⟩ = some (.int .i64 t) := K2.out.cell 1; have x2v2 : v2.cell? ⟨w.heap.size, 2, none⟩ = some (.int .i64 ok) := K2.out.cell 2; have x3v2 : v2.cell? ⟨w.heap.size, 3, none⟩ = some (.int .i64 of_) := K2.out.cell 3; have x4v2 : v2.cell? ⟨w.heap.size, 4, none⟩ = some (.int .i64 oc) := K2.out.cell 4; have x5v2 : v2.cell? ⟨w.heap.size, 5, none⟩ = some (.string od) := K2.out.cell 5; have B2 := Lib.hid (keepBelow B1.out hb2'); clear hb2 hb2'))
  go_ret
  exact ⟨rfl, B2.out⟩
set_option maxRecDepth 100000 in
set_option maxHeartbeats 1600000 in
theorem nil_act (k t ok of_ oc : Int) (od : ByteArray) (hlong : longA ⟨k, t, ⟨ok, of_, oc, od⟩⟩ = false) (hk : 0 ≤ k ∧ k ≤ 4) (w : World) : Calls Try.prog 7 #[.agg #[.int .i64 k, .int .i64 t, .int .i64 ok, .int .i64 of_, .int .i64 oc, .string od]] w fun e w' => e = .returned (.bool true) ∧ Below w.heap.size w w' := by
  have CA := Lib.hid (fun W => awake_any W)
  have CF0 := Lib.hid (fun (b : Nat) W hr => few_any [⟨k, t, ⟨ok, of_, oc, od⟩⟩] (.slice (some ⟨b, 0, none⟩) 1 1) W hr)
  have hfw : fewB [⟨k, t, ⟨ok, of_, oc, od⟩⟩] = true := by simp [fewB, hlong]
  rw [hfw] at CF0
  have CF : Hid (∀ W {b : Nat}, Acts W (.slice (some ⟨b, 0, none⟩) 1 1) [⟨k, t, ⟨ok, of_, oc, od⟩⟩] → _) := Lib.hid (fun W {b} hr => CF0.out b W hr)
  clear CF0 hfw hlong
  have CO := Lib.hid (fun W => Open_nil 0 W)
  have CB := Lib.hid (fun W => Blocks_nil 0 W)
  have CW := Lib.hid (fun W => Waiting_nil W)
  have CN := Lib.hid (fun W => Answers_nil W)
  have CI := Lib.hid (fun W => Wire_nil 0 W)
  have CD := Lib.hid (fun W (h : 0 ≤ k ∧ k ≤ 4) => do_nil ⟨k, t, ⟨ok, of_, oc, od⟩⟩ h.1 h.2 W)
  unfold acV at CD
  simp only at CD
  have CS := Lib.hid (fun W => same_err W)
  rcases (show k = 0 ∨ k = 1 ∨ k = 2 ∨ k = 3 ∨ k = 4 by omega) with rfl | rfl | rfl | rfl | rfl
  all_goals
    go_enter Try.func7, Try.ntmps7
    go_wp2_with (first
    | (go_at_call 9; refine (CA.out _).mono ?_; rintro e v1 ⟨rfl, hb1⟩; have K1 := Lib.hid (keepBlk hb1 (Blk.new w 44 [.int .i64 _, .int .i64 t, .int .i64 ok, .int .i64 of_, .int .i64 oc, .string od])); have x0v1 : v1.cell? ⟨w.heap.size, 0, none⟩ = some (.int .i64 _) := K1.out.cell 0; have x1v1 : v1.cell? ⟨w.heap.size, 1, none⟩ = some (.int .i64 t) := K1.out.cell 1; have x2v1 : v1.cell? ⟨w.heap.size, 2, none⟩ = some (.int .i64 ok) := K1.out.cell 2; have x3v1 : v1.cell? ⟨w.heap.size, 3, none⟩ = some (.int .i64 of_) := K1.out.cell 3; have x4v1 : v1.cell? ⟨w.heap.size, 4, none⟩ = some (.int .i64 oc) := K1.out.cell 4; have x5v1 : v1.cell? ⟨w.heap.size, 5, none⟩ = some (.string od) := K1.out.cell 5; have B1 := Lib.hid (keepBelow ((Below.refl _ _).alloc (Nat.le_refl _) _) hb1); clear hb1)
    | (go_at_call 17; refine (CF.out _ (act_new v1 _ t ok of_ oc od)).mono ?_; rintro e v2 ⟨rfl, hb2⟩; have hb2' := keepBelow ((Below.refl _ _).alloc (Nat.le_refl _) _ : Below v1.heap.size v1 _) hb2; have K2 := Lib.hid (keepBlk hb2' K1.out); have x0v2 : v2.cell? ⟨w.heap.size, 0, none⟩ = some (.int .i64 _) := K2.out.cell 0; have x1v2 : v2.cell? ⟨w.heap.size, 1, none⟩ = some (.int .i64 t) := K2.out.cell 1; have x2v2 : v2.cell? ⟨w.heap.size, 2, none⟩ = some (.int .i64 ok) := K2.out.cell 2; have x3v2 : v2.cell? ⟨w.heap.size, 3, none⟩ = some (.int .i64 of_) := K2.out.cell 3; have x4v2 : v2.cell? ⟨w.heap.size, 4, none⟩ = some (.int .i64 oc) := K2.out.cell 4; have x5v2 : v2.cell? ⟨w.heap.size, 5, none⟩ = some (.string od) := K2.out.cell 5; have B2 := Lib.hid (keepBelow B1.out hb2'); clear hb2 hb2')
    | (go_at_call 15; refine (CO.out _).mono ?_; rintro e u1 ⟨rfl, rfl⟩)
    | (go_at_call 21; refine (CB.out _).mono ?_; rintro e u1 ⟨rfl, rfl⟩)
    | (go_at_call 26; refine (CW.out _).mono ?_; rintro e u1 ⟨rfl, rfl⟩)
    | (go_at_call 19; refine (CN.out _).mono ?_; rintro e u1 ⟨rfl, rfl⟩)
    | (go_at_call 29; refine (CI.out _).mono ?_; rintro e u1 ⟨rfl, rfl⟩)
    | (go_at_call 18; refine (CD.out _ (by decide)).mono ?_; rintro e v3 ⟨rfl, hb3⟩; have B3 := Lib.hid (keepBelow B2.out hb3); clear hb3)
    | (go_at_call 24; refine (CS.out _).mono ?_; rintro e v4 ⟨rfl, hb4⟩; have B4 := Lib.hid (keepBelow B3.out hb4); clear hb4))
    go_ret
    exact ⟨rfl, B4.out⟩
set_option maxRecDepth 100000 in
set_option maxHeartbeats 1600000 in
theorem nil_oth (k t ok of_ oc : Int) (od : ByteArray) (hlong : longA ⟨k, t, ⟨ok, of_, oc, od⟩⟩ = false) (hk : ¬ (0 ≤ k ∧ k ≤ 4)) (w : World) : Calls Try.prog 7 #[.agg #[.int .i64 k, .int .i64 t, .int .i64 ok, .int .i64 of_, .int .i64 oc, .string od]] w fun e w' => e = .returned (.bool true) ∧ Below w.heap.size w w' := by
  have CA := Lib.hid (fun W => awake_any W)
  have CF0 := Lib.hid (fun (b : Nat) W hr => few_any [⟨k, t, ⟨ok, of_, oc, od⟩⟩] (.slice (some ⟨b, 0, none⟩) 1 1) W hr)
  have hfw : fewB [⟨k, t, ⟨ok, of_, oc, od⟩⟩] = true := by simp [fewB, hlong]
  rw [hfw] at CF0
  have CF : Hid (∀ W {b : Nat}, Acts W (.slice (some ⟨b, 0, none⟩) 1 1) [⟨k, t, ⟨ok, of_, oc, od⟩⟩] → _) := Lib.hid (fun W {b} hr => CF0.out b W hr)
  clear CF0 hfw hlong
  have CO := Lib.hid (fun W => Open_nil 0 W)
  have CB := Lib.hid (fun W => Blocks_nil 0 W)
  have CW := Lib.hid (fun W => Waiting_nil W)
  have CN := Lib.hid (fun W => Answers_nil W)
  have CI := Lib.hid (fun W => Wire_nil 0 W)
  have CD := Lib.hid (fun W (h : 0 ≤ k ∧ k ≤ 4) => do_nil ⟨k, t, ⟨ok, of_, oc, od⟩⟩ h.1 h.2 W)
  unfold acV at CD
  simp only at CD
  have CS := Lib.hid (fun W => same_err W)
  have e0 : (k == 0) = false := by rw [beq_eq_false_iff_ne]; omega
  have e1 : (k == 1) = false := by rw [beq_eq_false_iff_ne]; omega
  have e2 : (k == 2) = false := by rw [beq_eq_false_iff_ne]; omega
  have e3 : (k == 3) = false := by rw [beq_eq_false_iff_ne]; omega
  have e4 : (k == 4) = false := by rw [beq_eq_false_iff_ne]; omega
  clear hk CD CS
  go_enter Try.func7, Try.ntmps7
  go_wp2_with (first
    | (go_at_call 9; refine (CA.out _).mono ?_; rintro e v1 ⟨rfl, hb1⟩; have K1 := Lib.hid (keepBlk hb1 (Blk.new w 44 [.int .i64 k, .int .i64 t, .int .i64 ok, .int .i64 of_, .int .i64 oc, .string od])); have x0v1 : v1.cell? ⟨w.heap.size, 0, none⟩ = some (.int .i64 k) := K1.out.cell 0; have x1v1 : v1.cell? ⟨w.heap.size, 1, none⟩ = some (.int .i64 t) := K1.out.cell 1; have x2v1 : v1.cell? ⟨w.heap.size, 2, none⟩ = some (.int .i64 ok) := K1.out.cell 2; have x3v1 : v1.cell? ⟨w.heap.size, 3, none⟩ = some (.int .i64 of_) := K1.out.cell 3; have x4v1 : v1.cell? ⟨w.heap.size, 4, none⟩ = some (.int .i64 oc) := K1.out.cell 4; have x5v1 : v1.cell? ⟨w.heap.size, 5, none⟩ = some (.string od) := K1.out.cell 5; have B1 := Lib.hid (keepBelow ((Below.refl _ _).alloc (Nat.le_refl _) _) hb1); clear hb1)
    | (go_at_call 17; refine (CF.out _ (act_new v1 k t ok of_ oc od)).mono ?_; rintro e v2 ⟨rfl, hb2⟩; have hb2' := keepBelow ((Below.refl _ _).alloc (Nat.le_refl _) _ : Below v1.heap.size v1 _) hb2; have K2 := Lib.hid (keepBlk hb2' K1.out); have x0v2 : v2.cell? ⟨w.heap.size, 0, none⟩ = some (.int .i64 k) := K2.out.cell 0; have x1v2 : v2.cell? ⟨w.heap.size, 1, none⟩ = some (.int .i64 t) := K2.out.cell 1; have x2v2 : v2.cell? ⟨w.heap.size, 2, none⟩ = some (.int .i64 ok) := K2.out.cell 2; have x3v2 : v2.cell? ⟨w.heap.size, 3, none⟩ = some (.int .i64 of_) := K2.out.cell 3; have x4v2 : v2.cell? ⟨w.heap.size, 4, none⟩ = some (.int .i64 oc) := K2.out.cell 4; have x5v2 : v2.cell? ⟨w.heap.size, 5, none⟩ = some (.string od) := K2.out.cell 5; have B2 := Lib.hid (keepBelow B1.out hb2'); clear hb2 hb2')
    | (go_at_call 15; refine (CO.out _).mono ?_; rintro e u1 ⟨rfl, rfl⟩)
    | (go_at_call 21; refine (CB.out _).mono ?_; rintro e u1 ⟨rfl, rfl⟩)
    | (go_at_call 26; refine (CW.out _).mono ?_; rintro e u1 ⟨rfl, rfl⟩)
    | (go_at_call 19; refine (CN.out _).mono ?_; rintro e u1 ⟨rfl, rfl⟩)
    | (go_at_call 29; refine (CI.out _).mono ?_; rintro e u1 ⟨rfl, rfl⟩))
  go_ret
  exact ⟨rfl, B2.out⟩
theorem nil_walk (k t ok of_ oc : Int) (od : ByteArray) (w : World) : Calls Try.prog 7 #[.agg #[.int .i64 k, .int .i64 t, .int .i64 ok, .int .i64 of_, .int .i64 oc, .string od]] w fun e w' => e = .returned (.bool true) ∧ Below w.heap.size w w' := by
  cases hl : longA ⟨k, t, ⟨ok, of_, oc, od⟩⟩ with
  | true => exact nil_long k t ok of_ oc od hl w
  | false =>
    by_cases hk : 0 ≤ k ∧ k ≤ 4
    · exact nil_act k t ok of_ oc od hl hk w
    · exact nil_oth k t ok of_ oc od hl hk w
end Go.Proofs.Ytmnlojbfdpjjdaa
