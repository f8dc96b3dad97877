/- Sign (func 41). -/
import Derived.Test.YtklikkmnemooeaaDoorDI
import Derived.Test.YtklikkmnemooeaaDoorDG
import Derived.Laws.ResultCell
import Derived.Laws.Rows
namespace Go.Proofs.YtklikkmnemooeaaDoor
open Go.RowKit
theorem sig_results (tmps : Array Value) (w : World) (g : Nat) (c0 c1 x : Value) (h4 : tmps.getD 6 undef = .pointer (some ⟨g, 0, none⟩)) (h5 : tmps.getD 7 undef = x) (hB : Blk w g 58 [c0, c1]) :
    (results Tryd.f41 tmps).run Tryd.prog w = .ok (.tuple #[.agg #[c0, c1], x]) w := by
  rw [results_cell_tmp (p := 6) (u := 7) (ty := 58) rfl, h4, h5]
  have := run_loadVar_row (P := Tryd.prog) w g 58 58 #[c0, c1] (0, 0) _ hB Tryd.underlying58 rfl (by kernel_rfl)
  simp [asAddr, this, Result.andThen]
set_option maxRecDepth 100000 in
set_option maxHeartbeats 800000 in
theorem Sign_yes (x n : Int) (hx : sec x) (hn : sec n) (s : ByteArray) (hs : s.size < 288230376151711744) (w : World) (hT : Tabs w) (E S : Nat) (hE : E = markOf (pw 4 n) s.data.toList) (hS : S = (n.toNat + x.toNat * E % 1152921504606845789) % 1152921504606845789) :
    Calls Tryd.prog 41 #[.int .i64 x, .int .i64 n, .string s] w fun e w' => e = .returned (.tuple #[.agg #[.int .i64 E, .int .i64 S], .int .i64 0]) ∧ Below w.heap.size w w' := by
  have HT := Lib.hid hT
  clear hT
  have CX := Lib.hid (fun W => secret_any x W)
  have CN := Lib.hid (fun W => secret_any n W)
  rw [decide_eq_true hx] at CX
  rw [decide_eq_true hn] at CN
  obtain ⟨R, hR⟩ : ∃ R, R = pw 4 n := ⟨_, rfl⟩
  have C56 := Lib.hid (fun W => rpower_any 4 n mem4 (by have := hn.1; omega) (by have := hn.2; omega) R hR W)
  have CP := Lib.hid (fun W => power_any 4 n mem4 (by have := hn.1; omega) (by have := hn.2; omega) R hR W)
  have CM := Lib.hid (fun W (hW : Tabs W) => (mark_any R (by have := pw_lt 4 n; omega) s hs W hW).mono (fun e w' h => by rw [hR, ← hE] at h; exact h))
  have hEl : E < 1152921504606845789 := by rw [hE]; exact markOf_lt _ _
  obtain ⟨X, hX⟩ : ∃ X, X = x.toNat * E % 1152921504606845789 := ⟨_, rfl⟩
  have hXl : X < 1152921504606845789 := by rw [hX]; exact Nat.mod_lt _ (by decide)
  have CT : Hid (∀ W, Calls Tryd.prog 58 #[.int .i64 x, .int .i64 E, .int .i64 1152921504606845789] W fun e w' => e = .returned (.int .i64 X) ∧ Below W.heap.size W w') := by
    refine Lib.hid (fun W => ?_)
    have := productQ_told x.toNat E X (by have := hx.1; have := hx.2; omega) hEl hX W
    rw [show ((x.toNat : Nat) : Int) = x by have := hx.1; omega] at this
    exact this
  rw [← hX] at hS
  have f1 : IntKind.i64.wrap (n + (X : Int)) = n + (X : Int) := IntWalk.i64_in _ (by have := hn.1; have := hn.2; omega)
  have f2 : Int.tmod (n + (X : Int)) 1152921504606845789 = (S : Int) := by
    rw [show n + (X : Int) = ((n.toNat + X : Nat) : Int) by have := hn.1; omega, hS]; exact (Int.ofNat_tmod _ 1152921504606845789).symm
  have f3 : IntKind.i64.wrap (S : Int) = S := IntWalk.i64_in _ (by have : S < 1152921504606845789 := by { rw [hS]; exact Nat.mod_lt _ (by decide) }; omega)
  clear hS hX hXl hE hEl hR hx hn hs C56
  go_enter Tryd.func41, Tryd.ntmps41
  go_wp2_with (first
    | (go_at_call 57; have tok := T1; clear tok; refine (CN.out _).mono ?_; rintro e v2 ⟨rfl, rfl⟩)
    | (go_at_call 57; refine (CX.out _).mono ?_; rintro e v1 ⟨rfl, rfl⟩; have T1 := Lib.hid trivial)
    | (go_at_call 56; refine (CP.out _).mono ?_; rintro e v3 ⟨rfl, hb3⟩; have K3 := Lib.hid (keepBlk hb3 (Blk.new w 58 [.int .i64 0, .int .i64 0])); have B3 := Lib.hid (keepBelow ((Below.refl _ _).alloc (Nat.le_refl _) _) hb3); clear hb3)
    | (go_at_call 63; refine (CM.out _ (HT.out.keep B3.out)).mono ?_; rintro e v4 ⟨rfl, hb4⟩; have K4 := Lib.hid (keepBlk hb4 K3.out); have B4 := Lib.hid (keepBelow B3.out hb4); clear hb4)
    | (go_at_call 58; refine (CT.out _).mono ?_; rintro e v5 ⟨rfl, hb5⟩; have K5 := Lib.hid (keepBlk hb5 K4.out); have B5 := Lib.hid (keepBelow B4.out hb5); clear hb5; have z0 : v5.cell? ⟨w.heap.size, 0, none⟩ = some (.int .i64 0) := K5.out.cell 0; have zf0 : v5.frozen? ⟨w.heap.size, 0, none⟩ = false := K5.out.frozen 0; have z1 : v5.cell? ⟨w.heap.size, 1, none⟩ = some (.int .i64 0) := K5.out.cell 1; have zf1 : v5.frozen? ⟨w.heap.size, 1, none⟩ = false := K5.out.frozen 1))
  (try simp only [Exit.inBlock, Exit.then])
  refine bodyPost_ret (sig_results _ _ w.heap.size _ _ _ rfl rfl (((K5.out).set_ 0 _).set_ 1 _)) rfl ⟨rfl, ?_⟩
  exact ((B5.out).setCell (Nat.le_refl _) _).setCell (Nat.le_refl _) _
set_option maxRecDepth 100000 in
set_option maxHeartbeats 800000 in
theorem Sign_no (x n : Int) (h : ¬ (sec x ∧ sec n)) (s : ByteArray) (w : World) :
    Calls Tryd.prog 41 #[.int .i64 x, .int .i64 n, .string s] w fun e w' => e = .returned (.tuple #[.agg #[.int .i64 0, .int .i64 0], .int .i64 11]) ∧ Below w.heap.size w w' := by
  have CX := Lib.hid (fun W => secret_any x W)
  have CN := Lib.hid (fun W => secret_any n W)
  have K5 := Lib.hid (Blk.new w 58 [.int .i64 0, .int .i64 0])
  have B5 : Hid (Below w.heap.size w (w.alloc (.cells #[.int .i64 0, .int .i64 0] 58))) := Lib.hid ((Below.refl _ _).alloc (Nat.le_refl _) _)
  by_cases hx : sec x
  · rw [decide_eq_true hx] at CX
    rw [decide_eq_false (fun hn => h ⟨hx, hn⟩)] at CN
    clear h hx
    go_enter Tryd.func41, Tryd.ntmps41
    go_wp2_with (first
      | (go_at_call 57; have tok := T1; clear tok; refine (CN.out _).mono ?_; rintro e v2 ⟨rfl, rfl⟩)
      | (go_at_call 57; refine (CX.out _).mono ?_; rintro e v1 ⟨rfl, rfl⟩; have T1 := Lib.hid trivial))
    (try simp only [Exit.inBlock, Exit.then])
    refine bodyPost_ret (sig_results _ _ w.heap.size _ _ _ rfl rfl K5.out) rfl ⟨rfl, ?_⟩
    exact B5.out
  · rw [decide_eq_false hx] at CX
    clear h hx
    go_enter Tryd.func41, Tryd.ntmps41
    go_wp2_with (go_at_call 57; refine (CX.out _).mono ?_; rintro e v1 ⟨rfl, rfl⟩)
    (try simp only [Exit.inBlock, Exit.then])
    refine bodyPost_ret (sig_results _ _ w.heap.size _ _ _ rfl rfl K5.out) rfl ⟨rfl, ?_⟩
    exact B5.out
end Go.Proofs.YtklikkmnemooeaaDoor
