/- THE CONTRACT OF digest.block: a block of 64 bytes, at a table of 64 words in block 1. -/
import Derived.Test.YtmblnacckboggaaDoorD2
import Derived.StillTailTactics
import Derived.Deep.QuietTactic
import Derived.BigQuiet
import Derived.BigRegion
import Derived.Outline
import Derived.IntWalk
import Derived.Deep.RegionHeld3
import Derived.Deep.MidRow
namespace Go.Proofs.YtmblnacckboggaaDoor
open Go.RowKit
set_option maxRecDepth 100000 in
set_option maxHeartbeats 4000000 in
theorem block_any (x : SH.St) (hx : x.ok) (s : ByteArray) (hs : s.size = 64) (w : World) (hcub : w.rangeAt 2 0 cubesC) (h1w : 2 < w.heap.size) :
    Calls Tryd.prog 63 #[.agg #[.int .u32 x.a, .int .u32 x.b, .int .u32 x.c, .int .u32 x.d, .int .u32 x.e, .int .u32 x.f, .int .u32 x.g, .int .u32 x.h], .string s] w fun e w' => e = .returned (stV (SH.block x s.data.toList)) ∧ Below w.heap.size w w' := by
  have HS := Lib.hid hs
  have HCUB := Lib.hid hcub
  clear hcub
  have hs0 : 64 ≤ s.size := by omega
  have hs1 : s.size ≤ 64 := by omega
  clear hs
  go_enter Tryd.func63, Tryd.ntmps63
  go_wp2_with fail
  obtain ⟨W0, hW0⟩ : ∃ W0 : World, W0 = ((w.alloc (.cells #[.int .u32 x.a, .int .u32 x.b, .int .u32 x.c, .int .u32 x.d, .int .u32 x.e, .int .u32 x.f, .int .u32 x.g, .int .u32 x.h] 112)).alloc (.cells #[.int .u32 0, .int .u32 0, .int .u32 0, .int .u32 0, .int .u32 0, .int .u32 0, .int .u32 0, .int .u32 0] 112)).alloc (.cells (List.replicate 64 (.int .u32 0)).toArray 125) := ⟨_, rfl⟩
  have hA : Blk W0 (w.heap.size + 1 + 1) 125 (schedC s.data.toList 0) := by rw [hW0]; exact blk_at (by simp) 125 (List.replicate 64 (.int .u32 0))
  have hX : Blk W0 w.heap.size 112 [.int .u32 x.a, .int .u32 x.b, .int .u32 x.c, .int .u32 x.d, .int .u32 x.e, .int .u32 x.f, .int .u32 x.g, .int .u32 x.h] := by rw [hW0]; exact ((Blk.new w 112 [_, _, _, _, _, _, _, _]).alloc _).alloc _
  have hR : Blk W0 (w.heap.size + 1) 112 [.int .u32 0, .int .u32 0, .int .u32 0, .int .u32 0, .int .u32 0, .int .u32 0, .int .u32 0, .int .u32 0] := by rw [hW0]; exact (blk_at (by simp) 112 [_, _, _, _, _, _, _, _]).alloc _
  have hB : Below w.heap.size w W0 := by rw [hW0]; exact (((Below.refl _ _).alloc (Nat.le_refl _) _).alloc (by simp) _).alloc (by simp; omega) _
  have hsz : W0.heap.size = w.heap.size + 3 := by rw [hW0]; simp
  have HA := Lib.hid hA
  have HX := Lib.hid hX
  have HR := Lib.hid hR
  have HB := Lib.hid hB
  have HSZ := Lib.hid hsz
  clear hA hX hR hB hsz
  change Code.wp _ _ _ _ (((w.alloc (.cells #[.int .u32 x.a, .int .u32 x.b, .int .u32 x.c, .int .u32 x.d, .int .u32 x.e, .int .u32 x.f, .int .u32 x.g, .int .u32 x.h] 112)).alloc (.cells #[.int .u32 0, .int .u32 0, .int .u32 0, .int .u32 0, .int .u32 0, .int .u32 0, .int .u32 0, .int .u32 0] 112)).alloc (.cells (List.replicate 64 (.int .u32 0)).toArray 125))
  rw [← hW0]
  clear hW0
  go_loopw [23] (fun i wr => ∃ t : Nat, t ≤ 64 ∧ i = .int .i64 t ∧ Blk wr (w.heap.size + 1 + 1) 125 (schedC s.data.toList t) ∧ Below (w.heap.size + 1 + 1) W0 wr) (fun i _ => 64 - (intOf i).toNat)
  case atStart => exact ⟨0, by omega, rfl, HA.out, Below.refl _ _⟩
  case round =>
    obtain ⟨t, ht, rfl, hA, hb⟩ := hrel
    by_cases hlt : t < 64
    · by_cases h16 : t < 16
      · have HN := Lib.hid (show SH.sched s.data.toList (t + 1) = SH.sched s.data.toList t ++ [SH.word s.data.toList t] by rw [SH.sched, if_pos h16])
        have HW := Lib.hid (word_eq s t (by omega))
        have c0 : wr.cell? ⟨w.heap.size + 1 + 1, t, none⟩ = some (.int .u32 0) := (hA.cell t).trans (schedC_new _ t hlt)
        have f0 : wr.frozen? ⟨w.heap.size + 1 + 1, t, none⟩ = false := hA.frozen t
        have HAA := Lib.hid hA
        have HBB := Lib.hid hb
        have m0 : IntKind.i64.wrap (4 * (t : Int)) = 4 * t := IntWalk.i64_in _ (by omega)
        have m1 : IntKind.i64.wrap (4 * (t : Int) + 1) = 4 * t + 1 := IntWalk.i64_in _ (by omega)
        have m2 : IntKind.i64.wrap (4 * (t : Int) + 2) = 4 * t + 2 := IntWalk.i64_in _ (by omega)
        have m3 : IntKind.i64.wrap (4 * (t : Int) + 3) = 4 * t + 3 := IntWalk.i64_in _ (by omega)
        have n0 : (4 * (t : Int)).toNat = 4 * t := by omega
        have n1 : (4 * (t : Int) + 1).toNat = 4 * t + 1 := by omega
        have n2 : (4 * (t : Int) + 2).toNat = 4 * t + 2 := by omega
        have n3 : (4 * (t : Int) + 3).toNat = 4 * t + 3 := by omega
        have p0 : (0 : Int) ≤ 4 * t := by omega
        have p1 : 4 * (t : Int) < s.size := by omega
        have p2 : (0 : Int) ≤ 4 * t + 1 := by omega
        have p3 : 4 * (t : Int) + 1 < s.size := by omega
        have p4 : (0 : Int) ≤ 4 * t + 2 := by omega
        have p5 : 4 * (t : Int) + 2 < s.size := by omega
        have p6 : (0 : Int) ≤ 4 * t + 3 := by omega
        have p7 : 4 * (t : Int) + 3 < s.size := by omega
        have p8 : (0 : Int) ≤ t := by omega
        have p9 : (t : Int) < 64 := by omega
        have p10 : (t : Int) < 16 := by omega
        clear hA hb
        go_wp2_with fail
        go_region
        go_wp2
        go_roundw
        case rel =>
          refine ⟨t + 1, by omega, by go_num, ?_, (HBB.out.setCell (by simp) _).drew⟩
          have := HAA.out.set_ t (u32c (SH.word s.data.toList t))
          rw [schedC_step _ t hlt _ HN.out] at this
          rw [HW.out]
          exact this
        case measure => simp [intOf]; omega
      · have hW : ∀ j, j < t → (SH.sched s.data.toList t).getD j 0 < 4294967296 := fun j _ => sched_lt _ _ j
        have l2 : t - 2 < t := by omega
        have l15 : t - 15 < t := by omega
        have l7 : t - 7 < t := by omega
        have l16 : t - 16 < t := by omega
        have HN := Lib.hid (show SH.sched s.data.toList (t + 1) = SH.sched s.data.toList t ++ [SH.nextW (SH.sched s.data.toList t) t] by rw [SH.sched, if_neg h16])
        have c0 : wr.cell? ⟨w.heap.size + 1 + 1, t, none⟩ = some (.int .u32 0) := (hA.cell t).trans (schedC_new _ t hlt)
        have f0 : wr.frozen? ⟨w.heap.size + 1 + 1, t, none⟩ = false := hA.frozen t
        have c15 := (hA.cell (t - 15)).trans (schedC_at s.data.toList t (t - 15) l15)
        have c2 := (hA.cell (t - 2)).trans (schedC_at s.data.toList t (t - 2) l2)
        have c7 := (hA.cell (t - 7)).trans (schedC_at s.data.toList t (t - 7) l7)
        have c16 := (hA.cell (t - 16)).trans (schedC_at s.data.toList t (t - 16) l16)
        unfold u32c at c15 c2 c7 c16
        have hnw : SH.nextW (SH.sched s.data.toList t) t = (((SH.s1 ((SH.sched s.data.toList t).getD (t - 2) 0) + (SH.sched s.data.toList t).getD (t - 7) 0) % 4294967296 + SH.s0 ((SH.sched s.data.toList t).getD (t - 15) 0)) % 4294967296 + (SH.sched s.data.toList t).getD (t - 16) 0) % 4294967296 := rfl
        have HSTEP := Lib.hid (schedC_step s.data.toList t hlt _ HN.out)
        clear HN
        rw [hnw] at HSTEP
        have q2 := hW _ l2
        have q7 := hW _ l7
        have q15 := hW _ l15
        have q16 := hW _ l16
        have HAA := Lib.hid hA
        have HBB := Lib.hid hb
        clear hnw hW hA hb
        generalize (SH.sched s.data.toList t).getD (t - 2) 0 = y2 at *
        generalize (SH.sched s.data.toList t).getD (t - 7) 0 = y7 at *
        generalize (SH.sched s.data.toList t).getD (t - 15) 0 = y15 at *
        generalize (SH.sched s.data.toList t).getD (t - 16) 0 = y16 at *
        have HNX := Lib.hid (next_eq y2 y7 y15 y16 q2 q15)
        have m15 : IntKind.i64.wrap ((t : Int) - 15) = t - 15 := IntWalk.i64_in _ (by omega)
        have m2 : IntKind.i64.wrap ((t : Int) - 2) = t - 2 := IntWalk.i64_in _ (by omega)
        have m7 : IntKind.i64.wrap ((t : Int) - 7) = t - 7 := IntWalk.i64_in _ (by omega)
        have m16 : IntKind.i64.wrap ((t : Int) - 16) = t - 16 := IntWalk.i64_in _ (by omega)
        have n15 : ((t : Int) - 15).toNat = t - 15 := by omega
        have n2 : ((t : Int) - 2).toNat = t - 2 := by omega
        have n7 : ((t : Int) - 7).toNat = t - 7 := by omega
        have n16 : ((t : Int) - 16).toNat = t - 16 := by omega
        have p0 : (0 : Int) ≤ (t : Int) - 15 := by omega
        have p1 : (t : Int) - 15 < 64 := by omega
        have p2 : (0 : Int) ≤ (t : Int) - 2 := by omega
        have p3 : (t : Int) - 2 < 64 := by omega
        have p4 : (0 : Int) ≤ (t : Int) - 7 := by omega
        have p5 : (t : Int) - 7 < 64 := by omega
        have p6 : (0 : Int) ≤ (t : Int) - 16 := by omega
        have p7 : (t : Int) - 16 < 64 := by omega
        have p8 : (0 : Int) ≤ t := by omega
        have p9 : (t : Int) < 64 := by omega
        have p10 : ¬ (t : Int) < 16 := by omega
        have p11 : (7 : Int) ≤ t := by omega
        have p12 : (16 : Int) ≤ t := by omega
        have z7 : ¬ t - 7 = t := by omega
        have z7' : ¬ t = t - 7 := by omega
        have z16 : ¬ t - 16 = t := by omega
        have z16' : ¬ t = t - 16 := by omega
        go_wp2_with fail
        go_quiet (fail)
        go_wp2_with fail
        go_region_held3 (fun w' => w'.cell? ⟨w.heap.size + 1 + 1, t - 7, none⟩ = some (.int .u32 y7) ∧ w'.cell? ⟨w.heap.size + 1 + 1, t - 16, none⟩ = some (.int .u32 y16)) (first | go_keep | (exact ⟨by rw [World.cell?_setCell_other (h := show (⟨w.heap.size + 1 + 1, t, none⟩ : Addr) ≠ ⟨w.heap.size + 1 + 1, t - 7, none⟩ from fun e => z7' (Addr.mk.inj e).2.1)]; exact c7, by rw [World.cell?_setCell_other (h := show (⟨w.heap.size + 1 + 1, t, none⟩ : Addr) ≠ ⟨w.heap.size + 1 + 1, t - 16, none⟩ from fun e => z16' (Addr.mk.inj e).2.1)]; exact c16⟩))
          (first
            | (go_at_call 66; (with_reducible refine (right_17 y2 _ q2).mono ?_); rintro e w5 ⟨rfl, rfl⟩)
            | (go_at_call 66; (with_reducible refine (right_19 y2 _ q2).mono ?_); rintro e w5 ⟨rfl, rfl⟩)
            | (go_at_call 66; (with_reducible refine (right_7 y15 _ q15).mono ?_); rintro e w5 ⟨rfl, rfl⟩)
            | (go_at_call 66; (with_reducible refine (right_18 y15 _ q15).mono ?_); rintro e w5 ⟨rfl, rfl⟩))
        go_wp2
        go_roundw
        case rel =>
          refine ⟨t + 1, by omega, by go_num, ?_, below_setd HBB.out (by simp) _ _⟩
          rw [HNX.out]
          have := HAA.out.set_ t (u32c ((((SH.s1 y2 + y7) % 4294967296 + SH.s0 y15) % 4294967296 + y16) % 4294967296))
          rw [HSTEP.out] at this
          exact this
        case measure => simp [intOf]; omega
    · obtain rfl : t = 64 := by omega
      have HAA := Lib.hid hA
      have HBB := Lib.hid hb
      have hX := HX.out.below hb (by omega)
      have x0 : wr.cell? ⟨w.heap.size, 0, none⟩ = some (.int .u32 x.a) := hX.cell 0
      have x1 : wr.cell? ⟨w.heap.size, 1, none⟩ = some (.int .u32 x.b) := hX.cell 1
      have x2 : wr.cell? ⟨w.heap.size, 2, none⟩ = some (.int .u32 x.c) := hX.cell 2
      have x3 : wr.cell? ⟨w.heap.size, 3, none⟩ = some (.int .u32 x.d) := hX.cell 3
      have x4 : wr.cell? ⟨w.heap.size, 4, none⟩ = some (.int .u32 x.e) := hX.cell 4
      have x5 : wr.cell? ⟨w.heap.size, 5, none⟩ = some (.int .u32 x.f) := hX.cell 5
      have x6 : wr.cell? ⟨w.heap.size, 6, none⟩ = some (.int .u32 x.g) := hX.cell 6
      have x7 : wr.cell? ⟨w.heap.size, 7, none⟩ = some (.int .u32 x.h) := hX.cell 7
      clear hA hb hX
      go_wp2_with fail
      go_quiet (fail)
      have hcr : wr.rangeAt 2 0 cubesC := fun j v hv => (HBB.out.cell (p := ⟨2, 0 + j, none⟩) (by show 2 < _; omega)).trans ((HB.out.cell (p := ⟨2, 0 + j, none⟩) h1w).trans (HCUB.out j v hv))
      have HCR := Lib.hid hcr
      have hl64 := cubesC_len
      have HU := Lib.hid cubes_info
      have hcat : ∀ t : Nat, t < 64 → cubesC[t]? = some (u32c (SH.cubes.getD t 0)) := fun t ht => by
        unfold cubesC
        rw [List.getElem?_map, List.getD_eq_getElem?_getD, List.getElem?_eq_getElem (by show t < 64; exact ht)]
        rfl
      generalize cubesC = CC at *
      have HL64 := Lib.hid hl64
      have HCAT := Lib.hid hcat
      clear hcr hl64 hcat
      go_wp2_with (refine wpList_load_mid rfl 125 (.global 2) rfl 2 0 rfl CC _ HCR.out Tryd.underlying125 rfl HU.out ?_)
      go_loopw [9, 10, 11, 12, 13, 14, 15, 16, 114] (fun a b c d e f g h i wr => ∃ t : Nat, t ≤ 64 ∧ i = .int .i64 t ∧ a = u32c (SH.rounds (SH.sched s.data.toList 64) x t).a ∧ b = u32c (SH.rounds (SH.sched s.data.toList 64) x t).b ∧ c = u32c (SH.rounds (SH.sched s.data.toList 64) x t).c ∧ d = u32c (SH.rounds (SH.sched s.data.toList 64) x t).d ∧ e = u32c (SH.rounds (SH.sched s.data.toList 64) x t).e ∧ f = u32c (SH.rounds (SH.sched s.data.toList 64) x t).f ∧ g = u32c (SH.rounds (SH.sched s.data.toList 64) x t).g ∧ h = u32c (SH.rounds (SH.sched s.data.toList 64) x t).h ∧ Blk wr (w.heap.size + 1 + 1) 125 (schedC s.data.toList 64) ∧ Below (w.heap.size + 1 + 1) W0 wr) (fun _ _ _ _ _ _ _ _ i _ => 64 - (intOf i).toNat)
      case atStart => exact ⟨0, by omega, rfl, rfl, rfl, rfl, rfl, rfl, rfl, rfl, rfl, HAA.out, below_drewNd HBB.out _⟩
      case round =>
        clear HAA HBB
        obtain ⟨t, ht, rfl, ha, hb, hc, hd, he, hf, hg, hh, hA, hb2⟩ := hrel
        by_cases hlt : t < 64
        · have hix := fun W => idx_cubes CC t (u32c (SH.cubes.getD t 0)) hlt (HCAT.out t hlt) W
          have hw0 : wr.cell? ⟨w.heap.size + 1 + 1, t, none⟩ = some (.int .u32 ((SH.sched s.data.toList 64).getD t 0 : Nat)) := (hA.cell t).trans (schedC_at _ 64 t hlt)
          obtain ⟨y, hy⟩ : ∃ y, y = SH.rounds (SH.sched s.data.toList 64) x t := ⟨_, rfl⟩
          rw [← hy] at ha hb hc hd he hf hg hh
          have hok := SH.rounds_ok (SH.sched s.data.toList 64) x hx t
          rw [← hy] at hok
          have HNEXT := Lib.hid (show SH.rounds (SH.sched s.data.toList 64) x (t + 1) = SH.step y (SH.cubes.getD t 0) ((SH.sched s.data.toList 64).getD t 0) by rw [SH.rounds, ← hy])
          clear hy
          have hk : SH.cubes.getD t 0 < 4294967296 := cubes_lt t
          have hw1 := sched_lt s.data.toList 64 t
          have HAA := Lib.hid hA
          have HBB := Lib.hid hb2
          clear hA hb2
          unfold u32c at ha hb hc hd he hf hg hh hix
          generalize SH.cubes.getD t 0 = k at *
          generalize (SH.sched s.data.toList 64).getD t 0 = wt at *
          obtain ⟨ya, yb, yc, yd, ye, yf, yg, yh⟩ := y
          obtain ⟨ka, kb, kc, kd, ke, kf, kg, kh⟩ := hok
          dsimp only at ha hb hc hd he hf hg hh ka kb kc kd ke kf kg kh
          subst ha hb hc hd he hf hg hh
          have HONE := Lib.hid (one_eq yh ye yf yg k wt ke kf kg)
          have HTWO := Lib.hid (two_eq ya yb yc ka kb kc)
          have p8 : (0 : Int) ≤ t := by omega
          have p9 : (t : Int) < 64 := by omega
          go_wp2_with fail
          go_region_held3 (fun w' => w'.cell? ⟨w.heap.size + 1 + 1, t, none⟩ = some (.int .u32 wt)) (first | go_keep | exact hw0)
            (first
              | (go_at_call 66; (with_reducible refine (right_6 ye _ ke).mono ?_); rintro e w5 ⟨rfl, rfl⟩)
              | (go_at_call 66; (with_reducible refine (right_11 ye _ ke).mono ?_); rintro e w5 ⟨rfl, rfl⟩)
              | (go_at_call 66; (with_reducible refine (right_25 ye _ ke).mono ?_); rintro e w5 ⟨rfl, rfl⟩))
          go_wp2_with (first
              | (go_at_call 66; (with_reducible refine (right_2 ya _ ka).mono ?_); rintro e w6 ⟨rfl, rfl⟩)
              | (go_at_call 66; (with_reducible refine (right_13 ya _ ka).mono ?_); rintro e w6 ⟨rfl, rfl⟩)
              | (go_at_call 66; (with_reducible refine (right_22 ya _ ka).mono ?_); rintro e w6 ⟨rfl, rfl⟩))
          go_roundw
          case rel =>
            rw [HONE.out, HTWO.out, wrap_add, wrap_add]
            exact ⟨t + 1, by omega, by go_num, by rw [HNEXT.out]; rfl, by rw [HNEXT.out]; rfl, by rw [HNEXT.out]; rfl, by rw [HNEXT.out]; rfl, by rw [HNEXT.out]; rfl, by rw [HNEXT.out]; rfl, by rw [HNEXT.out]; rfl, by rw [HNEXT.out]; rfl, blk_drew HAA.out, HBB.out.drew⟩
          case measure => simp [intOf]; omega
        · obtain rfl : t = 64 := by omega
          subst ha hb hc hd he hf hg hh
          have HZ := Lib.hid (show SH.addS x (SH.rounds (SH.sched s.data.toList 64) x 64) = SH.block x s.data.toList from rfl)
          have hzok := SH.rounds_ok (SH.sched s.data.toList 64) x hx 64
          generalize SH.rounds (SH.sched s.data.toList 64) x 64 = z at *
          unfold u32c
          have HAA := Lib.hid hA
          have HBB := Lib.hid hb2
          clear hA hb2
          go_wp2_with fail
          have hix0 : (∀ u : Nat, u < 8 → ∀ W, (Instr.index 112 (.agg #[.int .u32 z.a, .int .u32 z.b, .int .u32 z.c, .int .u32 z.d, .int .u32 z.e, .int .u32 z.f, .int .u32 z.g, .int .u32 z.h]) (.int .i64 u)).run Tryd.prog W = .ok (.int .u32 ((nums z).getD u 0 : Nat)) W) := fun u hu W => idx_eight ((nums z).map u32c) u _ hu (nums_at z u hu) W
          have HIX := Lib.hid hix0
          clear hix0
          generalize (#[.int .u32 z.a, .int .u32 z.b, .int .u32 z.c, .int .u32 z.d, .int .u32 z.e, .int .u32 z.f, .int .u32 z.g, .int .u32 z.h] : Array Value) = ZA at *
          have HX0 := Lib.hid (show Blk W0 w.heap.size 112 (mixC x z 0) from HX.out)
          go_loopw [185] (fun i wr => ∃ u : Nat, u ≤ 8 ∧ i = .int .i64 u ∧ Blk wr w.heap.size 112 (mixC x z u) ∧ Blk wr (w.heap.size + 1) 112 [.int .u32 0, .int .u32 0, .int .u32 0, .int .u32 0, .int .u32 0, .int .u32 0, .int .u32 0, .int .u32 0] ∧ Below w.heap.size W0 wr) (fun i _ => 8 - (intOf i).toNat)
          case atStart => exact ⟨0, by omega, rfl, HX0.out.below HBB.out (by omega), HR.out.below HBB.out (by omega), below_less HBB.out (by omega)⟩
          case round =>
            obtain ⟨u, hu, rfl, hA, hR, hb⟩ := hrel
            by_cases hlu : u < 8
            · have hix := HIX.out u hlu
              have hc := (hA.cell u).trans (mix_at x z u hlu)
              have hf := hA.frozen u
              have HS2 := Lib.hid (mix_step x z u hlu)
              unfold u32c at hc
              generalize (nums z).getD u 0 = zq at *
              generalize (nums x).getD u 0 = xq at *
              have HAA := Lib.hid hA
              have HRR := Lib.hid hR
              have HBB := Lib.hid hb
              clear hA hR hb
              have p8 : (0 : Int) ≤ u := by omega
              have p9 : (u : Int) < 8 := by omega
              go_wp2_with fail
              go_roundw
              case rel =>
                rw [wrap_add]
                refine ⟨u + 1, by omega, by go_num, ?_, HRR.out.far (by simp) _, HBB.out.setCell (Nat.le_refl _) _⟩
                have := HAA.out.set_ u (u32c ((xq + zq) % 4294967296))
                rw [HS2.out] at this
                exact this
              case measure => simp [intOf]; omega
            · obtain rfl : u = 8 := by omega
              have HAA := Lib.hid hA
              have HRR := Lib.hid hR
              have HBB := Lib.hid hb
              have x0 : wr.cell? ⟨w.heap.size, 0, none⟩ = some (.int .u32 (SH.addS x z).a) := hA.cell 0
              have r0 : wr.cell? ⟨w.heap.size + 1, 0, none⟩ = some (.int .u32 0) := hR.cell 0
              have f0 : wr.frozen? ⟨w.heap.size + 1, 0, none⟩ = false := hR.frozen 0
              have x1 : wr.cell? ⟨w.heap.size, 1, none⟩ = some (.int .u32 (SH.addS x z).b) := hA.cell 1
              have r1 : wr.cell? ⟨w.heap.size + 1, 1, none⟩ = some (.int .u32 0) := hR.cell 1
              have f1 : wr.frozen? ⟨w.heap.size + 1, 1, none⟩ = false := hR.frozen 1
              have x2 : wr.cell? ⟨w.heap.size, 2, none⟩ = some (.int .u32 (SH.addS x z).c) := hA.cell 2
              have r2 : wr.cell? ⟨w.heap.size + 1, 2, none⟩ = some (.int .u32 0) := hR.cell 2
              have f2 : wr.frozen? ⟨w.heap.size + 1, 2, none⟩ = false := hR.frozen 2
              have x3 : wr.cell? ⟨w.heap.size, 3, none⟩ = some (.int .u32 (SH.addS x z).d) := hA.cell 3
              have r3 : wr.cell? ⟨w.heap.size + 1, 3, none⟩ = some (.int .u32 0) := hR.cell 3
              have f3 : wr.frozen? ⟨w.heap.size + 1, 3, none⟩ = false := hR.frozen 3
              have x4 : wr.cell? ⟨w.heap.size, 4, none⟩ = some (.int .u32 (SH.addS x z).e) := hA.cell 4
              have r4 : wr.cell? ⟨w.heap.size + 1, 4, none⟩ = some (.int .u32 0) := hR.cell 4
              have f4 : wr.frozen? ⟨w.heap.size + 1, 4, none⟩ = false := hR.frozen 4
              have x5 : wr.cell? ⟨w.heap.size, 5, none⟩ = some (.int .u32 (SH.addS x z).f) := hA.cell 5
              have r5 : wr.cell? ⟨w.heap.size + 1, 5, none⟩ = some (.int .u32 0) := hR.cell 5
              have f5 : wr.frozen? ⟨w.heap.size + 1, 5, none⟩ = false := hR.frozen 5
              have x6 : wr.cell? ⟨w.heap.size, 6, none⟩ = some (.int .u32 (SH.addS x z).g) := hA.cell 6
              have r6 : wr.cell? ⟨w.heap.size + 1, 6, none⟩ = some (.int .u32 0) := hR.cell 6
              have f6 : wr.frozen? ⟨w.heap.size + 1, 6, none⟩ = false := hR.frozen 6
              have x7 : wr.cell? ⟨w.heap.size, 7, none⟩ = some (.int .u32 (SH.addS x z).h) := hA.cell 7
              have r7 : wr.cell? ⟨w.heap.size + 1, 7, none⟩ = some (.int .u32 0) := hR.cell 7
              have f7 : wr.frozen? ⟨w.heap.size + 1, 7, none⟩ = false := hR.frozen 7
              clear hA hR hb
              generalize SH.addS x z = y at *
              go_wp2_with fail
              obtain ⟨WE, hWE⟩ : ∃ WE, WE = ((((((((wr.setCell ⟨w.heap.size + 1, 0, none⟩ (.int .u32 y.a)).setCell ⟨w.heap.size + 1, 1, none⟩ (.int .u32 y.b)).setCell ⟨w.heap.size + 1, 2, none⟩ (.int .u32 y.c)).setCell ⟨w.heap.size + 1, 3, none⟩ (.int .u32 y.d)).setCell ⟨w.heap.size + 1, 4, none⟩ (.int .u32 y.e)).setCell ⟨w.heap.size + 1, 5, none⟩ (.int .u32 y.f)).setCell ⟨w.heap.size + 1, 6, none⟩ (.int .u32 y.g)).setCell ⟨w.heap.size + 1, 7, none⟩ (.int .u32 y.h)) := ⟨_, rfl⟩
              rw [← hWE]
              have hE : Blk WE (w.heap.size + 1) 112 [.int .u32 y.a, .int .u32 y.b, .int .u32 y.c, .int .u32 y.d, .int .u32 y.e, .int .u32 y.f, .int .u32 y.g, .int .u32 y.h] := by
                rw [hWE]
                exact (((((((HRR.out.set_ 0 _).set_ 1 _).set_ 2 _).set_ 3 _).set_ 4 _).set_ 5 _).set_ 6 _).set_ 7 _
              have hbE : Below w.heap.size w WE := by
                rw [hWE]
                exact (((((((((HB.out.trans HBB.out).setCell (by simp) _).setCell (by simp) _).setCell (by simp) _).setCell (by simp) _).setCell (by simp) _).setCell (by simp) _).setCell (by simp) _).setCell (by simp) _)
              exact bodyPost_ret (results_cell_row rfl _ _ (w.heap.size + 1) 112 _ (0, 0) _ rfl hE Tryd.underlying112 rfl (by rfl)) rfl ⟨by rw [← HZ.out]; rfl, hbE⟩
end Go.Proofs.YtmblnacckboggaaDoor
