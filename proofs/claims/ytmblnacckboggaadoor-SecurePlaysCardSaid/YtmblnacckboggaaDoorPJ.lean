/- SecurePlays: the law's walk. -/
import Derived.Test.YtmblnacckboggaaDoorPI
import Derived.Deep.RegionHeld3
namespace Go.Proofs.YtmblnacckboggaaDoor
open Go.RowKit
set_option maxRecDepth 100000 in
set_option maxHeartbeats 12800000 in
theorem plays_ok (k : ByteArray) (sa : Option Addr) (sc : Nat) (l : List PAct) (hk : k.size ≤ 200000000000000) (hs : smallB l = true) (hll : l.length ≤ 9223372036854775807) (w : World) (hA : PActs w (.slice sa l.length sc) l) (hT : Tabs w) :
    Calls Tryd.prog 6 #[.string k, .slice sa l.length sc] w fun e w' => e = .returned (.bool true) ∧ Below w.heap.size w w' := by
  have CA := Lib.hid (awake_any w hT)
  have CO := Lib.hid (fun W => open_two k hk W)
  have CS := Lib.hid (fun W (hb : Below w.heap.size w W) => small_any sa sc l hll W (hA.below hb))
  rw [hs] at CS
  obtain ⟨hl25, hdat⟩ := smallB_parts hs
  have HDAT := Lib.hid hdat
  have hB2 := hT.big
  have HT := Lib.hid hT
  have HA := Lib.hid hA
  clear hA hT hk hs hdat
  go_enter Tryd.func6, Tryd.ntmps6
  go_wp2_with (first
    | (go_at_call 8; refine (CA.out).mono ?_; rintro e v1 ⟨rfl, hb1⟩; have B1 := Lib.hid hb1; clear hb1)
    | (go_at_call 13; refine (CO.out _).mono ?_; rintro e v2 ⟨g, l0, l1, w0, w1, rfl, hE2, hb2⟩; have E2 := Lib.hid (show En v2 w.heap.size g l0 l1 w0 w1 (lkO k 1) (lkO k 2) zWi zWi (lkO k 1) (lkO k 2) ⟨#[]⟩ ⟨#[]⟩ from ⟨Nat.le_trans B1.out.size hE2.base, hE2.o0, hE2.o1, hE2.o2, hE2.o3, hE2.blk, hE2.k0, hE2.k1, hE2.x0, hE2.x1⟩); have B2 := Lib.hid (keepBelow B1.out hb2); clear hE2 hb2)
    | (go_at_call 21; refine (CS.out _ B2.out).mono ?_; rintro e v3 ⟨rfl, hb3⟩; have E3 := Lib.hid (E2.out.below hb3); have B3 := Lib.hid (keepBelow B2.out hb3); clear hb3))
  go_loopg [31] l.length (fun q iv wr => ∃ m : Nat, m + q = l.length ∧ iv = .int .i64 m ∧ Pl w g l0 l1 w0 w1 m wr)
  case atStart => exact ⟨0, by omega, rfl, lkO k 1, lkO k 2, zWi, zWi, ⟨#[]⟩, ⟨#[]⟩, 0, 0, 0, 0, ⟨keyB_ok k 1 (.inl rfl), rfl, rfl⟩, ⟨keyB_ok k 2 (.inr rfl), rfl, rfl⟩, by decide, by decide, by show (0 + (0 + 0) : Nat) ≤ 0; decide, by show (0 + (0 + 0) : Nat) ≤ 0; decide, E3.out, B3.out⟩
  case round =>
    obtain ⟨m, hm, rfl, hPL⟩ := hrel
    have HPL := Lib.hid hPL
    have HB := Lib.hid (show Below w.heap.size w wr by obtain ⟨_, _, _, _, _, _, _, _, _, _, _, _, _, _, _, _, _, hb⟩ := hPL; exact hb)
    clear hPL E3 B3 E2 B2 B1 CA CO CS
    by_cases hlt : m < l.length
    · obtain ⟨b, off, ha, hbl, h0, h1, h2, h3, h4, h5⟩ := (HA.out.below HB.out).at hlt
      obtain ⟨x, hx⟩ : ∃ x, x = l.getD m pact0 := ⟨_, rfl⟩
      rw [← hx] at h0 h1 h2 h3 h4 h5
      have hdata : x.data.size ≤ 2500 := by rw [hx]; exact HDAT.out m hlt
      subst ha
      have i0 : (m : Int) < l.length := by omega
      have i0' : (0 : Int) ≤ m := by omega
      have ei : IntKind.i64.wrap ((m : Int) + 1) = (m : Int) + 1 := IntWalk.i64_in _ (by omega)
      clear hx
      go_upto_region 11 with fail
      obtain ⟨ab, hab⟩ : ∃ ab, ab = wr.heap.size := ⟨_, rfl⟩
      obtain ⟨V0, hV0⟩ : ∃ V0, V0 = wr.alloc (.cells #[.int .i64 x.kind, .int .i64 x.side, .int .i64 x.n, .string x.data, .int .i64 x.at_, .int .u8 (x.by_.toNat : Nat)] 61) := ⟨_, rfl⟩
      rw [← hab]
      clear h0 h1 h2 h3 h4 h5
      by_cases hside : x.side = 0
      · skip
        obtain ⟨L, Lo, X, Xo, yi, yo, ni, no, s0, so, hl, ho, hs, hso, hn, hno, hE, hb⟩ := HPL.out
        have HL := Lib.hid hl
        have HO := Lib.hid ho
        have HN := Lib.hid (And.intro hn hno)
        have P0 : Hid (Pb w g l0 l1 w0 w1 L Lo X Xo L Lo yi yo ab x (x.n) V0) := by rw [hV0]; exact Lib.hid ⟨hE.below ((Below.refl _ _).alloc (Nat.le_refl _) _), by rw [hab]; exact Blk.new wr 61 (boxC x x.n), by rw [hab]; exact hE.k1.lt, keepBelow hb ((Below.refl _ _).alloc (Nat.le_refl _) _)⟩
        have hs1M : s0 ≤ 1000000 := by omega
        have hm25 : m < 25 := by omega
        have hyo : yo.size ≤ 1000000 := by omega
        have hyi : yi.size ≤ 1000000 := by omega
        rw [← hV0]
        clear hl ho hE hb hV0 hab
        have p2 : V0.cell? ⟨g, 2, none⟩ = some (.pointer (some ⟨w0, 0, none⟩)) := P0.out.en.blk.cell 2
        have a1 : V0.cell? ⟨ab, 1, none⟩ = some (.int .i64 x.side) := P0.out.box.cell 1
        have s1 : (x.side != 0) = false := by rw [bne_eq_false_iff_eq]; exact hside
        clear hside
        go_upto_region 14 with fail
        go_quiet (fail)
        obtain ⟨V1, hV1⟩ : ∃ V1, V1 = V0.drewN nq := ⟨_, rfl⟩
        have P1 : Hid (Pb w g l0 l1 w0 w1 L Lo X Xo L Lo yi yo ab x (x.n) V1) := by rw [hV1]; exact Lib.hid (P0.out.later (belowN (Below.refl _ _) _))
        rw [← hV1]
        clear hV1 p2 a1 s1 P0
        obtain ⟨OB, hOB⟩ : ∃ OB : ByteArray, OB = ⟨(outL L.key.data.toList L.side s0 x.data.data.toList (cntL x.data.size)).toArray⟩ := ⟨_, rfl⟩
        obtain ⟨cn, hcn⟩ : ∃ cn, cn = cntL x.data.size := ⟨_, rfl⟩
        have CQ := Lib.hid (fun W => rsend_any L s0 x.data HL.out.key HL.out.sent hs1M (by omega) W)
        rw [← hOB, ← hcn] at CQ
        have hObs : OB.size ≤ 2602 := by rw [hOB, str_size]; exact out_few _ _ _ hdata
        have HOB := Lib.hid hOB
        have HCN := Lib.hid hcn
        clear hOB hcn
        by_cases h0 : x.kind = 0
        · have hkd := h0
          clear h0
          by_cases hfin : L.fin = true
          · skip
            as_aux_lemma =>
              have HF := Lib.hid hfin
              clear hfin
              have b0 : V1.cell? ⟨ab, 0, none⟩ = some (.int .i64 0) := by rw [← hkd]; exact P1.out.box.cell 0
              have b3 : V1.cell? ⟨ab, 3, none⟩ = some (.string x.data) := P1.out.box.cell 3
              have x0 : V1.cell? ⟨w0, 0, none⟩ = some (.string X.sent) := P1.out.en.x0.cell 0
              have f0 := P1.out.en.x0.frozen 0
              have x1 : V1.cell? ⟨w0, 1, none⟩ = some (.int .i64 X.sends) := P1.out.en.x0.cell 1
              have f1 := P1.out.en.x0.frozen 1
              have x2 : V1.cell? ⟨w0, 2, none⟩ = some (.int .i64 X.refuse) := P1.out.en.x0.cell 2
              have f2 := P1.out.en.x0.frozen 2
              have hwab : w0 ≠ ab := by have := P1.out.en.o2; have := P1.out.en.o1; have := P1.out.en.o3; have := P1.out.lt; omega
              have hwab' : ab ≠ w0 := hwab.symm
              go_upto_region 22 with fail
              obtain ⟨V2, hV2⟩ : ∃ V2, V2 = (((V1.setCell ⟨w0, 2, none⟩ (.int .i64 0)).setCell ⟨w0, 0, none⟩ (.string ⟨#[]⟩)).setCell ⟨w0, 1, none⟩ (.int .i64 0)) := ⟨_, rfl⟩
              have P2 : Hid (Pb w g l0 l1 w0 w1 L Lo ⟨⟨#[]⟩, 0, 0, X.come, X.err⟩ Xo L Lo yi yo ab x (x.n) V2) := by rw [hV2]; exact Lib.hid (((P1.out.wst0 2 (.int .i64 0) (X' := ⟨X.sent, X.sends, 0, X.come, X.err⟩) rfl).wst0 0 (.string ⟨#[]⟩) (X' := ⟨⟨#[]⟩, X.sends, 0, X.come, X.err⟩) rfl).wst0 1 (.int .i64 0) (X' := ⟨⟨#[]⟩, 0, 0, X.come, X.err⟩) rfl)
              rw [← hV2]
              clear hV2 b0 b3 x0 x1 x2 f0 f1 f2
              have q1 : V2.cell? ⟨g, 0, none⟩ = some (.pointer (some ⟨l0, 0, none⟩)) := P2.out.en.blk.cell 0
              have q2 : V2.cell? ⟨ab, 3, none⟩ = some (.string x.data) := P2.out.box.cell 3
              go_cut [11] (fun c wx => c = .int .i64 28 ∧ Pb w g l0 l1 w0 w1 L Lo ⟨⟨#[]⟩, 0, 0, X.come, X.err⟩ Xo L Lo yi yo ab x (x.n) wx)
              case first =>
                have CS := Lib.hid (P2.out.drew.sendF0 HF.out x.data)
                go_region_held3 (fun W => W.cell? ⟨g, 0, none⟩ = some (.pointer (some ⟨l0, 0, none⟩)) ∧ W.cell? ⟨ab, 3, none⟩ = some (.string x.data)) (first | exact ⟨r1, r2⟩ | go_keep) (first
                  | (go_at_call 14; refine (CS.out).mono ?_; rintro e u0 ⟨rfl, hu0⟩; have P3 := Lib.hid hu0; have r1 : u0.cell? ⟨g, 0, none⟩ = some (.pointer (some ⟨l0, 0, none⟩)) := hu0.en.blk.cell 0; have r2 : u0.cell? ⟨ab, 3, none⟩ = some (.string x.data) := hu0.box.cell 3; clear hu0))
                all_goals
                  go_wp2_with fail
                  go_meet
                  exact ⟨rfl, P3.out⟩
              case rest =>
              obtain ⟨rfl, hP3⟩ := hcut
              have P3 := Lib.hid hP3
              obtain ⟨V3, rfl⟩ : ∃ V : World, V = wc := ⟨_, rfl⟩
              clear hP3 q1 q2 P2
              have z0 : V3.cell? ⟨g, 4, none⟩ = some (.string L.key) := P3.out.en.blk.cell 4
              have z1 : V3.cell? ⟨g, 5, none⟩ = some (.int .i64 L.side) := P3.out.en.blk.cell 5
              have z2 : V3.cell? ⟨g, 6, none⟩ = some (.string L.left) := P3.out.en.blk.cell 6
              have z3 : V3.cell? ⟨g, 7, none⟩ = some (.int .i64 L.sent) := P3.out.en.blk.cell 7
              have z4 : V3.cell? ⟨g, 8, none⟩ = some (.int .i64 L.taken) := P3.out.en.blk.cell 8
              have z5 : V3.cell? ⟨g, 9, none⟩ = some (.bool L.fin) := P3.out.en.blk.cell 9
              have zd : V3.cell? ⟨ab, 3, none⟩ = some (.string x.data) := P3.out.box.cell 3
              go_upto_region 23 with fail
              go_cut [12, 13] (fun c d wx => c = .string OB ∧ d = .int .i64 (cn : Nat) ∧ Pb w g l0 l1 w0 w1 L Lo ⟨⟨#[]⟩, 0, 0, X.come, X.err⟩ Xo L Lo yi yo ab x (x.n) wx)
              case first =>
                go_region_held3 (fun W => W.cell? ⟨g, 4, none⟩ = some (.string L.key) ∧ W.cell? ⟨g, 5, none⟩ = some (.int .i64 L.side) ∧ W.cell? ⟨g, 6, none⟩ = some (.string L.left) ∧ W.cell? ⟨g, 7, none⟩ = some (.int .i64 L.sent) ∧ W.cell? ⟨g, 8, none⟩ = some (.int .i64 L.taken) ∧ W.cell? ⟨g, 9, none⟩ = some (.bool L.fin) ∧ W.cell? ⟨ab, 3, none⟩ = some (.string x.data)) (first | exact ⟨r0, r1, r2, r3, r4, r5, r9⟩ | go_keep) (first
                  | (go_at_call 22; refine (CQ.out _).mono ?_; rintro e u0 ⟨rfl, hu0⟩; have P4 := Lib.hid (P3.out.drew.later hu0); have r0 : u0.cell? ⟨g, 4, none⟩ = some (.string L.key) := P4.out.en.blk.cell 4; have r1 : u0.cell? ⟨g, 5, none⟩ = some (.int .i64 L.side) := P4.out.en.blk.cell 5; have r2 : u0.cell? ⟨g, 6, none⟩ = some (.string L.left) := P4.out.en.blk.cell 6; have r3 : u0.cell? ⟨g, 7, none⟩ = some (.int .i64 L.sent) := P4.out.en.blk.cell 7; have r4 : u0.cell? ⟨g, 8, none⟩ = some (.int .i64 L.taken) := P4.out.en.blk.cell 8; have r5 : u0.cell? ⟨g, 9, none⟩ = some (.bool L.fin) := P4.out.en.blk.cell 9; have r9 : u0.cell? ⟨ab, 3, none⟩ = some (.string x.data) := P4.out.box.cell 3; clear hu0))
                all_goals
                  go_wp2_with fail
                  go_meet
                  exact ⟨rfl, rfl, P4.out⟩
              case rest =>
              obtain ⟨rfl, rfl, hP4⟩ := hcut
              have P4 := Lib.hid hP4
              obtain ⟨V4, rfl⟩ : ∃ V : World, V = wc := ⟨_, rfl⟩
              clear hP4 z0 z1 z2 z3 z4 z5 zd P3
              have t5 : V4.cell? ⟨g, 9, none⟩ = some (.bool true) := by rw [← HF.out]; exact P4.out.en.blk.cell 9
              have t3 : V4.cell? ⟨g, 7, none⟩ = some (.int .i64 (s0 : Nat)) := by rw [← HL.out.sent]; exact P4.out.en.blk.cell 7
              have f3 := P4.out.en.blk.frozen 7
              have b0 : V4.cell? ⟨ab, 0, none⟩ = some (.int .i64 0) := by rw [← hkd]; exact P4.out.box.cell 0
              have x0 : V4.cell? ⟨w0, 0, none⟩ = some (.string ⟨#[]⟩) := P4.out.en.x0.cell 0
              have x1 : V4.cell? ⟨w0, 1, none⟩ = some (.int .i64 0) := P4.out.en.x0.cell 1
              go_upto_region 32 with fail
              obtain ⟨V5, hV5⟩ : ∃ V5, V5 = V4.setCell ⟨g, 7, none⟩ (.int .i64 (s0 : Nat)) := ⟨_, rfl⟩
              have P5 : Hid (Pb w g l0 l1 w0 w1 L Lo ⟨⟨#[]⟩, 0, 0, X.come, X.err⟩ Xo L Lo yi yo ab x (x.n) V5) := by rw [hV5]; have := P4.out.rst0 (s0 : Nat); rw [← HL.out.sent] at this ⊢; exact Lib.hid this
              rw [← hV5]
              clear hV5 t5 t3 f3 b0 x0 x1 P4
              have ty : V5.cell? ⟨g, 17, none⟩ = some (.string yo) := P5.out.en.blk.cell 17
              have fy := P5.out.en.blk.frozen 17
              have c1 : ¬ 9223372036854775807 < yo.size + (⟨#[]⟩ : ByteArray).size := by show ¬ 9223372036854775807 < yo.size + 0; omega
              go_region
              all_goals
                obtain ⟨V6, hV6⟩ : ∃ V6, V6 = (V5.setCell ⟨g, 17, none⟩ (.string (yo ++ ⟨#[]⟩))).drew := ⟨_, rfl⟩
                have P6 : Hid (Pb w g l0 l1 w0 w1 L Lo ⟨⟨#[]⟩, 0, 0, X.come, X.err⟩ Xo L Lo yi (yo ++ ⟨#[]⟩) ab x (x.n) V6) := by rw [hV6]; exact Lib.hid (P5.out.yst1 _).drew
                rw [← hV6]
                clear hV6 ty fy P5
                go_wp2_with (first
                  | (go_at_call 23; (with_reducible refine ((P6.out.agree0)).mono ?_); rintro e u1 ⟨rfl, hu1⟩; have A1 := Lib.hid hu1; clear hu1)
                  | (go_at_call 23; (with_reducible refine ((A1.out.agree1)).mono ?_); rintro e u2 ⟨rfl, hu2⟩; have A2 := Lib.hid hu2; clear hu2))
                go_roundg (gk - 1)
                case measure => omega
                case rel =>
                  refine ⟨m + 1, by omega, by go_num, ?_⟩
                  have e2 : (yo ++ ⟨#[]⟩ : ByteArray).size = yo.size := by rw [ByteArray.size_append]; rfl
                  have e4 := HN.out
                  exact ⟨L, Lo, _, Xo, yi, (yo ++ ⟨#[]⟩), ni, no, s0, so, HL.out, HO.out, by omega, by omega, by omega, by omega, A2.out.en, A2.out.below⟩
          · have hff : L.fin = false := by simpa using hfin
            clear hfin
            have hfin := hff
            clear hff
            by_cases hd0 : x.data.size = 0
            · have hde : x.data = ⟨#[]⟩ := ByteArray.size_eq_zero_iff.1 hd0
              as_aux_lemma =>
                have HF := Lib.hid hfin
                clear hfin
                have HDE := Lib.hid hde
                clear hde hd0
                have b0 : V1.cell? ⟨ab, 0, none⟩ = some (.int .i64 0) := by rw [← hkd]; exact P1.out.box.cell 0
                have b3 : V1.cell? ⟨ab, 3, none⟩ = some (.string x.data) := P1.out.box.cell 3
                have x0 : V1.cell? ⟨w0, 0, none⟩ = some (.string X.sent) := P1.out.en.x0.cell 0
                have f0 := P1.out.en.x0.frozen 0
                have x1 : V1.cell? ⟨w0, 1, none⟩ = some (.int .i64 X.sends) := P1.out.en.x0.cell 1
                have f1 := P1.out.en.x0.frozen 1
                have x2 : V1.cell? ⟨w0, 2, none⟩ = some (.int .i64 X.refuse) := P1.out.en.x0.cell 2
                have f2 := P1.out.en.x0.frozen 2
                have hwab : w0 ≠ ab := by have := P1.out.en.o2; have := P1.out.en.o1; have := P1.out.en.o3; have := P1.out.lt; omega
                have hwab' : ab ≠ w0 := hwab.symm
                go_upto_region 22 with fail
                obtain ⟨V2, hV2⟩ : ∃ V2, V2 = (((V1.setCell ⟨w0, 2, none⟩ (.int .i64 0)).setCell ⟨w0, 0, none⟩ (.string ⟨#[]⟩)).setCell ⟨w0, 1, none⟩ (.int .i64 0)) := ⟨_, rfl⟩
                have P2 : Hid (Pb w g l0 l1 w0 w1 L Lo ⟨⟨#[]⟩, 0, 0, X.come, X.err⟩ Xo L Lo yi yo ab x (x.n) V2) := by rw [hV2]; exact Lib.hid (((P1.out.wst0 2 (.int .i64 0) (X' := ⟨X.sent, X.sends, 0, X.come, X.err⟩) rfl).wst0 0 (.string ⟨#[]⟩) (X' := ⟨⟨#[]⟩, X.sends, 0, X.come, X.err⟩) rfl).wst0 1 (.int .i64 0) (X' := ⟨⟨#[]⟩, 0, 0, X.come, X.err⟩) rfl)
                rw [← hV2]
                clear hV2 b0 b3 x0 x1 x2 f0 f1 f2
                have q1 : V2.cell? ⟨g, 0, none⟩ = some (.pointer (some ⟨l0, 0, none⟩)) := P2.out.en.blk.cell 0
                have q2 : V2.cell? ⟨ab, 3, none⟩ = some (.string x.data) := P2.out.box.cell 3
                go_cut [11] (fun c wx => c = .int .i64 0 ∧ Pb w g l0 l1 w0 w1 L Lo ⟨⟨#[]⟩, 0, 0, X.come, X.err⟩ Xo L Lo yi yo ab x (x.n) wx)
                case first =>
                  rw [HDE.out] at q2
                  have CS := Lib.hid (P2.out.drew.sendE0 HF.out)
                  go_region_held3 (fun W => W.cell? ⟨g, 0, none⟩ = some (.pointer (some ⟨l0, 0, none⟩)) ∧ W.cell? ⟨ab, 3, none⟩ = some (.string ⟨#[]⟩)) (first | exact ⟨r1, r2⟩ | go_keep) (first
                    | (go_at_call 14; refine (CS.out).mono ?_; rintro e u0 ⟨rfl, hu0⟩; have P3 := Lib.hid hu0; have r1 : u0.cell? ⟨g, 0, none⟩ = some (.pointer (some ⟨l0, 0, none⟩)) := hu0.en.blk.cell 0; have r2 : u0.cell? ⟨ab, 3, none⟩ = some (.string ⟨#[]⟩) := HDE.out ▸ hu0.box.cell 3; clear hu0))
                  all_goals
                    go_wp2_with fail
                    go_meet
                    exact ⟨rfl, P3.out⟩
                case rest =>
                obtain ⟨rfl, hP3⟩ := hcut
                have P3 := Lib.hid hP3
                obtain ⟨V3, rfl⟩ : ∃ V : World, V = wc := ⟨_, rfl⟩
                clear hP3 q1 q2 P2
                have z0 : V3.cell? ⟨g, 4, none⟩ = some (.string L.key) := P3.out.en.blk.cell 4
                have z1 : V3.cell? ⟨g, 5, none⟩ = some (.int .i64 L.side) := P3.out.en.blk.cell 5
                have z2 : V3.cell? ⟨g, 6, none⟩ = some (.string L.left) := P3.out.en.blk.cell 6
                have z3 : V3.cell? ⟨g, 7, none⟩ = some (.int .i64 L.sent) := P3.out.en.blk.cell 7
                have z4 : V3.cell? ⟨g, 8, none⟩ = some (.int .i64 L.taken) := P3.out.en.blk.cell 8
                have z5 : V3.cell? ⟨g, 9, none⟩ = some (.bool L.fin) := P3.out.en.blk.cell 9
                have zd : V3.cell? ⟨ab, 3, none⟩ = some (.string x.data) := P3.out.box.cell 3
                go_upto_region 23 with fail
                go_cut [12, 13] (fun c d wx => c = .string OB ∧ d = .int .i64 (cn : Nat) ∧ Pb w g l0 l1 w0 w1 L Lo ⟨⟨#[]⟩, 0, 0, X.come, X.err⟩ Xo L Lo yi yo ab x (x.n) wx)
                case first =>
                  go_region_held3 (fun W => W.cell? ⟨g, 4, none⟩ = some (.string L.key) ∧ W.cell? ⟨g, 5, none⟩ = some (.int .i64 L.side) ∧ W.cell? ⟨g, 6, none⟩ = some (.string L.left) ∧ W.cell? ⟨g, 7, none⟩ = some (.int .i64 L.sent) ∧ W.cell? ⟨g, 8, none⟩ = some (.int .i64 L.taken) ∧ W.cell? ⟨g, 9, none⟩ = some (.bool L.fin) ∧ W.cell? ⟨ab, 3, none⟩ = some (.string x.data)) (first | exact ⟨r0, r1, r2, r3, r4, r5, r9⟩ | go_keep) (first
                    | (go_at_call 22; refine (CQ.out _).mono ?_; rintro e u0 ⟨rfl, hu0⟩; have P4 := Lib.hid (P3.out.drew.later hu0); have r0 : u0.cell? ⟨g, 4, none⟩ = some (.string L.key) := P4.out.en.blk.cell 4; have r1 : u0.cell? ⟨g, 5, none⟩ = some (.int .i64 L.side) := P4.out.en.blk.cell 5; have r2 : u0.cell? ⟨g, 6, none⟩ = some (.string L.left) := P4.out.en.blk.cell 6; have r3 : u0.cell? ⟨g, 7, none⟩ = some (.int .i64 L.sent) := P4.out.en.blk.cell 7; have r4 : u0.cell? ⟨g, 8, none⟩ = some (.int .i64 L.taken) := P4.out.en.blk.cell 8; have r5 : u0.cell? ⟨g, 9, none⟩ = some (.bool L.fin) := P4.out.en.blk.cell 9; have r9 : u0.cell? ⟨ab, 3, none⟩ = some (.string x.data) := P4.out.box.cell 3; clear hu0))
                  all_goals
                    go_wp2_with fail
                    go_meet
                    exact ⟨rfl, rfl, P4.out⟩
                case rest =>
                obtain ⟨rfl, rfl, hP4⟩ := hcut
                have P4 := Lib.hid hP4
                obtain ⟨V4, rfl⟩ : ∃ V : World, V = wc := ⟨_, rfl⟩
                clear hP4 z0 z1 z2 z3 z4 z5 zd P3
                have t5 : V4.cell? ⟨g, 9, none⟩ = some (.bool false) := by rw [← HF.out]; exact P4.out.en.blk.cell 9
                have t3 : V4.cell? ⟨g, 7, none⟩ = some (.int .i64 (s0 : Nat)) := by rw [← HL.out.sent]; exact P4.out.en.blk.cell 7
                have f3 := P4.out.en.blk.frozen 7
                have b0 : V4.cell? ⟨ab, 0, none⟩ = some (.int .i64 0) := by rw [← hkd]; exact P4.out.box.cell 0
                have x0 : V4.cell? ⟨w0, 0, none⟩ = some (.string ⟨#[]⟩) := P4.out.en.x0.cell 0
                have x1 : V4.cell? ⟨w0, 1, none⟩ = some (.int .i64 0) := P4.out.en.x0.cell 1
                have hcn0 : cn = 0 := by rw [HCN.out, HDE.out]; rfl
                have hOe : OB = ⟨#[]⟩ := by rw [HOB.out, HDE.out]; rfl
                subst hcn0
                subst hOe
                go_upto_region 32 with fail
                obtain ⟨V5, hV5⟩ : ∃ V5, V5 = V4.setCell ⟨g, 7, none⟩ (.int .i64 (s0 : Nat)) := ⟨_, rfl⟩
                have P5 : Hid (Pb w g l0 l1 w0 w1 L Lo ⟨⟨#[]⟩, 0, 0, X.come, X.err⟩ Xo L Lo yi yo ab x (x.n) V5) := by rw [hV5]; have := P4.out.rst0 (s0 : Nat); rw [← HL.out.sent] at this ⊢; exact Lib.hid this
                rw [← hV5]
                clear hV5 t5 t3 f3 b0 x0 x1 P4
                have ty : V5.cell? ⟨g, 17, none⟩ = some (.string yo) := P5.out.en.blk.cell 17
                have fy := P5.out.en.blk.frozen 17
                have c1 : ¬ 9223372036854775807 < yo.size + (⟨#[]⟩ : ByteArray).size := by show ¬ 9223372036854775807 < yo.size + 0; omega
                go_region
                all_goals
                  obtain ⟨V6, hV6⟩ : ∃ V6, V6 = (V5.setCell ⟨g, 17, none⟩ (.string (yo ++ ⟨#[]⟩))).drew := ⟨_, rfl⟩
                  have P6 : Hid (Pb w g l0 l1 w0 w1 L Lo ⟨⟨#[]⟩, 0, 0, X.come, X.err⟩ Xo L Lo yi (yo ++ ⟨#[]⟩) ab x (x.n) V6) := by rw [hV6]; exact Lib.hid (P5.out.yst1 _).drew
                  rw [← hV6]
                  clear hV6 ty fy P5
                  go_wp2_with (first
                    | (go_at_call 23; (with_reducible refine ((P6.out.agree0)).mono ?_); rintro e u1 ⟨rfl, hu1⟩; have A1 := Lib.hid hu1; clear hu1)
                    | (go_at_call 23; (with_reducible refine ((A1.out.agree1)).mono ?_); rintro e u2 ⟨rfl, hu2⟩; have A2 := Lib.hid hu2; clear hu2))
                  go_roundg (gk - 1)
                  case measure => omega
                  case rel =>
                    refine ⟨m + 1, by omega, by go_num, ?_⟩
                    have e2 : (yo ++ ⟨#[]⟩ : ByteArray).size = yo.size := by rw [ByteArray.size_append]; rfl
                    have e4 := HN.out
                    exact ⟨L, Lo, _, Xo, yi, (yo ++ ⟨#[]⟩), ni, no, s0, so, HL.out, HO.out, by omega, by omega, by omega, by omega, A2.out.en, A2.out.below⟩
            · skip
              as_aux_lemma =>
                have HF := Lib.hid hfin
                clear hfin
                have HD0 := Lib.hid hd0
                clear hd0
                have b0 : V1.cell? ⟨ab, 0, none⟩ = some (.int .i64 0) := by rw [← hkd]; exact P1.out.box.cell 0
                have b3 : V1.cell? ⟨ab, 3, none⟩ = some (.string x.data) := P1.out.box.cell 3
                have x0 : V1.cell? ⟨w0, 0, none⟩ = some (.string X.sent) := P1.out.en.x0.cell 0
                have f0 := P1.out.en.x0.frozen 0
                have x1 : V1.cell? ⟨w0, 1, none⟩ = some (.int .i64 X.sends) := P1.out.en.x0.cell 1
                have f1 := P1.out.en.x0.frozen 1
                have x2 : V1.cell? ⟨w0, 2, none⟩ = some (.int .i64 X.refuse) := P1.out.en.x0.cell 2
                have f2 := P1.out.en.x0.frozen 2
                have hwab : w0 ≠ ab := by have := P1.out.en.o2; have := P1.out.en.o1; have := P1.out.en.o3; have := P1.out.lt; omega
                have hwab' : ab ≠ w0 := hwab.symm
                go_upto_region 22 with fail
                obtain ⟨V2, hV2⟩ : ∃ V2, V2 = (((V1.setCell ⟨w0, 2, none⟩ (.int .i64 0)).setCell ⟨w0, 0, none⟩ (.string ⟨#[]⟩)).setCell ⟨w0, 1, none⟩ (.int .i64 0)) := ⟨_, rfl⟩
                have P2 : Hid (Pb w g l0 l1 w0 w1 L Lo ⟨⟨#[]⟩, 0, 0, X.come, X.err⟩ Xo L Lo yi yo ab x (x.n) V2) := by rw [hV2]; exact Lib.hid (((P1.out.wst0 2 (.int .i64 0) (X' := ⟨X.sent, X.sends, 0, X.come, X.err⟩) rfl).wst0 0 (.string ⟨#[]⟩) (X' := ⟨⟨#[]⟩, X.sends, 0, X.come, X.err⟩) rfl).wst0 1 (.int .i64 0) (X' := ⟨⟨#[]⟩, 0, 0, X.come, X.err⟩) rfl)
                rw [← hV2]
                clear hV2 b0 b3 x0 x1 x2 f0 f1 f2
                have q1 : V2.cell? ⟨g, 0, none⟩ = some (.pointer (some ⟨l0, 0, none⟩)) := P2.out.en.blk.cell 0
                have q2 : V2.cell? ⟨ab, 3, none⟩ = some (.string x.data) := P2.out.box.cell 3
                go_cut [11] (fun c wx => c = .int .i64 0 ∧ Pb w g l0 l1 w0 w1 ⟨L.key, L.side, ((s0 + cntL x.data.size : Nat) : Int), L.taken, L.left, L.fin⟩ Lo ⟨⟨(outL L.key.data.toList L.side s0 x.data.data.toList (cntL x.data.size)).toArray⟩, 1, 0, X.come, X.err⟩ Xo L Lo yi yo ab x (x.n) wx)
                case first =>
                  have CS := Lib.hid (P2.out.drew.sendO0 HF.out HL.out hs1M X.come X.err rfl x.data hdata HD0.out hB2 HT.out)
                  go_region_held3 (fun W => W.cell? ⟨g, 0, none⟩ = some (.pointer (some ⟨l0, 0, none⟩)) ∧ W.cell? ⟨ab, 3, none⟩ = some (.string x.data)) (first | exact ⟨r1, r2⟩ | go_keep) (first
                    | (go_at_call 14; refine (CS.out).mono ?_; rintro e u0 ⟨rfl, hu0⟩; have P3 := Lib.hid hu0; have r1 : u0.cell? ⟨g, 0, none⟩ = some (.pointer (some ⟨l0, 0, none⟩)) := hu0.en.blk.cell 0; have r2 : u0.cell? ⟨ab, 3, none⟩ = some (.string x.data) := hu0.box.cell 3; clear hu0))
                  all_goals
                    go_wp2_with fail
                    go_meet
                    exact ⟨rfl, P3.out⟩
                case rest =>
                obtain ⟨rfl, hP3⟩ := hcut
                have P3 := Lib.hid hP3
                obtain ⟨V3, rfl⟩ : ∃ V : World, V = wc := ⟨_, rfl⟩
                clear hP3 q1 q2 P2
                have z0 : V3.cell? ⟨g, 4, none⟩ = some (.string L.key) := P3.out.en.blk.cell 4
                have z1 : V3.cell? ⟨g, 5, none⟩ = some (.int .i64 L.side) := P3.out.en.blk.cell 5
                have z2 : V3.cell? ⟨g, 6, none⟩ = some (.string L.left) := P3.out.en.blk.cell 6
                have z3 : V3.cell? ⟨g, 7, none⟩ = some (.int .i64 L.sent) := P3.out.en.blk.cell 7
                have z4 : V3.cell? ⟨g, 8, none⟩ = some (.int .i64 L.taken) := P3.out.en.blk.cell 8
                have z5 : V3.cell? ⟨g, 9, none⟩ = some (.bool L.fin) := P3.out.en.blk.cell 9
                have zd : V3.cell? ⟨ab, 3, none⟩ = some (.string x.data) := P3.out.box.cell 3
                go_upto_region 23 with fail
                go_cut [12, 13] (fun c d wx => c = .string OB ∧ d = .int .i64 (cn : Nat) ∧ Pb w g l0 l1 w0 w1 ⟨L.key, L.side, ((s0 + cntL x.data.size : Nat) : Int), L.taken, L.left, L.fin⟩ Lo ⟨⟨(outL L.key.data.toList L.side s0 x.data.data.toList (cntL x.data.size)).toArray⟩, 1, 0, X.come, X.err⟩ Xo L Lo yi yo ab x (x.n) wx)
                case first =>
                  go_region_held3 (fun W => W.cell? ⟨g, 4, none⟩ = some (.string L.key) ∧ W.cell? ⟨g, 5, none⟩ = some (.int .i64 L.side) ∧ W.cell? ⟨g, 6, none⟩ = some (.string L.left) ∧ W.cell? ⟨g, 7, none⟩ = some (.int .i64 L.sent) ∧ W.cell? ⟨g, 8, none⟩ = some (.int .i64 L.taken) ∧ W.cell? ⟨g, 9, none⟩ = some (.bool L.fin) ∧ W.cell? ⟨ab, 3, none⟩ = some (.string x.data)) (first | exact ⟨r0, r1, r2, r3, r4, r5, r9⟩ | go_keep) (first
                    | (go_at_call 22; refine (CQ.out _).mono ?_; rintro e u0 ⟨rfl, hu0⟩; have P4 := Lib.hid (P3.out.drew.later hu0); have r0 : u0.cell? ⟨g, 4, none⟩ = some (.string L.key) := P4.out.en.blk.cell 4; have r1 : u0.cell? ⟨g, 5, none⟩ = some (.int .i64 L.side) := P4.out.en.blk.cell 5; have r2 : u0.cell? ⟨g, 6, none⟩ = some (.string L.left) := P4.out.en.blk.cell 6; have r3 : u0.cell? ⟨g, 7, none⟩ = some (.int .i64 L.sent) := P4.out.en.blk.cell 7; have r4 : u0.cell? ⟨g, 8, none⟩ = some (.int .i64 L.taken) := P4.out.en.blk.cell 8; have r5 : u0.cell? ⟨g, 9, none⟩ = some (.bool L.fin) := P4.out.en.blk.cell 9; have r9 : u0.cell? ⟨ab, 3, none⟩ = some (.string x.data) := P4.out.box.cell 3; clear hu0))
                  all_goals
                    go_wp2_with fail
                    go_meet
                    exact ⟨rfl, rfl, P4.out⟩
                case rest =>
                obtain ⟨rfl, rfl, hP4⟩ := hcut
                have P4 := Lib.hid hP4
                obtain ⟨V4, rfl⟩ : ∃ V : World, V = wc := ⟨_, rfl⟩
                clear hP4 z0 z1 z2 z3 z4 z5 zd P3
                have t5 : V4.cell? ⟨g, 9, none⟩ = some (.bool false) := by rw [← HF.out]; exact P4.out.en.blk.cell 9
                have t3 : V4.cell? ⟨g, 7, none⟩ = some (.int .i64 (s0 : Nat)) := by rw [← HL.out.sent]; exact P4.out.en.blk.cell 7
                have f3 := P4.out.en.blk.frozen 7
                have b0 : V4.cell? ⟨ab, 0, none⟩ = some (.int .i64 0) := by rw [← hkd]; exact P4.out.box.cell 0
                have x0 : V4.cell? ⟨w0, 0, none⟩ = some (.string OB) := by rw [HOB.out]; exact P4.out.en.x0.cell 0
                have x1 : V4.cell? ⟨w0, 1, none⟩ = some (.int .i64 1) := P4.out.en.x0.cell 1
                have cn1 : 0 < cn := by rw [HCN.out]; have := HD0.out; unfold cntL; omega
                have cn2 : (0 : Int) < (cn : Int) := by omega
                have cn3 : min (cn : Int) 1 = 1 := by omega
                have sw : IntKind.i64.wrap ((s0 : Int) + (cn : Int)) = (s0 : Int) + (cn : Int) := IntWalk.i64_in _ (by have := HCN.out; have := cnt_few hdata; omega)
                go_upto_region 32 with fail
                obtain ⟨V5, hV5⟩ : ∃ V5, V5 = V4.setCell ⟨g, 7, none⟩ (.int .i64 ((s0 : Int) + (cn : Int))) := ⟨_, rfl⟩
                have P5 : Hid (Pb w g l0 l1 w0 w1 ⟨L.key, L.side, ((s0 + cntL x.data.size : Nat) : Int), L.taken, L.left, L.fin⟩ Lo ⟨⟨(outL L.key.data.toList L.side s0 x.data.data.toList (cntL x.data.size)).toArray⟩, 1, 0, X.come, X.err⟩ Xo ⟨L.key, L.side, ((s0 + cntL x.data.size : Nat) : Int), L.taken, L.left, L.fin⟩ Lo yi yo ab x (x.n) V5) := by rw [hV5, show (s0 : Int) + (cn : Int) = ((s0 + cntL x.data.size : Nat) : Int) by rw [HCN.out]; omega]; exact Lib.hid (P4.out.rst0 _)
                rw [← hV5]
                clear hV5 t5 t3 f3 b0 x0 x1 P4
                have ty : V5.cell? ⟨g, 17, none⟩ = some (.string yo) := P5.out.en.blk.cell 17
                have fy := P5.out.en.blk.frozen 17
                have c1 : ¬ 9223372036854775807 < yo.size + (OB : ByteArray).size := by have := hObs; omega
                go_region
                all_goals
                  obtain ⟨V6, hV6⟩ : ∃ V6, V6 = (V5.setCell ⟨g, 17, none⟩ (.string (yo ++ OB))).drew := ⟨_, rfl⟩
                  have P6 : Hid (Pb w g l0 l1 w0 w1 ⟨L.key, L.side, ((s0 + cntL x.data.size : Nat) : Int), L.taken, L.left, L.fin⟩ Lo ⟨⟨(outL L.key.data.toList L.side s0 x.data.data.toList (cntL x.data.size)).toArray⟩, 1, 0, X.come, X.err⟩ Xo ⟨L.key, L.side, ((s0 + cntL x.data.size : Nat) : Int), L.taken, L.left, L.fin⟩ Lo yi (yo ++ OB) ab x (x.n) V6) := by rw [hV6]; exact Lib.hid (P5.out.yst1 _).drew
                  rw [← hV6]
                  clear hV6 ty fy P5
                  go_wp2_with (first
                    | (go_at_call 23; (with_reducible refine ((P6.out.agree0)).mono ?_); rintro e u1 ⟨rfl, hu1⟩; have A1 := Lib.hid hu1; clear hu1)
                    | (go_at_call 23; (with_reducible refine ((A1.out.agree1)).mono ?_); rintro e u2 ⟨rfl, hu2⟩; have A2 := Lib.hid hu2; clear hu2))
                  go_roundg (gk - 1)
                  case measure => omega
                  case rel =>
                    refine ⟨m + 1, by omega, by go_num, ?_⟩
                    have e1 := cnt_few hdata
                    have e2 : (yo ++ OB).size = yo.size + OB.size := ByteArray.size_append
                    have e3 := hObs
                    have e5 : (⟨L.key, L.side, ((s0 + cntL x.data.size : Nat) : Int), L.taken, L.left, L.fin⟩ : Lk).left.size = L.left.size := rfl
                    have e4 := HN.out
                    exact ⟨⟨L.key, L.side, ((s0 + cntL x.data.size : Nat) : Int), L.taken, L.left, L.fin⟩, Lo, _, Xo, yi, (yo ++ OB), ni, no, (s0 + cntL x.data.size), so, ⟨HL.out.key, HL.out.taken, rfl⟩, HO.out, by omega, by omega, by omega, by omega, A2.out.en, A2.out.below⟩
        by_cases h3 : x.kind = 3
        · have hkd := h3
          clear h3
          by_cases hfin : L.fin = true
          · skip
            as_aux_lemma =>
              have HF := Lib.hid hfin
              clear hfin
              have b0 : V1.cell? ⟨ab, 0, none⟩ = some (.int .i64 3) := by rw [← hkd]; exact P1.out.box.cell 0
              have b3 : V1.cell? ⟨ab, 3, none⟩ = some (.string x.data) := P1.out.box.cell 3
              have x0 : V1.cell? ⟨w0, 0, none⟩ = some (.string X.sent) := P1.out.en.x0.cell 0
              have f0 := P1.out.en.x0.frozen 0
              have x1 : V1.cell? ⟨w0, 1, none⟩ = some (.int .i64 X.sends) := P1.out.en.x0.cell 1
              have f1 := P1.out.en.x0.frozen 1
              have x2 : V1.cell? ⟨w0, 2, none⟩ = some (.int .i64 X.refuse) := P1.out.en.x0.cell 2
              have f2 := P1.out.en.x0.frozen 2
              have hwab : w0 ≠ ab := by have := P1.out.en.o2; have := P1.out.en.o1; have := P1.out.en.o3; have := P1.out.lt; omega
              have hwab' : ab ≠ w0 := hwab.symm
              go_upto_region 22 with fail
              obtain ⟨V2, hV2⟩ : ∃ V2, V2 = ((((V1.setCell ⟨w0, 2, none⟩ (.int .i64 0)).setCell ⟨w0, 2, none⟩ (.int .i64 36)).setCell ⟨w0, 0, none⟩ (.string ⟨#[]⟩)).setCell ⟨w0, 1, none⟩ (.int .i64 0)) := ⟨_, rfl⟩
              have P2 : Hid (Pb w g l0 l1 w0 w1 L Lo ⟨⟨#[]⟩, 0, 36, X.come, X.err⟩ Xo L Lo yi yo ab x (x.n) V2) := by rw [hV2]; exact Lib.hid ((((P1.out.wst0 2 (.int .i64 0) (X' := ⟨X.sent, X.sends, 0, X.come, X.err⟩) rfl).wst0 2 (.int .i64 36) (X' := ⟨X.sent, X.sends, 36, X.come, X.err⟩) rfl).wst0 0 (.string ⟨#[]⟩) (X' := ⟨⟨#[]⟩, X.sends, 36, X.come, X.err⟩) rfl).wst0 1 (.int .i64 0) (X' := ⟨⟨#[]⟩, 0, 36, X.come, X.err⟩) rfl)
              rw [← hV2]
              clear hV2 b0 b3 x0 x1 x2 f0 f1 f2
              have q1 : V2.cell? ⟨g, 0, none⟩ = some (.pointer (some ⟨l0, 0, none⟩)) := P2.out.en.blk.cell 0
              have q2 : V2.cell? ⟨ab, 3, none⟩ = some (.string x.data) := P2.out.box.cell 3
              go_cut [11] (fun c wx => c = .int .i64 28 ∧ Pb w g l0 l1 w0 w1 L Lo ⟨⟨#[]⟩, 0, 36, X.come, X.err⟩ Xo L Lo yi yo ab x (x.n) wx)
              case first =>
                have CS := Lib.hid (P2.out.drew.sendF0 HF.out x.data)
                go_region_held3 (fun W => W.cell? ⟨g, 0, none⟩ = some (.pointer (some ⟨l0, 0, none⟩)) ∧ W.cell? ⟨ab, 3, none⟩ = some (.string x.data)) (first | exact ⟨r1, r2⟩ | go_keep) (first
                  | (go_at_call 14; refine (CS.out).mono ?_; rintro e u0 ⟨rfl, hu0⟩; have P3 := Lib.hid hu0; have r1 : u0.cell? ⟨g, 0, none⟩ = some (.pointer (some ⟨l0, 0, none⟩)) := hu0.en.blk.cell 0; have r2 : u0.cell? ⟨ab, 3, none⟩ = some (.string x.data) := hu0.box.cell 3; clear hu0))
                all_goals
                  go_wp2_with fail
                  go_meet
                  exact ⟨rfl, P3.out⟩
              case rest =>
              obtain ⟨rfl, hP3⟩ := hcut
              have P3 := Lib.hid hP3
              obtain ⟨V3, rfl⟩ : ∃ V : World, V = wc := ⟨_, rfl⟩
              clear hP3 q1 q2 P2
              have z0 : V3.cell? ⟨g, 4, none⟩ = some (.string L.key) := P3.out.en.blk.cell 4
              have z1 : V3.cell? ⟨g, 5, none⟩ = some (.int .i64 L.side) := P3.out.en.blk.cell 5
              have z2 : V3.cell? ⟨g, 6, none⟩ = some (.string L.left) := P3.out.en.blk.cell 6
              have z3 : V3.cell? ⟨g, 7, none⟩ = some (.int .i64 L.sent) := P3.out.en.blk.cell 7
              have z4 : V3.cell? ⟨g, 8, none⟩ = some (.int .i64 L.taken) := P3.out.en.blk.cell 8
              have z5 : V3.cell? ⟨g, 9, none⟩ = some (.bool L.fin) := P3.out.en.blk.cell 9
              have zd : V3.cell? ⟨ab, 3, none⟩ = some (.string x.data) := P3.out.box.cell 3
              go_upto_region 23 with fail
              go_cut [12, 13] (fun c d wx => c = .string OB ∧ d = .int .i64 (cn : Nat) ∧ Pb w g l0 l1 w0 w1 L Lo ⟨⟨#[]⟩, 0, 36, X.come, X.err⟩ Xo L Lo yi yo ab x (x.n) wx)
              case first =>
                go_region_held3 (fun W => W.cell? ⟨g, 4, none⟩ = some (.string L.key) ∧ W.cell? ⟨g, 5, none⟩ = some (.int .i64 L.side) ∧ W.cell? ⟨g, 6, none⟩ = some (.string L.left) ∧ W.cell? ⟨g, 7, none⟩ = some (.int .i64 L.sent) ∧ W.cell? ⟨g, 8, none⟩ = some (.int .i64 L.taken) ∧ W.cell? ⟨g, 9, none⟩ = some (.bool L.fin) ∧ W.cell? ⟨ab, 3, none⟩ = some (.string x.data)) (first | exact ⟨r0, r1, r2, r3, r4, r5, r9⟩ | go_keep) (first
                  | (go_at_call 22; refine (CQ.out _).mono ?_; rintro e u0 ⟨rfl, hu0⟩; have P4 := Lib.hid (P3.out.drew.later hu0); have r0 : u0.cell? ⟨g, 4, none⟩ = some (.string L.key) := P4.out.en.blk.cell 4; have r1 : u0.cell? ⟨g, 5, none⟩ = some (.int .i64 L.side) := P4.out.en.blk.cell 5; have r2 : u0.cell? ⟨g, 6, none⟩ = some (.string L.left) := P4.out.en.blk.cell 6; have r3 : u0.cell? ⟨g, 7, none⟩ = some (.int .i64 L.sent) := P4.out.en.blk.cell 7; have r4 : u0.cell? ⟨g, 8, none⟩ = some (.int .i64 L.taken) := P4.out.en.blk.cell 8; have r5 : u0.cell? ⟨g, 9, none⟩ = some (.bool L.fin) := P4.out.en.blk.cell 9; have r9 : u0.cell? ⟨ab, 3, none⟩ = some (.string x.data) := P4.out.box.cell 3; clear hu0))
                all_goals
                  go_wp2_with fail
                  go_meet
                  exact ⟨rfl, rfl, P4.out⟩
              case rest =>
              obtain ⟨rfl, rfl, hP4⟩ := hcut
              have P4 := Lib.hid hP4
              obtain ⟨V4, rfl⟩ : ∃ V : World, V = wc := ⟨_, rfl⟩
              clear hP4 z0 z1 z2 z3 z4 z5 zd P3
              have t5 : V4.cell? ⟨g, 9, none⟩ = some (.bool true) := by rw [← HF.out]; exact P4.out.en.blk.cell 9
              have t3 : V4.cell? ⟨g, 7, none⟩ = some (.int .i64 (s0 : Nat)) := by rw [← HL.out.sent]; exact P4.out.en.blk.cell 7
              have f3 := P4.out.en.blk.frozen 7
              have b0 : V4.cell? ⟨ab, 0, none⟩ = some (.int .i64 3) := by rw [← hkd]; exact P4.out.box.cell 0
              have x0 : V4.cell? ⟨w0, 0, none⟩ = some (.string ⟨#[]⟩) := P4.out.en.x0.cell 0
              have x1 : V4.cell? ⟨w0, 1, none⟩ = some (.int .i64 0) := P4.out.en.x0.cell 1
              go_upto_region 32 with fail
              obtain ⟨V5, hV5⟩ : ∃ V5, V5 = V4.setCell ⟨g, 7, none⟩ (.int .i64 (s0 : Nat)) := ⟨_, rfl⟩
              have P5 : Hid (Pb w g l0 l1 w0 w1 L Lo ⟨⟨#[]⟩, 0, 36, X.come, X.err⟩ Xo L Lo yi yo ab x (x.n) V5) := by rw [hV5]; have := P4.out.rst0 (s0 : Nat); rw [← HL.out.sent] at this ⊢; exact Lib.hid this
              rw [← hV5]
              clear hV5 t5 t3 f3 b0 x0 x1 P4
              have ty : V5.cell? ⟨g, 17, none⟩ = some (.string yo) := P5.out.en.blk.cell 17
              have fy := P5.out.en.blk.frozen 17
              have c1 : ¬ 9223372036854775807 < yo.size + (⟨#[]⟩ : ByteArray).size := by show ¬ 9223372036854775807 < yo.size + 0; omega
              go_region
              all_goals
                obtain ⟨V6, hV6⟩ : ∃ V6, V6 = (V5.setCell ⟨g, 17, none⟩ (.string (yo ++ ⟨#[]⟩))).drew := ⟨_, rfl⟩
                have P6 : Hid (Pb w g l0 l1 w0 w1 L Lo ⟨⟨#[]⟩, 0, 36, X.come, X.err⟩ Xo L Lo yi (yo ++ ⟨#[]⟩) ab x (x.n) V6) := by rw [hV6]; exact Lib.hid (P5.out.yst1 _).drew
                rw [← hV6]
                clear hV6 ty fy P5
                go_wp2_with (first
                  | (go_at_call 23; (with_reducible refine ((P6.out.agree0)).mono ?_); rintro e u1 ⟨rfl, hu1⟩; have A1 := Lib.hid hu1; clear hu1)
                  | (go_at_call 23; (with_reducible refine ((A1.out.agree1)).mono ?_); rintro e u2 ⟨rfl, hu2⟩; have A2 := Lib.hid hu2; clear hu2))
                go_roundg (gk - 1)
                case measure => omega
                case rel =>
                  refine ⟨m + 1, by omega, by go_num, ?_⟩
                  have e2 : (yo ++ ⟨#[]⟩ : ByteArray).size = yo.size := by rw [ByteArray.size_append]; rfl
                  have e4 := HN.out
                  exact ⟨L, Lo, _, Xo, yi, (yo ++ ⟨#[]⟩), ni, no, s0, so, HL.out, HO.out, by omega, by omega, by omega, by omega, A2.out.en, A2.out.below⟩
          · have hff : L.fin = false := by simpa using hfin
            clear hfin
            have hfin := hff
            clear hff
            by_cases hd0 : x.data.size = 0
            · have hde : x.data = ⟨#[]⟩ := ByteArray.size_eq_zero_iff.1 hd0
              as_aux_lemma =>
                have HF := Lib.hid hfin
                clear hfin
                have HDE := Lib.hid hde
                clear hde hd0
                have b0 : V1.cell? ⟨ab, 0, none⟩ = some (.int .i64 3) := by rw [← hkd]; exact P1.out.box.cell 0
                have b3 : V1.cell? ⟨ab, 3, none⟩ = some (.string x.data) := P1.out.box.cell 3
                have x0 : V1.cell? ⟨w0, 0, none⟩ = some (.string X.sent) := P1.out.en.x0.cell 0
                have f0 := P1.out.en.x0.frozen 0
                have x1 : V1.cell? ⟨w0, 1, none⟩ = some (.int .i64 X.sends) := P1.out.en.x0.cell 1
                have f1 := P1.out.en.x0.frozen 1
                have x2 : V1.cell? ⟨w0, 2, none⟩ = some (.int .i64 X.refuse) := P1.out.en.x0.cell 2
                have f2 := P1.out.en.x0.frozen 2
                have hwab : w0 ≠ ab := by have := P1.out.en.o2; have := P1.out.en.o1; have := P1.out.en.o3; have := P1.out.lt; omega
                have hwab' : ab ≠ w0 := hwab.symm
                go_upto_region 22 with fail
                obtain ⟨V2, hV2⟩ : ∃ V2, V2 = ((((V1.setCell ⟨w0, 2, none⟩ (.int .i64 0)).setCell ⟨w0, 2, none⟩ (.int .i64 36)).setCell ⟨w0, 0, none⟩ (.string ⟨#[]⟩)).setCell ⟨w0, 1, none⟩ (.int .i64 0)) := ⟨_, rfl⟩
                have P2 : Hid (Pb w g l0 l1 w0 w1 L Lo ⟨⟨#[]⟩, 0, 36, X.come, X.err⟩ Xo L Lo yi yo ab x (x.n) V2) := by rw [hV2]; exact Lib.hid ((((P1.out.wst0 2 (.int .i64 0) (X' := ⟨X.sent, X.sends, 0, X.come, X.err⟩) rfl).wst0 2 (.int .i64 36) (X' := ⟨X.sent, X.sends, 36, X.come, X.err⟩) rfl).wst0 0 (.string ⟨#[]⟩) (X' := ⟨⟨#[]⟩, X.sends, 36, X.come, X.err⟩) rfl).wst0 1 (.int .i64 0) (X' := ⟨⟨#[]⟩, 0, 36, X.come, X.err⟩) rfl)
                rw [← hV2]
                clear hV2 b0 b3 x0 x1 x2 f0 f1 f2
                have q1 : V2.cell? ⟨g, 0, none⟩ = some (.pointer (some ⟨l0, 0, none⟩)) := P2.out.en.blk.cell 0
                have q2 : V2.cell? ⟨ab, 3, none⟩ = some (.string x.data) := P2.out.box.cell 3
                go_cut [11] (fun c wx => c = .int .i64 0 ∧ Pb w g l0 l1 w0 w1 L Lo ⟨⟨#[]⟩, 0, 36, X.come, X.err⟩ Xo L Lo yi yo ab x (x.n) wx)
                case first =>
                  rw [HDE.out] at q2
                  have CS := Lib.hid (P2.out.drew.sendE0 HF.out)
                  go_region_held3 (fun W => W.cell? ⟨g, 0, none⟩ = some (.pointer (some ⟨l0, 0, none⟩)) ∧ W.cell? ⟨ab, 3, none⟩ = some (.string ⟨#[]⟩)) (first | exact ⟨r1, r2⟩ | go_keep) (first
                    | (go_at_call 14; refine (CS.out).mono ?_; rintro e u0 ⟨rfl, hu0⟩; have P3 := Lib.hid hu0; have r1 : u0.cell? ⟨g, 0, none⟩ = some (.pointer (some ⟨l0, 0, none⟩)) := hu0.en.blk.cell 0; have r2 : u0.cell? ⟨ab, 3, none⟩ = some (.string ⟨#[]⟩) := HDE.out ▸ hu0.box.cell 3; clear hu0))
                  all_goals
                    go_wp2_with fail
                    go_meet
                    exact ⟨rfl, P3.out⟩
                case rest =>
                obtain ⟨rfl, hP3⟩ := hcut
                have P3 := Lib.hid hP3
                obtain ⟨V3, rfl⟩ : ∃ V : World, V = wc := ⟨_, rfl⟩
                clear hP3 q1 q2 P2
                have z0 : V3.cell? ⟨g, 4, none⟩ = some (.string L.key) := P3.out.en.blk.cell 4
                have z1 : V3.cell? ⟨g, 5, none⟩ = some (.int .i64 L.side) := P3.out.en.blk.cell 5
                have z2 : V3.cell? ⟨g, 6, none⟩ = some (.string L.left) := P3.out.en.blk.cell 6
                have z3 : V3.cell? ⟨g, 7, none⟩ = some (.int .i64 L.sent) := P3.out.en.blk.cell 7
                have z4 : V3.cell? ⟨g, 8, none⟩ = some (.int .i64 L.taken) := P3.out.en.blk.cell 8
                have z5 : V3.cell? ⟨g, 9, none⟩ = some (.bool L.fin) := P3.out.en.blk.cell 9
                have zd : V3.cell? ⟨ab, 3, none⟩ = some (.string x.data) := P3.out.box.cell 3
                go_upto_region 23 with fail
                go_cut [12, 13] (fun c d wx => c = .string OB ∧ d = .int .i64 (cn : Nat) ∧ Pb w g l0 l1 w0 w1 L Lo ⟨⟨#[]⟩, 0, 36, X.come, X.err⟩ Xo L Lo yi yo ab x (x.n) wx)
                case first =>
                  go_region_held3 (fun W => W.cell? ⟨g, 4, none⟩ = some (.string L.key) ∧ W.cell? ⟨g, 5, none⟩ = some (.int .i64 L.side) ∧ W.cell? ⟨g, 6, none⟩ = some (.string L.left) ∧ W.cell? ⟨g, 7, none⟩ = some (.int .i64 L.sent) ∧ W.cell? ⟨g, 8, none⟩ = some (.int .i64 L.taken) ∧ W.cell? ⟨g, 9, none⟩ = some (.bool L.fin) ∧ W.cell? ⟨ab, 3, none⟩ = some (.string x.data)) (first | exact ⟨r0, r1, r2, r3, r4, r5, r9⟩ | go_keep) (first
                    | (go_at_call 22; refine (CQ.out _).mono ?_; rintro e u0 ⟨rfl, hu0⟩; have P4 := Lib.hid (P3.out.drew.later hu0); have r0 : u0.cell? ⟨g, 4, none⟩ = some (.string L.key) := P4.out.en.blk.cell 4; have r1 : u0.cell? ⟨g, 5, none⟩ = some (.int .i64 L.side) := P4.out.en.blk.cell 5; have r2 : u0.cell? ⟨g, 6, none⟩ = some (.string L.left) := P4.out.en.blk.cell 6; have r3 : u0.cell? ⟨g, 7, none⟩ = some (.int .i64 L.sent) := P4.out.en.blk.cell 7; have r4 : u0.cell? ⟨g, 8, none⟩ = some (.int .i64 L.taken) := P4.out.en.blk.cell 8; have r5 : u0.cell? ⟨g, 9, none⟩ = some (.bool L.fin) := P4.out.en.blk.cell 9; have r9 : u0.cell? ⟨ab, 3, none⟩ = some (.string x.data) := P4.out.box.cell 3; clear hu0))
                  all_goals
                    go_wp2_with fail
                    go_meet
                    exact ⟨rfl, rfl, P4.out⟩
                case rest =>
                obtain ⟨rfl, rfl, hP4⟩ := hcut
                have P4 := Lib.hid hP4
                obtain ⟨V4, rfl⟩ : ∃ V : World, V = wc := ⟨_, rfl⟩
                clear hP4 z0 z1 z2 z3 z4 z5 zd P3
                have t5 : V4.cell? ⟨g, 9, none⟩ = some (.bool false) := by rw [← HF.out]; exact P4.out.en.blk.cell 9
                have t3 : V4.cell? ⟨g, 7, none⟩ = some (.int .i64 (s0 : Nat)) := by rw [← HL.out.sent]; exact P4.out.en.blk.cell 7
                have f3 := P4.out.en.blk.frozen 7
                have b0 : V4.cell? ⟨ab, 0, none⟩ = some (.int .i64 3) := by rw [← hkd]; exact P4.out.box.cell 0
                have x0 : V4.cell? ⟨w0, 0, none⟩ = some (.string ⟨#[]⟩) := P4.out.en.x0.cell 0
                have x1 : V4.cell? ⟨w0, 1, none⟩ = some (.int .i64 0) := P4.out.en.x0.cell 1
                have hcn0 : cn = 0 := by rw [HCN.out, HDE.out]; rfl
                have hOe : OB = ⟨#[]⟩ := by rw [HOB.out, HDE.out]; rfl
                subst hcn0
                subst hOe
                go_upto_region 32 with fail
                obtain ⟨V5, hV5⟩ : ∃ V5, V5 = V4.setCell ⟨g, 7, none⟩ (.int .i64 (s0 : Nat)) := ⟨_, rfl⟩
                have P5 : Hid (Pb w g l0 l1 w0 w1 L Lo ⟨⟨#[]⟩, 0, 36, X.come, X.err⟩ Xo L Lo yi yo ab x (x.n) V5) := by rw [hV5]; have := P4.out.rst0 (s0 : Nat); rw [← HL.out.sent] at this ⊢; exact Lib.hid this
                rw [← hV5]
                clear hV5 t5 t3 f3 b0 x0 x1 P4
                have ty : V5.cell? ⟨g, 17, none⟩ = some (.string yo) := P5.out.en.blk.cell 17
                have fy := P5.out.en.blk.frozen 17
                have c1 : ¬ 9223372036854775807 < yo.size + (⟨#[]⟩ : ByteArray).size := by show ¬ 9223372036854775807 < yo.size + 0; omega
                go_region
                all_goals
                  obtain ⟨V6, hV6⟩ : ∃ V6, V6 = (V5.setCell ⟨g, 17, none⟩ (.string (yo ++ ⟨#[]⟩))).drew := ⟨_, rfl⟩
                  have P6 : Hid (Pb w g l0 l1 w0 w1 L Lo ⟨⟨#[]⟩, 0, 36, X.come, X.err⟩ Xo L Lo yi (yo ++ ⟨#[]⟩) ab x (x.n) V6) := by rw [hV6]; exact Lib.hid (P5.out.yst1 _).drew
                  rw [← hV6]
                  clear hV6 ty fy P5
                  go_wp2_with (first
                    | (go_at_call 23; (with_reducible refine ((P6.out.agree0)).mono ?_); rintro e u1 ⟨rfl, hu1⟩; have A1 := Lib.hid hu1; clear hu1)
                    | (go_at_call 23; (with_reducible refine ((A1.out.agree1)).mono ?_); rintro e u2 ⟨rfl, hu2⟩; have A2 := Lib.hid hu2; clear hu2))
                  go_roundg (gk - 1)
                  case measure => omega
                  case rel =>
                    refine ⟨m + 1, by omega, by go_num, ?_⟩
                    have e2 : (yo ++ ⟨#[]⟩ : ByteArray).size = yo.size := by rw [ByteArray.size_append]; rfl
                    have e4 := HN.out
                    exact ⟨L, Lo, _, Xo, yi, (yo ++ ⟨#[]⟩), ni, no, s0, so, HL.out, HO.out, by omega, by omega, by omega, by omega, A2.out.en, A2.out.below⟩
            · skip
              as_aux_lemma =>
                have HF := Lib.hid hfin
                clear hfin
                have HD0 := Lib.hid hd0
                clear hd0
                have b0 : V1.cell? ⟨ab, 0, none⟩ = some (.int .i64 3) := by rw [← hkd]; exact P1.out.box.cell 0
                have b3 : V1.cell? ⟨ab, 3, none⟩ = some (.string x.data) := P1.out.box.cell 3
                have x0 : V1.cell? ⟨w0, 0, none⟩ = some (.string X.sent) := P1.out.en.x0.cell 0
                have f0 := P1.out.en.x0.frozen 0
                have x1 : V1.cell? ⟨w0, 1, none⟩ = some (.int .i64 X.sends) := P1.out.en.x0.cell 1
                have f1 := P1.out.en.x0.frozen 1
                have x2 : V1.cell? ⟨w0, 2, none⟩ = some (.int .i64 X.refuse) := P1.out.en.x0.cell 2
                have f2 := P1.out.en.x0.frozen 2
                have hwab : w0 ≠ ab := by have := P1.out.en.o2; have := P1.out.en.o1; have := P1.out.en.o3; have := P1.out.lt; omega
                have hwab' : ab ≠ w0 := hwab.symm
                go_upto_region 22 with fail
                obtain ⟨V2, hV2⟩ : ∃ V2, V2 = ((((V1.setCell ⟨w0, 2, none⟩ (.int .i64 0)).setCell ⟨w0, 2, none⟩ (.int .i64 36)).setCell ⟨w0, 0, none⟩ (.string ⟨#[]⟩)).setCell ⟨w0, 1, none⟩ (.int .i64 0)) := ⟨_, rfl⟩
                have P2 : Hid (Pb w g l0 l1 w0 w1 L Lo ⟨⟨#[]⟩, 0, 36, X.come, X.err⟩ Xo L Lo yi yo ab x (x.n) V2) := by rw [hV2]; exact Lib.hid ((((P1.out.wst0 2 (.int .i64 0) (X' := ⟨X.sent, X.sends, 0, X.come, X.err⟩) rfl).wst0 2 (.int .i64 36) (X' := ⟨X.sent, X.sends, 36, X.come, X.err⟩) rfl).wst0 0 (.string ⟨#[]⟩) (X' := ⟨⟨#[]⟩, X.sends, 36, X.come, X.err⟩) rfl).wst0 1 (.int .i64 0) (X' := ⟨⟨#[]⟩, 0, 36, X.come, X.err⟩) rfl)
                rw [← hV2]
                clear hV2 b0 b3 x0 x1 x2 f0 f1 f2
                have q1 : V2.cell? ⟨g, 0, none⟩ = some (.pointer (some ⟨l0, 0, none⟩)) := P2.out.en.blk.cell 0
                have q2 : V2.cell? ⟨ab, 3, none⟩ = some (.string x.data) := P2.out.box.cell 3
                go_cut [11] (fun c wx => c = .int .i64 36 ∧ Pb w g l0 l1 w0 w1 L Lo ⟨⟨#[]⟩, 0, 36, X.come, X.err⟩ Xo L Lo yi yo ab x (x.n) wx)
                case first =>
                  have CS := Lib.hid (P2.out.drew.sendR0 HF.out HL.out hs1M (by show (36 : Int) ≠ 0; decide) x.data hdata HD0.out HT.out)
                  go_region_held3 (fun W => W.cell? ⟨g, 0, none⟩ = some (.pointer (some ⟨l0, 0, none⟩)) ∧ W.cell? ⟨ab, 3, none⟩ = some (.string x.data)) (first | exact ⟨r1, r2⟩ | go_keep) (first
                    | (go_at_call 14; refine (CS.out).mono ?_; rintro e u0 ⟨rfl, hu0⟩; have P3 := Lib.hid hu0; have r1 : u0.cell? ⟨g, 0, none⟩ = some (.pointer (some ⟨l0, 0, none⟩)) := hu0.en.blk.cell 0; have r2 : u0.cell? ⟨ab, 3, none⟩ = some (.string x.data) := hu0.box.cell 3; clear hu0))
                  all_goals
                    go_wp2_with fail
                    go_meet
                    exact ⟨rfl, P3.out⟩
                case rest =>
                obtain ⟨rfl, hP3⟩ := hcut
                have P3 := Lib.hid hP3
                obtain ⟨V3, rfl⟩ : ∃ V : World, V = wc := ⟨_, rfl⟩
                clear hP3 q1 q2 P2
                have z0 : V3.cell? ⟨g, 4, none⟩ = some (.string L.key) := P3.out.en.blk.cell 4
                have z1 : V3.cell? ⟨g, 5, none⟩ = some (.int .i64 L.side) := P3.out.en.blk.cell 5
                have z2 : V3.cell? ⟨g, 6, none⟩ = some (.string L.left) := P3.out.en.blk.cell 6
                have z3 : V3.cell? ⟨g, 7, none⟩ = some (.int .i64 L.sent) := P3.out.en.blk.cell 7
                have z4 : V3.cell? ⟨g, 8, none⟩ = some (.int .i64 L.taken) := P3.out.en.blk.cell 8
                have z5 : V3.cell? ⟨g, 9, none⟩ = some (.bool L.fin) := P3.out.en.blk.cell 9
                have zd : V3.cell? ⟨ab, 3, none⟩ = some (.string x.data) := P3.out.box.cell 3
                go_upto_region 23 with fail
                go_cut [12, 13] (fun c d wx => c = .string OB ∧ d = .int .i64 (cn : Nat) ∧ Pb w g l0 l1 w0 w1 L Lo ⟨⟨#[]⟩, 0, 36, X.come, X.err⟩ Xo L Lo yi yo ab x (x.n) wx)
                case first =>
                  go_region_held3 (fun W => W.cell? ⟨g, 4, none⟩ = some (.string L.key) ∧ W.cell? ⟨g, 5, none⟩ = some (.int .i64 L.side) ∧ W.cell? ⟨g, 6, none⟩ = some (.string L.left) ∧ W.cell? ⟨g, 7, none⟩ = some (.int .i64 L.sent) ∧ W.cell? ⟨g, 8, none⟩ = some (.int .i64 L.taken) ∧ W.cell? ⟨g, 9, none⟩ = some (.bool L.fin) ∧ W.cell? ⟨ab, 3, none⟩ = some (.string x.data)) (first | exact ⟨r0, r1, r2, r3, r4, r5, r9⟩ | go_keep) (first
                    | (go_at_call 22; refine (CQ.out _).mono ?_; rintro e u0 ⟨rfl, hu0⟩; have P4 := Lib.hid (P3.out.drew.later hu0); have r0 : u0.cell? ⟨g, 4, none⟩ = some (.string L.key) := P4.out.en.blk.cell 4; have r1 : u0.cell? ⟨g, 5, none⟩ = some (.int .i64 L.side) := P4.out.en.blk.cell 5; have r2 : u0.cell? ⟨g, 6, none⟩ = some (.string L.left) := P4.out.en.blk.cell 6; have r3 : u0.cell? ⟨g, 7, none⟩ = some (.int .i64 L.sent) := P4.out.en.blk.cell 7; have r4 : u0.cell? ⟨g, 8, none⟩ = some (.int .i64 L.taken) := P4.out.en.blk.cell 8; have r5 : u0.cell? ⟨g, 9, none⟩ = some (.bool L.fin) := P4.out.en.blk.cell 9; have r9 : u0.cell? ⟨ab, 3, none⟩ = some (.string x.data) := P4.out.box.cell 3; clear hu0))
                  all_goals
                    go_wp2_with fail
                    go_meet
                    exact ⟨rfl, rfl, P4.out⟩
                case rest =>
                obtain ⟨rfl, rfl, hP4⟩ := hcut
                have P4 := Lib.hid hP4
                obtain ⟨V4, rfl⟩ : ∃ V : World, V = wc := ⟨_, rfl⟩
                clear hP4 z0 z1 z2 z3 z4 z5 zd P3
                have t5 : V4.cell? ⟨g, 9, none⟩ = some (.bool false) := by rw [← HF.out]; exact P4.out.en.blk.cell 9
                have t3 : V4.cell? ⟨g, 7, none⟩ = some (.int .i64 (s0 : Nat)) := by rw [← HL.out.sent]; exact P4.out.en.blk.cell 7
                have f3 := P4.out.en.blk.frozen 7
                have b0 : V4.cell? ⟨ab, 0, none⟩ = some (.int .i64 3) := by rw [← hkd]; exact P4.out.box.cell 0
                have x0 : V4.cell? ⟨w0, 0, none⟩ = some (.string ⟨#[]⟩) := P4.out.en.x0.cell 0
                have x1 : V4.cell? ⟨w0, 1, none⟩ = some (.int .i64 0) := P4.out.en.x0.cell 1
                have cn1 : 0 < cn := by rw [HCN.out]; have := HD0.out; unfold cntL; omega
                have cn2 : (0 : Int) < (cn : Int) := by omega
                have cn3 : min (cn : Int) 1 = 1 := by omega
                go_upto_region 32 with fail
                obtain ⟨V5, hV5⟩ : ∃ V5, V5 = V4.setCell ⟨g, 7, none⟩ (.int .i64 (s0 : Nat)) := ⟨_, rfl⟩
                have P5 : Hid (Pb w g l0 l1 w0 w1 L Lo ⟨⟨#[]⟩, 0, 36, X.come, X.err⟩ Xo L Lo yi yo ab x (x.n) V5) := by rw [hV5]; have := P4.out.rst0 (s0 : Nat); rw [← HL.out.sent] at this ⊢; exact Lib.hid this
                rw [← hV5]
                clear hV5 t5 t3 f3 b0 x0 x1 P4
                have ty : V5.cell? ⟨g, 17, none⟩ = some (.string yo) := P5.out.en.blk.cell 17
                have fy := P5.out.en.blk.frozen 17
                have c1 : ¬ 9223372036854775807 < yo.size + (⟨#[]⟩ : ByteArray).size := by show ¬ 9223372036854775807 < yo.size + 0; omega
                go_region
                all_goals
                  obtain ⟨V6, hV6⟩ : ∃ V6, V6 = (V5.setCell ⟨g, 17, none⟩ (.string (yo ++ ⟨#[]⟩))).drew := ⟨_, rfl⟩
                  have P6 : Hid (Pb w g l0 l1 w0 w1 L Lo ⟨⟨#[]⟩, 0, 36, X.come, X.err⟩ Xo L Lo yi (yo ++ ⟨#[]⟩) ab x (x.n) V6) := by rw [hV6]; exact Lib.hid (P5.out.yst1 _).drew
                  rw [← hV6]
                  clear hV6 ty fy P5
                  go_wp2_with (first
                    | (go_at_call 23; (with_reducible refine ((P6.out.agree0)).mono ?_); rintro e u1 ⟨rfl, hu1⟩; have A1 := Lib.hid hu1; clear hu1)
                    | (go_at_call 23; (with_reducible refine ((A1.out.agree1)).mono ?_); rintro e u2 ⟨rfl, hu2⟩; have A2 := Lib.hid hu2; clear hu2))
                  go_roundg (gk - 1)
                  case measure => omega
                  case rel =>
                    refine ⟨m + 1, by omega, by go_num, ?_⟩
                    have e2 : (yo ++ ⟨#[]⟩ : ByteArray).size = yo.size := by rw [ByteArray.size_append]; rfl
                    have e4 := HN.out
                    exact ⟨L, Lo, _, Xo, yi, (yo ++ ⟨#[]⟩), ni, no, s0, so, HL.out, HO.out, by omega, by omega, by omega, by omega, A2.out.en, A2.out.below⟩
        by_cases h1 : x.kind = 1
        · have hkd := h1
          clear h1
          as_aux_lemma =>
            have b0 : V1.cell? ⟨ab, 0, none⟩ = some (.int .i64 1) := by rw [← hkd]; exact P1.out.box.cell 0
            have b2 : V1.cell? ⟨ab, 2, none⟩ = some (.int .i64 x.n) := P1.out.box.cell 2
            have b4 : V1.cell? ⟨ab, 4, none⟩ = some (.int .i64 x.at_) := P1.out.box.cell 4
            have b5 : V1.cell? ⟨ab, 5, none⟩ = some (.int .u8 (x.by_.toNat : Nat)) := P1.out.box.cell 5
            have fb := P1.out.box.frozen 2
            have P2 := P1
            obtain ⟨D, hD⟩ : ∃ D, D = takR L x.n x.at_ x.by_ 0 yi := ⟨_, rfl⟩
            have CV := Lib.hid (P2.out.recv0 HL.out (by have := HN.out; omega) x.n 0 hB2 HT.out)
            rw [← hD] at CV
            have HD := Lib.hid hD
            clear hD
            go_upto_region 42 with (go_at_call 17; refine (CV.out).mono ?_; rintro e u0 ⟨rfl, hu0⟩; have P6 := Lib.hid hu0; clear hu0)
            go_wp2_with (first
              | (go_at_call 23; (with_reducible refine ((P6.out.agree0)).mono ?_); rintro e u1 ⟨rfl, hu1⟩; have A1 := Lib.hid hu1; clear hu1)
              | (go_at_call 23; (with_reducible refine ((A1.out.agree1)).mono ?_); rintro e u2 ⟨rfl, hu2⟩; have A2 := Lib.hid hu2; clear hu2))
            go_roundg (gk - 1)
            case measure => omega
            case rel =>
              refine ⟨m + 1, by omega, by go_num, ?_⟩
              obtain ⟨n1, hl1, hf1, _, _⟩ := recvR_few HL.out (comeB x.n x.at_ x.by_ yi) (errR x.n 0 yi)
              have e1 : (recvR L (comeB x.n x.at_ x.by_ yi) (errR x.n 0 yi)) = D := HD.out.symm
              rw [e1] at hl1 hf1
              rw [come_size] at hf1
              have e2 := cut_le x.n yi
              have e3 : (yi.extract (cutN x.n yi) yi.size).size = yi.size - cutN x.n yi := by rw [ByteArray.size_extract]; omega
              have e4 := HN.out
              exact ⟨D.2, Lo, _, Xo, (yi.extract (cutN x.n yi) yi.size), yo, n1, no, s0, so, hl1, HO.out, by omega, by omega, by omega, by omega, A2.out.en, A2.out.below⟩
        by_cases h2 : x.kind = 2
        · have hkd := h2
          clear h2
          as_aux_lemma =>
            have b0 : V1.cell? ⟨ab, 0, none⟩ = some (.int .i64 2) := by rw [← hkd]; exact P1.out.box.cell 0
            have b2 : V1.cell? ⟨ab, 2, none⟩ = some (.int .i64 x.n) := P1.out.box.cell 2
            have b4 : V1.cell? ⟨ab, 4, none⟩ = some (.int .i64 x.at_) := P1.out.box.cell 4
            have b5 : V1.cell? ⟨ab, 5, none⟩ = some (.int .u8 (x.by_.toNat : Nat)) := P1.out.box.cell 5
            have fb := P1.out.box.frozen 2
            by_cases hn0 : x.n ≤ 0
            · skip
              have hmx : max x.n 0 = 0 := by omega
              have hmn : min (max x.n 0) 1 = 0 := by omega
              have hmp : min (0 : Int) 1 = 0 := by decide
              have PA := Lib.hid (P1.out.later (wr' := (V1.alloc (.cells #[.int .i64 28, .int .i64 24] 26))) ((Below.refl _ _).alloc (Nat.le_refl _) _))
              have b2a : (V1.alloc (.cells #[.int .i64 28, .int .i64 24] 26)).cell? ⟨ab, 2, none⟩ = some (.int .i64 x.n) := PA.out.box.cell 2
              have e0 : (V1.alloc (.cells #[.int .i64 28, .int .i64 24] 26)).cell? ⟨V1.heap.size, 0, none⟩ = some (.int .i64 28) := (Blk.new V1 26 [_, _]).cell 0
              have e1 : (V1.alloc (.cells #[.int .i64 28, .int .i64 24] 26)).cell? ⟨V1.heap.size, 1, none⟩ = some (.int .i64 24) := (Blk.new V1 26 [_, _]).cell 1
              have fba := PA.out.box.frozen 2
              have b0a : (V1.alloc (.cells #[.int .i64 28, .int .i64 24] 26)).cell? ⟨ab, 0, none⟩ = some (.int .i64 2) := by rw [← hkd]; exact PA.out.box.cell 0
              go_upto_region 39 with fail
              obtain ⟨V2, hV2⟩ : ∃ V2, V2 = (V1.alloc (.cells #[.int .i64 28, .int .i64 24] 26)).setCell ⟨ab, 2, none⟩ (.int .i64 0) := ⟨_, rfl⟩
              have P2 : Hid (Pb w g l0 l1 w0 w1 L Lo X Xo L Lo yi yo ab x (0) V2) := by rw [hV2]; exact Lib.hid ((P1.out.later ((Below.refl _ _).alloc (Nat.le_refl _) _)).nst 0)
              rw [← hV2]
              clear hV2 b0 b2 b4 b5 fb hmx hmn P1 PA b2a fba b0a e0 e1 hmp
              have b2 : V2.cell? ⟨ab, 2, none⟩ = some (.int .i64 0) := P2.out.box.cell 2
              have b4 : V2.cell? ⟨ab, 4, none⟩ = some (.int .i64 x.at_) := P2.out.box.cell 4
              have b5 : V2.cell? ⟨ab, 5, none⟩ = some (.int .u8 (x.by_.toNat : Nat)) := P2.out.box.cell 5
              obtain ⟨D, hD⟩ : ∃ D, D = takR L 0 x.at_ x.by_ 28 yi := ⟨_, rfl⟩
              have CV := Lib.hid (P2.out.recv0 HL.out (by have := HN.out; omega) 0 28 hB2 HT.out)
              rw [← hD] at CV
              have HD := Lib.hid hD
              clear hD
              go_upto_region 42 with (go_at_call 17; refine (CV.out).mono ?_; rintro e u0 ⟨rfl, hu0⟩; have P6 := Lib.hid hu0; clear hu0)
              go_wp2_with (first
                | (go_at_call 23; (with_reducible refine ((P6.out.agree0)).mono ?_); rintro e u1 ⟨rfl, hu1⟩; have A1 := Lib.hid hu1; clear hu1)
                | (go_at_call 23; (with_reducible refine ((A1.out.agree1)).mono ?_); rintro e u2 ⟨rfl, hu2⟩; have A2 := Lib.hid hu2; clear hu2))
              go_roundg (gk - 1)
              case measure => omega
              case rel =>
                refine ⟨m + 1, by omega, by go_num, ?_⟩
                obtain ⟨n1, hl1, hf1, _, _⟩ := recvR_few HL.out (comeB 0 x.at_ x.by_ yi) (errR 0 28 yi)
                have e1 : (recvR L (comeB 0 x.at_ x.by_ yi) (errR 0 28 yi)) = D := HD.out.symm
                rw [e1] at hl1 hf1
                rw [come_size] at hf1
                have e2 := cut_le 0 yi
                have e3 : (yi.extract (cutN 0 yi) yi.size).size = yi.size - cutN 0 yi := by rw [ByteArray.size_extract]; omega
                have e4 := HN.out
                exact ⟨D.2, Lo, _, Xo, (yi.extract (cutN 0 yi) yi.size), yo, n1, no, s0, so, hl1, HO.out, by omega, by omega, by omega, by omega, A2.out.en, A2.out.below⟩
            · skip
              have hmx : max x.n 0 = x.n := by omega
              have hmn : min x.n 1 = 1 := by omega
              have hmq : min (max x.n 0) 1 = 1 := by omega
              have hmp : min (0 : Int) 1 = 0 := by decide
              have PA := Lib.hid (P1.out.later (wr' := (V1.alloc (.cells #[.int .i64 28, .int .i64 24] 26))) ((Below.refl _ _).alloc (Nat.le_refl _) _))
              have b2a : (V1.alloc (.cells #[.int .i64 28, .int .i64 24] 26)).cell? ⟨ab, 2, none⟩ = some (.int .i64 x.n) := PA.out.box.cell 2
              have e0 : (V1.alloc (.cells #[.int .i64 28, .int .i64 24] 26)).cell? ⟨V1.heap.size, 0, none⟩ = some (.int .i64 28) := (Blk.new V1 26 [_, _]).cell 0
              have e1 : (V1.alloc (.cells #[.int .i64 28, .int .i64 24] 26)).cell? ⟨V1.heap.size, 1, none⟩ = some (.int .i64 24) := (Blk.new V1 26 [_, _]).cell 1
              have fba := PA.out.box.frozen 2
              have b0a : (V1.alloc (.cells #[.int .i64 28, .int .i64 24] 26)).cell? ⟨ab, 0, none⟩ = some (.int .i64 2) := by rw [← hkd]; exact PA.out.box.cell 0
              go_upto_region 39 with fail
              obtain ⟨V2, hV2⟩ : ∃ V2, V2 = (V1.alloc (.cells #[.int .i64 28, .int .i64 24] 26)).setCell ⟨ab, 2, none⟩ (.int .i64 0) := ⟨_, rfl⟩
              have P2 : Hid (Pb w g l0 l1 w0 w1 L Lo X Xo L Lo yi yo ab x (0) V2) := by rw [hV2]; exact Lib.hid ((P1.out.later ((Below.refl _ _).alloc (Nat.le_refl _) _)).nst 0)
              rw [← hV2]
              clear hV2 b0 b2 b4 b5 fb hmx hmn P1 PA b2a fba b0a e0 e1 hmp
              have b2 : V2.cell? ⟨ab, 2, none⟩ = some (.int .i64 0) := P2.out.box.cell 2
              have b4 : V2.cell? ⟨ab, 4, none⟩ = some (.int .i64 x.at_) := P2.out.box.cell 4
              have b5 : V2.cell? ⟨ab, 5, none⟩ = some (.int .u8 (x.by_.toNat : Nat)) := P2.out.box.cell 5
              obtain ⟨D, hD⟩ : ∃ D, D = takR L 0 x.at_ x.by_ 24 yi := ⟨_, rfl⟩
              have CV := Lib.hid (P2.out.recv0 HL.out (by have := HN.out; omega) 0 24 hB2 HT.out)
              rw [← hD] at CV
              have HD := Lib.hid hD
              clear hD
              go_upto_region 42 with (go_at_call 17; refine (CV.out).mono ?_; rintro e u0 ⟨rfl, hu0⟩; have P6 := Lib.hid hu0; clear hu0)
              go_wp2_with (first
                | (go_at_call 23; (with_reducible refine ((P6.out.agree0)).mono ?_); rintro e u1 ⟨rfl, hu1⟩; have A1 := Lib.hid hu1; clear hu1)
                | (go_at_call 23; (with_reducible refine ((A1.out.agree1)).mono ?_); rintro e u2 ⟨rfl, hu2⟩; have A2 := Lib.hid hu2; clear hu2))
              go_roundg (gk - 1)
              case measure => omega
              case rel =>
                refine ⟨m + 1, by omega, by go_num, ?_⟩
                obtain ⟨n1, hl1, hf1, _, _⟩ := recvR_few HL.out (comeB 0 x.at_ x.by_ yi) (errR 0 24 yi)
                have e1 : (recvR L (comeB 0 x.at_ x.by_ yi) (errR 0 24 yi)) = D := HD.out.symm
                rw [e1] at hl1 hf1
                rw [come_size] at hf1
                have e2 := cut_le 0 yi
                have e3 : (yi.extract (cutN 0 yi) yi.size).size = yi.size - cutN 0 yi := by rw [ByteArray.size_extract]; omega
                have e4 := HN.out
                exact ⟨D.2, Lo, _, Xo, (yi.extract (cutN 0 yi) yi.size), yo, n1, no, s0, so, hl1, HO.out, by omega, by omega, by omega, by omega, A2.out.en, A2.out.below⟩
        · skip
          as_aux_lemma =>
            have b0 : V1.cell? ⟨ab, 0, none⟩ = some (.int .i64 x.kind) := P1.out.box.cell 0
            have k0 : (x.kind == 0) = false := by rw [beq_eq_false_iff_ne]; exact h0
            have k3 : (x.kind == 3) = false := by rw [beq_eq_false_iff_ne]; exact h3
            have k1 : (x.kind == 1) = false := by rw [beq_eq_false_iff_ne]; exact h1
            have k2 : (x.kind == 2) = false := by rw [beq_eq_false_iff_ne]; exact h2
            clear h0 h3 h1 h2
            go_upto_region 42 with fail
            go_wp2_with (first
              | (go_at_call 23; (with_reducible refine ((P1.out.agree0)).mono ?_); rintro e u1 ⟨rfl, hu1⟩; have A1 := Lib.hid hu1; clear hu1)
              | (go_at_call 23; (with_reducible refine ((A1.out.agree1)).mono ?_); rintro e u2 ⟨rfl, hu2⟩; have A2 := Lib.hid hu2; clear hu2))
            go_roundg (gk - 1)
            case measure => omega
            case rel =>
              refine ⟨m + 1, by omega, by go_num, ?_⟩
              have e4 := HN.out
              exact ⟨L, Lo, _, Xo, yi, yo, ni, no, s0, so, HL.out, HO.out, by omega, by omega, by omega, by omega, A2.out.en, A2.out.below⟩
      · skip
        obtain ⟨Lo, L, Xo, X, yo, yi, no, ni, so, s0, ho, hl, hso, hs, hno, hn, hE, hb⟩ := HPL.out
        have HL := Lib.hid hl
        have HO := Lib.hid ho
        have HN := Lib.hid (And.intro hn hno)
        have P0 : Hid (Pb w g l0 l1 w0 w1 Lo L Xo X Lo L yo yi ab x (x.n) V0) := by rw [hV0]; exact Lib.hid ⟨hE.below ((Below.refl _ _).alloc (Nat.le_refl _) _), by rw [hab]; exact Blk.new wr 61 (boxC x x.n), by rw [hab]; exact hE.k1.lt, keepBelow hb ((Below.refl _ _).alloc (Nat.le_refl _) _)⟩
        have hs1M : s0 ≤ 1000000 := by omega
        have hm25 : m < 25 := by omega
        have hyo : yo.size ≤ 1000000 := by omega
        have hyi : yi.size ≤ 1000000 := by omega
        rw [← hV0]
        clear hl ho hE hb hV0 hab
        have p2 : V0.cell? ⟨g, 3, none⟩ = some (.pointer (some ⟨w1, 0, none⟩)) := P0.out.en.blk.cell 3
        have a1 : V0.cell? ⟨ab, 1, none⟩ = some (.int .i64 x.side) := P0.out.box.cell 1
        have s1 : (x.side != 0) = true := by rw [bne_iff_ne]; exact hside
        clear hside
        go_upto_region 14 with fail
        go_quiet (fail)
        obtain ⟨V1, hV1⟩ : ∃ V1, V1 = V0.drewN nq := ⟨_, rfl⟩
        have P1 : Hid (Pb w g l0 l1 w0 w1 Lo L Xo X Lo L yo yi ab x (x.n) V1) := by rw [hV1]; exact Lib.hid (P0.out.later (belowN (Below.refl _ _) _))
        rw [← hV1]
        clear hV1 p2 a1 s1 P0
        obtain ⟨OB, hOB⟩ : ∃ OB : ByteArray, OB = ⟨(outL L.key.data.toList L.side s0 x.data.data.toList (cntL x.data.size)).toArray⟩ := ⟨_, rfl⟩
        obtain ⟨cn, hcn⟩ : ∃ cn, cn = cntL x.data.size := ⟨_, rfl⟩
        have CQ := Lib.hid (fun W => rsend_any L s0 x.data HL.out.key HL.out.sent hs1M (by omega) W)
        rw [← hOB, ← hcn] at CQ
        have hObs : OB.size ≤ 2602 := by rw [hOB, str_size]; exact out_few _ _ _ hdata
        have HOB := Lib.hid hOB
        have HCN := Lib.hid hcn
        clear hOB hcn
        by_cases h0 : x.kind = 0
        · have hkd := h0
          clear h0
          by_cases hfin : L.fin = true
          · skip
            as_aux_lemma =>
              have HF := Lib.hid hfin
              clear hfin
              have b0 : V1.cell? ⟨ab, 0, none⟩ = some (.int .i64 0) := by rw [← hkd]; exact P1.out.box.cell 0
              have b3 : V1.cell? ⟨ab, 3, none⟩ = some (.string x.data) := P1.out.box.cell 3
              have x0 : V1.cell? ⟨w1, 0, none⟩ = some (.string X.sent) := P1.out.en.x1.cell 0
              have f0 := P1.out.en.x1.frozen 0
              have x1 : V1.cell? ⟨w1, 1, none⟩ = some (.int .i64 X.sends) := P1.out.en.x1.cell 1
              have f1 := P1.out.en.x1.frozen 1
              have x2 : V1.cell? ⟨w1, 2, none⟩ = some (.int .i64 X.refuse) := P1.out.en.x1.cell 2
              have f2 := P1.out.en.x1.frozen 2
              have hwab : w1 ≠ ab := by have := P1.out.en.o2; have := P1.out.en.o1; have := P1.out.en.o3; have := P1.out.lt; omega
              have hwab' : ab ≠ w1 := hwab.symm
              go_upto_region 22 with fail
              obtain ⟨V2, hV2⟩ : ∃ V2, V2 = (((V1.setCell ⟨w1, 2, none⟩ (.int .i64 0)).setCell ⟨w1, 0, none⟩ (.string ⟨#[]⟩)).setCell ⟨w1, 1, none⟩ (.int .i64 0)) := ⟨_, rfl⟩
              have P2 : Hid (Pb w g l0 l1 w0 w1 Lo L Xo ⟨⟨#[]⟩, 0, 0, X.come, X.err⟩ Lo L yo yi ab x (x.n) V2) := by rw [hV2]; exact Lib.hid (((P1.out.wst1 2 (.int .i64 0) (X' := ⟨X.sent, X.sends, 0, X.come, X.err⟩) rfl).wst1 0 (.string ⟨#[]⟩) (X' := ⟨⟨#[]⟩, X.sends, 0, X.come, X.err⟩) rfl).wst1 1 (.int .i64 0) (X' := ⟨⟨#[]⟩, 0, 0, X.come, X.err⟩) rfl)
              rw [← hV2]
              clear hV2 b0 b3 x0 x1 x2 f0 f1 f2
              have q1 : V2.cell? ⟨g, 1, none⟩ = some (.pointer (some ⟨l1, 0, none⟩)) := P2.out.en.blk.cell 1
              have q2 : V2.cell? ⟨ab, 3, none⟩ = some (.string x.data) := P2.out.box.cell 3
              go_cut [11] (fun c wx => c = .int .i64 28 ∧ Pb w g l0 l1 w0 w1 Lo L Xo ⟨⟨#[]⟩, 0, 0, X.come, X.err⟩ Lo L yo yi ab x (x.n) wx)
              case first =>
                have CS := Lib.hid (P2.out.drew.sendF1 HF.out x.data)
                go_region_held3 (fun W => W.cell? ⟨g, 1, none⟩ = some (.pointer (some ⟨l1, 0, none⟩)) ∧ W.cell? ⟨ab, 3, none⟩ = some (.string x.data)) (first | exact ⟨r1, r2⟩ | go_keep) (first
                  | (go_at_call 14; refine (CS.out).mono ?_; rintro e u0 ⟨rfl, hu0⟩; have P3 := Lib.hid hu0; have r1 : u0.cell? ⟨g, 1, none⟩ = some (.pointer (some ⟨l1, 0, none⟩)) := hu0.en.blk.cell 1; have r2 : u0.cell? ⟨ab, 3, none⟩ = some (.string x.data) := hu0.box.cell 3; clear hu0))
                all_goals
                  go_wp2_with fail
                  go_meet
                  exact ⟨rfl, P3.out⟩
              case rest =>
              obtain ⟨rfl, hP3⟩ := hcut
              have P3 := Lib.hid hP3
              obtain ⟨V3, rfl⟩ : ∃ V : World, V = wc := ⟨_, rfl⟩
              clear hP3 q1 q2 P2
              have z0 : V3.cell? ⟨g, 10, none⟩ = some (.string L.key) := P3.out.en.blk.cell 10
              have z1 : V3.cell? ⟨g, 11, none⟩ = some (.int .i64 L.side) := P3.out.en.blk.cell 11
              have z2 : V3.cell? ⟨g, 12, none⟩ = some (.string L.left) := P3.out.en.blk.cell 12
              have z3 : V3.cell? ⟨g, 13, none⟩ = some (.int .i64 L.sent) := P3.out.en.blk.cell 13
              have z4 : V3.cell? ⟨g, 14, none⟩ = some (.int .i64 L.taken) := P3.out.en.blk.cell 14
              have z5 : V3.cell? ⟨g, 15, none⟩ = some (.bool L.fin) := P3.out.en.blk.cell 15
              have zd : V3.cell? ⟨ab, 3, none⟩ = some (.string x.data) := P3.out.box.cell 3
              go_upto_region 23 with fail
              go_cut [12, 13] (fun c d wx => c = .string OB ∧ d = .int .i64 (cn : Nat) ∧ Pb w g l0 l1 w0 w1 Lo L Xo ⟨⟨#[]⟩, 0, 0, X.come, X.err⟩ Lo L yo yi ab x (x.n) wx)
              case first =>
                go_region_held3 (fun W => W.cell? ⟨g, 10, none⟩ = some (.string L.key) ∧ W.cell? ⟨g, 11, none⟩ = some (.int .i64 L.side) ∧ W.cell? ⟨g, 12, none⟩ = some (.string L.left) ∧ W.cell? ⟨g, 13, none⟩ = some (.int .i64 L.sent) ∧ W.cell? ⟨g, 14, none⟩ = some (.int .i64 L.taken) ∧ W.cell? ⟨g, 15, none⟩ = some (.bool L.fin) ∧ W.cell? ⟨ab, 3, none⟩ = some (.string x.data)) (first | exact ⟨r0, r1, r2, r3, r4, r5, r9⟩ | go_keep) (first
                  | (go_at_call 22; refine (CQ.out _).mono ?_; rintro e u0 ⟨rfl, hu0⟩; have P4 := Lib.hid (P3.out.drew.later hu0); have r0 : u0.cell? ⟨g, 10, none⟩ = some (.string L.key) := P4.out.en.blk.cell 10; have r1 : u0.cell? ⟨g, 11, none⟩ = some (.int .i64 L.side) := P4.out.en.blk.cell 11; have r2 : u0.cell? ⟨g, 12, none⟩ = some (.string L.left) := P4.out.en.blk.cell 12; have r3 : u0.cell? ⟨g, 13, none⟩ = some (.int .i64 L.sent) := P4.out.en.blk.cell 13; have r4 : u0.cell? ⟨g, 14, none⟩ = some (.int .i64 L.taken) := P4.out.en.blk.cell 14; have r5 : u0.cell? ⟨g, 15, none⟩ = some (.bool L.fin) := P4.out.en.blk.cell 15; have r9 : u0.cell? ⟨ab, 3, none⟩ = some (.string x.data) := P4.out.box.cell 3; clear hu0))
                all_goals
                  go_wp2_with fail
                  go_meet
                  exact ⟨rfl, rfl, P4.out⟩
              case rest =>
              obtain ⟨rfl, rfl, hP4⟩ := hcut
              have P4 := Lib.hid hP4
              obtain ⟨V4, rfl⟩ : ∃ V : World, V = wc := ⟨_, rfl⟩
              clear hP4 z0 z1 z2 z3 z4 z5 zd P3
              have t5 : V4.cell? ⟨g, 15, none⟩ = some (.bool true) := by rw [← HF.out]; exact P4.out.en.blk.cell 15
              have t3 : V4.cell? ⟨g, 13, none⟩ = some (.int .i64 (s0 : Nat)) := by rw [← HL.out.sent]; exact P4.out.en.blk.cell 13
              have f3 := P4.out.en.blk.frozen 13
              have b0 : V4.cell? ⟨ab, 0, none⟩ = some (.int .i64 0) := by rw [← hkd]; exact P4.out.box.cell 0
              have x0 : V4.cell? ⟨w1, 0, none⟩ = some (.string ⟨#[]⟩) := P4.out.en.x1.cell 0
              have x1 : V4.cell? ⟨w1, 1, none⟩ = some (.int .i64 0) := P4.out.en.x1.cell 1
              go_upto_region 32 with fail
              obtain ⟨V5, hV5⟩ : ∃ V5, V5 = V4.setCell ⟨g, 13, none⟩ (.int .i64 (s0 : Nat)) := ⟨_, rfl⟩
              have P5 : Hid (Pb w g l0 l1 w0 w1 Lo L Xo ⟨⟨#[]⟩, 0, 0, X.come, X.err⟩ Lo L yo yi ab x (x.n) V5) := by rw [hV5]; have := P4.out.rst1 (s0 : Nat); rw [← HL.out.sent] at this ⊢; exact Lib.hid this
              rw [← hV5]
              clear hV5 t5 t3 f3 b0 x0 x1 P4
              have ty : V5.cell? ⟨g, 16, none⟩ = some (.string yo) := P5.out.en.blk.cell 16
              have fy := P5.out.en.blk.frozen 16
              have c1 : ¬ 9223372036854775807 < yo.size + (⟨#[]⟩ : ByteArray).size := by show ¬ 9223372036854775807 < yo.size + 0; omega
              go_region
              all_goals
                obtain ⟨V6, hV6⟩ : ∃ V6, V6 = (V5.setCell ⟨g, 16, none⟩ (.string (yo ++ ⟨#[]⟩))).drew := ⟨_, rfl⟩
                have P6 : Hid (Pb w g l0 l1 w0 w1 Lo L Xo ⟨⟨#[]⟩, 0, 0, X.come, X.err⟩ Lo L (yo ++ ⟨#[]⟩) yi ab x (x.n) V6) := by rw [hV6]; exact Lib.hid (P5.out.yst0 _).drew
                rw [← hV6]
                clear hV6 ty fy P5
                go_wp2_with (first
                  | (go_at_call 23; (with_reducible refine ((P6.out.agree0)).mono ?_); rintro e u1 ⟨rfl, hu1⟩; have A1 := Lib.hid hu1; clear hu1)
                  | (go_at_call 23; (with_reducible refine ((A1.out.agree1)).mono ?_); rintro e u2 ⟨rfl, hu2⟩; have A2 := Lib.hid hu2; clear hu2))
                go_roundg (gk - 1)
                case measure => omega
                case rel =>
                  refine ⟨m + 1, by omega, by go_num, ?_⟩
                  have e2 : (yo ++ ⟨#[]⟩ : ByteArray).size = yo.size := by rw [ByteArray.size_append]; rfl
                  have e4 := HN.out
                  exact ⟨Lo, L, Xo, _, (yo ++ ⟨#[]⟩), yi, no, ni, so, s0, HO.out, HL.out, by omega, by omega, by omega, by omega, A2.out.en, A2.out.below⟩
          · have hff : L.fin = false := by simpa using hfin
            clear hfin
            have hfin := hff
            clear hff
            by_cases hd0 : x.data.size = 0
            · have hde : x.data = ⟨#[]⟩ := ByteArray.size_eq_zero_iff.1 hd0
              as_aux_lemma =>
                have HF := Lib.hid hfin
                clear hfin
                have HDE := Lib.hid hde
                clear hde hd0
                have b0 : V1.cell? ⟨ab, 0, none⟩ = some (.int .i64 0) := by rw [← hkd]; exact P1.out.box.cell 0
                have b3 : V1.cell? ⟨ab, 3, none⟩ = some (.string x.data) := P1.out.box.cell 3
                have x0 : V1.cell? ⟨w1, 0, none⟩ = some (.string X.sent) := P1.out.en.x1.cell 0
                have f0 := P1.out.en.x1.frozen 0
                have x1 : V1.cell? ⟨w1, 1, none⟩ = some (.int .i64 X.sends) := P1.out.en.x1.cell 1
                have f1 := P1.out.en.x1.frozen 1
                have x2 : V1.cell? ⟨w1, 2, none⟩ = some (.int .i64 X.refuse) := P1.out.en.x1.cell 2
                have f2 := P1.out.en.x1.frozen 2
                have hwab : w1 ≠ ab := by have := P1.out.en.o2; have := P1.out.en.o1; have := P1.out.en.o3; have := P1.out.lt; omega
                have hwab' : ab ≠ w1 := hwab.symm
                go_upto_region 22 with fail
                obtain ⟨V2, hV2⟩ : ∃ V2, V2 = (((V1.setCell ⟨w1, 2, none⟩ (.int .i64 0)).setCell ⟨w1, 0, none⟩ (.string ⟨#[]⟩)).setCell ⟨w1, 1, none⟩ (.int .i64 0)) := ⟨_, rfl⟩
                have P2 : Hid (Pb w g l0 l1 w0 w1 Lo L Xo ⟨⟨#[]⟩, 0, 0, X.come, X.err⟩ Lo L yo yi ab x (x.n) V2) := by rw [hV2]; exact Lib.hid (((P1.out.wst1 2 (.int .i64 0) (X' := ⟨X.sent, X.sends, 0, X.come, X.err⟩) rfl).wst1 0 (.string ⟨#[]⟩) (X' := ⟨⟨#[]⟩, X.sends, 0, X.come, X.err⟩) rfl).wst1 1 (.int .i64 0) (X' := ⟨⟨#[]⟩, 0, 0, X.come, X.err⟩) rfl)
                rw [← hV2]
                clear hV2 b0 b3 x0 x1 x2 f0 f1 f2
                have q1 : V2.cell? ⟨g, 1, none⟩ = some (.pointer (some ⟨l1, 0, none⟩)) := P2.out.en.blk.cell 1
                have q2 : V2.cell? ⟨ab, 3, none⟩ = some (.string x.data) := P2.out.box.cell 3
                go_cut [11] (fun c wx => c = .int .i64 0 ∧ Pb w g l0 l1 w0 w1 Lo L Xo ⟨⟨#[]⟩, 0, 0, X.come, X.err⟩ Lo L yo yi ab x (x.n) wx)
                case first =>
                  rw [HDE.out] at q2
                  have CS := Lib.hid (P2.out.drew.sendE1 HF.out)
                  go_region_held3 (fun W => W.cell? ⟨g, 1, none⟩ = some (.pointer (some ⟨l1, 0, none⟩)) ∧ W.cell? ⟨ab, 3, none⟩ = some (.string ⟨#[]⟩)) (first | exact ⟨r1, r2⟩ | go_keep) (first
                    | (go_at_call 14; refine (CS.out).mono ?_; rintro e u0 ⟨rfl, hu0⟩; have P3 := Lib.hid hu0; have r1 : u0.cell? ⟨g, 1, none⟩ = some (.pointer (some ⟨l1, 0, none⟩)) := hu0.en.blk.cell 1; have r2 : u0.cell? ⟨ab, 3, none⟩ = some (.string ⟨#[]⟩) := HDE.out ▸ hu0.box.cell 3; clear hu0))
                  all_goals
                    go_wp2_with fail
                    go_meet
                    exact ⟨rfl, P3.out⟩
                case rest =>
                obtain ⟨rfl, hP3⟩ := hcut
                have P3 := Lib.hid hP3
                obtain ⟨V3, rfl⟩ : ∃ V : World, V = wc := ⟨_, rfl⟩
                clear hP3 q1 q2 P2
                have z0 : V3.cell? ⟨g, 10, none⟩ = some (.string L.key) := P3.out.en.blk.cell 10
                have z1 : V3.cell? ⟨g, 11, none⟩ = some (.int .i64 L.side) := P3.out.en.blk.cell 11
                have z2 : V3.cell? ⟨g, 12, none⟩ = some (.string L.left) := P3.out.en.blk.cell 12
                have z3 : V3.cell? ⟨g, 13, none⟩ = some (.int .i64 L.sent) := P3.out.en.blk.cell 13
                have z4 : V3.cell? ⟨g, 14, none⟩ = some (.int .i64 L.taken) := P3.out.en.blk.cell 14
                have z5 : V3.cell? ⟨g, 15, none⟩ = some (.bool L.fin) := P3.out.en.blk.cell 15
                have zd : V3.cell? ⟨ab, 3, none⟩ = some (.string x.data) := P3.out.box.cell 3
                go_upto_region 23 with fail
                go_cut [12, 13] (fun c d wx => c = .string OB ∧ d = .int .i64 (cn : Nat) ∧ Pb w g l0 l1 w0 w1 Lo L Xo ⟨⟨#[]⟩, 0, 0, X.come, X.err⟩ Lo L yo yi ab x (x.n) wx)
                case first =>
                  go_region_held3 (fun W => W.cell? ⟨g, 10, none⟩ = some (.string L.key) ∧ W.cell? ⟨g, 11, none⟩ = some (.int .i64 L.side) ∧ W.cell? ⟨g, 12, none⟩ = some (.string L.left) ∧ W.cell? ⟨g, 13, none⟩ = some (.int .i64 L.sent) ∧ W.cell? ⟨g, 14, none⟩ = some (.int .i64 L.taken) ∧ W.cell? ⟨g, 15, none⟩ = some (.bool L.fin) ∧ W.cell? ⟨ab, 3, none⟩ = some (.string x.data)) (first | exact ⟨r0, r1, r2, r3, r4, r5, r9⟩ | go_keep) (first
                    | (go_at_call 22; refine (CQ.out _).mono ?_; rintro e u0 ⟨rfl, hu0⟩; have P4 := Lib.hid (P3.out.drew.later hu0); have r0 : u0.cell? ⟨g, 10, none⟩ = some (.string L.key) := P4.out.en.blk.cell 10; have r1 : u0.cell? ⟨g, 11, none⟩ = some (.int .i64 L.side) := P4.out.en.blk.cell 11; have r2 : u0.cell? ⟨g, 12, none⟩ = some (.string L.left) := P4.out.en.blk.cell 12; have r3 : u0.cell? ⟨g, 13, none⟩ = some (.int .i64 L.sent) := P4.out.en.blk.cell 13; have r4 : u0.cell? ⟨g, 14, none⟩ = some (.int .i64 L.taken) := P4.out.en.blk.cell 14; have r5 : u0.cell? ⟨g, 15, none⟩ = some (.bool L.fin) := P4.out.en.blk.cell 15; have r9 : u0.cell? ⟨ab, 3, none⟩ = some (.string x.data) := P4.out.box.cell 3; clear hu0))
                  all_goals
                    go_wp2_with fail
                    go_meet
                    exact ⟨rfl, rfl, P4.out⟩
                case rest =>
                obtain ⟨rfl, rfl, hP4⟩ := hcut
                have P4 := Lib.hid hP4
                obtain ⟨V4, rfl⟩ : ∃ V : World, V = wc := ⟨_, rfl⟩
                clear hP4 z0 z1 z2 z3 z4 z5 zd P3
                have t5 : V4.cell? ⟨g, 15, none⟩ = some (.bool false) := by rw [← HF.out]; exact P4.out.en.blk.cell 15
                have t3 : V4.cell? ⟨g, 13, none⟩ = some (.int .i64 (s0 : Nat)) := by rw [← HL.out.sent]; exact P4.out.en.blk.cell 13
                have f3 := P4.out.en.blk.frozen 13
                have b0 : V4.cell? ⟨ab, 0, none⟩ = some (.int .i64 0) := by rw [← hkd]; exact P4.out.box.cell 0
                have x0 : V4.cell? ⟨w1, 0, none⟩ = some (.string ⟨#[]⟩) := P4.out.en.x1.cell 0
                have x1 : V4.cell? ⟨w1, 1, none⟩ = some (.int .i64 0) := P4.out.en.x1.cell 1
                have hcn0 : cn = 0 := by rw [HCN.out, HDE.out]; rfl
                have hOe : OB = ⟨#[]⟩ := by rw [HOB.out, HDE.out]; rfl
                subst hcn0
                subst hOe
                go_upto_region 32 with fail
                obtain ⟨V5, hV5⟩ : ∃ V5, V5 = V4.setCell ⟨g, 13, none⟩ (.int .i64 (s0 : Nat)) := ⟨_, rfl⟩
                have P5 : Hid (Pb w g l0 l1 w0 w1 Lo L Xo ⟨⟨#[]⟩, 0, 0, X.come, X.err⟩ Lo L yo yi ab x (x.n) V5) := by rw [hV5]; have := P4.out.rst1 (s0 : Nat); rw [← HL.out.sent] at this ⊢; exact Lib.hid this
                rw [← hV5]
                clear hV5 t5 t3 f3 b0 x0 x1 P4
                have ty : V5.cell? ⟨g, 16, none⟩ = some (.string yo) := P5.out.en.blk.cell 16
                have fy := P5.out.en.blk.frozen 16
                have c1 : ¬ 9223372036854775807 < yo.size + (⟨#[]⟩ : ByteArray).size := by show ¬ 9223372036854775807 < yo.size + 0; omega
                go_region
                all_goals
                  obtain ⟨V6, hV6⟩ : ∃ V6, V6 = (V5.setCell ⟨g, 16, none⟩ (.string (yo ++ ⟨#[]⟩))).drew := ⟨_, rfl⟩
                  have P6 : Hid (Pb w g l0 l1 w0 w1 Lo L Xo ⟨⟨#[]⟩, 0, 0, X.come, X.err⟩ Lo L (yo ++ ⟨#[]⟩) yi ab x (x.n) V6) := by rw [hV6]; exact Lib.hid (P5.out.yst0 _).drew
                  rw [← hV6]
                  clear hV6 ty fy P5
                  go_wp2_with (first
                    | (go_at_call 23; (with_reducible refine ((P6.out.agree0)).mono ?_); rintro e u1 ⟨rfl, hu1⟩; have A1 := Lib.hid hu1; clear hu1)
                    | (go_at_call 23; (with_reducible refine ((A1.out.agree1)).mono ?_); rintro e u2 ⟨rfl, hu2⟩; have A2 := Lib.hid hu2; clear hu2))
                  go_roundg (gk - 1)
                  case measure => omega
                  case rel =>
                    refine ⟨m + 1, by omega, by go_num, ?_⟩
                    have e2 : (yo ++ ⟨#[]⟩ : ByteArray).size = yo.size := by rw [ByteArray.size_append]; rfl
                    have e4 := HN.out
                    exact ⟨Lo, L, Xo, _, (yo ++ ⟨#[]⟩), yi, no, ni, so, s0, HO.out, HL.out, by omega, by omega, by omega, by omega, A2.out.en, A2.out.below⟩
            · skip
              as_aux_lemma =>
                have HF := Lib.hid hfin
                clear hfin
                have HD0 := Lib.hid hd0
                clear hd0
                have b0 : V1.cell? ⟨ab, 0, none⟩ = some (.int .i64 0) := by rw [← hkd]; exact P1.out.box.cell 0
                have b3 : V1.cell? ⟨ab, 3, none⟩ = some (.string x.data) := P1.out.box.cell 3
                have x0 : V1.cell? ⟨w1, 0, none⟩ = some (.string X.sent) := P1.out.en.x1.cell 0
                have f0 := P1.out.en.x1.frozen 0
                have x1 : V1.cell? ⟨w1, 1, none⟩ = some (.int .i64 X.sends) := P1.out.en.x1.cell 1
                have f1 := P1.out.en.x1.frozen 1
                have x2 : V1.cell? ⟨w1, 2, none⟩ = some (.int .i64 X.refuse) := P1.out.en.x1.cell 2
                have f2 := P1.out.en.x1.frozen 2
                have hwab : w1 ≠ ab := by have := P1.out.en.o2; have := P1.out.en.o1; have := P1.out.en.o3; have := P1.out.lt; omega
                have hwab' : ab ≠ w1 := hwab.symm
                go_upto_region 22 with fail
                obtain ⟨V2, hV2⟩ : ∃ V2, V2 = (((V1.setCell ⟨w1, 2, none⟩ (.int .i64 0)).setCell ⟨w1, 0, none⟩ (.string ⟨#[]⟩)).setCell ⟨w1, 1, none⟩ (.int .i64 0)) := ⟨_, rfl⟩
                have P2 : Hid (Pb w g l0 l1 w0 w1 Lo L Xo ⟨⟨#[]⟩, 0, 0, X.come, X.err⟩ Lo L yo yi ab x (x.n) V2) := by rw [hV2]; exact Lib.hid (((P1.out.wst1 2 (.int .i64 0) (X' := ⟨X.sent, X.sends, 0, X.come, X.err⟩) rfl).wst1 0 (.string ⟨#[]⟩) (X' := ⟨⟨#[]⟩, X.sends, 0, X.come, X.err⟩) rfl).wst1 1 (.int .i64 0) (X' := ⟨⟨#[]⟩, 0, 0, X.come, X.err⟩) rfl)
                rw [← hV2]
                clear hV2 b0 b3 x0 x1 x2 f0 f1 f2
                have q1 : V2.cell? ⟨g, 1, none⟩ = some (.pointer (some ⟨l1, 0, none⟩)) := P2.out.en.blk.cell 1
                have q2 : V2.cell? ⟨ab, 3, none⟩ = some (.string x.data) := P2.out.box.cell 3
                go_cut [11] (fun c wx => c = .int .i64 0 ∧ Pb w g l0 l1 w0 w1 Lo ⟨L.key, L.side, ((s0 + cntL x.data.size : Nat) : Int), L.taken, L.left, L.fin⟩ Xo ⟨⟨(outL L.key.data.toList L.side s0 x.data.data.toList (cntL x.data.size)).toArray⟩, 1, 0, X.come, X.err⟩ Lo L yo yi ab x (x.n) wx)
                case first =>
                  have CS := Lib.hid (P2.out.drew.sendO1 HF.out HL.out hs1M X.come X.err rfl x.data hdata HD0.out hB2 HT.out)
                  go_region_held3 (fun W => W.cell? ⟨g, 1, none⟩ = some (.pointer (some ⟨l1, 0, none⟩)) ∧ W.cell? ⟨ab, 3, none⟩ = some (.string x.data)) (first | exact ⟨r1, r2⟩ | go_keep) (first
                    | (go_at_call 14; refine (CS.out).mono ?_; rintro e u0 ⟨rfl, hu0⟩; have P3 := Lib.hid hu0; have r1 : u0.cell? ⟨g, 1, none⟩ = some (.pointer (some ⟨l1, 0, none⟩)) := hu0.en.blk.cell 1; have r2 : u0.cell? ⟨ab, 3, none⟩ = some (.string x.data) := hu0.box.cell 3; clear hu0))
                  all_goals
                    go_wp2_with fail
                    go_meet
                    exact ⟨rfl, P3.out⟩
                case rest =>
                obtain ⟨rfl, hP3⟩ := hcut
                have P3 := Lib.hid hP3
                obtain ⟨V3, rfl⟩ : ∃ V : World, V = wc := ⟨_, rfl⟩
                clear hP3 q1 q2 P2
                have z0 : V3.cell? ⟨g, 10, none⟩ = some (.string L.key) := P3.out.en.blk.cell 10
                have z1 : V3.cell? ⟨g, 11, none⟩ = some (.int .i64 L.side) := P3.out.en.blk.cell 11
                have z2 : V3.cell? ⟨g, 12, none⟩ = some (.string L.left) := P3.out.en.blk.cell 12
                have z3 : V3.cell? ⟨g, 13, none⟩ = some (.int .i64 L.sent) := P3.out.en.blk.cell 13
                have z4 : V3.cell? ⟨g, 14, none⟩ = some (.int .i64 L.taken) := P3.out.en.blk.cell 14
                have z5 : V3.cell? ⟨g, 15, none⟩ = some (.bool L.fin) := P3.out.en.blk.cell 15
                have zd : V3.cell? ⟨ab, 3, none⟩ = some (.string x.data) := P3.out.box.cell 3
                go_upto_region 23 with fail
                go_cut [12, 13] (fun c d wx => c = .string OB ∧ d = .int .i64 (cn : Nat) ∧ Pb w g l0 l1 w0 w1 Lo ⟨L.key, L.side, ((s0 + cntL x.data.size : Nat) : Int), L.taken, L.left, L.fin⟩ Xo ⟨⟨(outL L.key.data.toList L.side s0 x.data.data.toList (cntL x.data.size)).toArray⟩, 1, 0, X.come, X.err⟩ Lo L yo yi ab x (x.n) wx)
                case first =>
                  go_region_held3 (fun W => W.cell? ⟨g, 10, none⟩ = some (.string L.key) ∧ W.cell? ⟨g, 11, none⟩ = some (.int .i64 L.side) ∧ W.cell? ⟨g, 12, none⟩ = some (.string L.left) ∧ W.cell? ⟨g, 13, none⟩ = some (.int .i64 L.sent) ∧ W.cell? ⟨g, 14, none⟩ = some (.int .i64 L.taken) ∧ W.cell? ⟨g, 15, none⟩ = some (.bool L.fin) ∧ W.cell? ⟨ab, 3, none⟩ = some (.string x.data)) (first | exact ⟨r0, r1, r2, r3, r4, r5, r9⟩ | go_keep) (first
                    | (go_at_call 22; refine (CQ.out _).mono ?_; rintro e u0 ⟨rfl, hu0⟩; have P4 := Lib.hid (P3.out.drew.later hu0); have r0 : u0.cell? ⟨g, 10, none⟩ = some (.string L.key) := P4.out.en.blk.cell 10; have r1 : u0.cell? ⟨g, 11, none⟩ = some (.int .i64 L.side) := P4.out.en.blk.cell 11; have r2 : u0.cell? ⟨g, 12, none⟩ = some (.string L.left) := P4.out.en.blk.cell 12; have r3 : u0.cell? ⟨g, 13, none⟩ = some (.int .i64 L.sent) := P4.out.en.blk.cell 13; have r4 : u0.cell? ⟨g, 14, none⟩ = some (.int .i64 L.taken) := P4.out.en.blk.cell 14; have r5 : u0.cell? ⟨g, 15, none⟩ = some (.bool L.fin) := P4.out.en.blk.cell 15; have r9 : u0.cell? ⟨ab, 3, none⟩ = some (.string x.data) := P4.out.box.cell 3; clear hu0))
                  all_goals
                    go_wp2_with fail
                    go_meet
                    exact ⟨rfl, rfl, P4.out⟩
                case rest =>
                obtain ⟨rfl, rfl, hP4⟩ := hcut
                have P4 := Lib.hid hP4
                obtain ⟨V4, rfl⟩ : ∃ V : World, V = wc := ⟨_, rfl⟩
                clear hP4 z0 z1 z2 z3 z4 z5 zd P3
                have t5 : V4.cell? ⟨g, 15, none⟩ = some (.bool false) := by rw [← HF.out]; exact P4.out.en.blk.cell 15
                have t3 : V4.cell? ⟨g, 13, none⟩ = some (.int .i64 (s0 : Nat)) := by rw [← HL.out.sent]; exact P4.out.en.blk.cell 13
                have f3 := P4.out.en.blk.frozen 13
                have b0 : V4.cell? ⟨ab, 0, none⟩ = some (.int .i64 0) := by rw [← hkd]; exact P4.out.box.cell 0
                have x0 : V4.cell? ⟨w1, 0, none⟩ = some (.string OB) := by rw [HOB.out]; exact P4.out.en.x1.cell 0
                have x1 : V4.cell? ⟨w1, 1, none⟩ = some (.int .i64 1) := P4.out.en.x1.cell 1
                have cn1 : 0 < cn := by rw [HCN.out]; have := HD0.out; unfold cntL; omega
                have cn2 : (0 : Int) < (cn : Int) := by omega
                have cn3 : min (cn : Int) 1 = 1 := by omega
                have sw : IntKind.i64.wrap ((s0 : Int) + (cn : Int)) = (s0 : Int) + (cn : Int) := IntWalk.i64_in _ (by have := HCN.out; have := cnt_few hdata; omega)
                go_upto_region 32 with fail
                obtain ⟨V5, hV5⟩ : ∃ V5, V5 = V4.setCell ⟨g, 13, none⟩ (.int .i64 ((s0 : Int) + (cn : Int))) := ⟨_, rfl⟩
                have P5 : Hid (Pb w g l0 l1 w0 w1 Lo ⟨L.key, L.side, ((s0 + cntL x.data.size : Nat) : Int), L.taken, L.left, L.fin⟩ Xo ⟨⟨(outL L.key.data.toList L.side s0 x.data.data.toList (cntL x.data.size)).toArray⟩, 1, 0, X.come, X.err⟩ Lo ⟨L.key, L.side, ((s0 + cntL x.data.size : Nat) : Int), L.taken, L.left, L.fin⟩ yo yi ab x (x.n) V5) := by rw [hV5, show (s0 : Int) + (cn : Int) = ((s0 + cntL x.data.size : Nat) : Int) by rw [HCN.out]; omega]; exact Lib.hid (P4.out.rst1 _)
                rw [← hV5]
                clear hV5 t5 t3 f3 b0 x0 x1 P4
                have ty : V5.cell? ⟨g, 16, none⟩ = some (.string yo) := P5.out.en.blk.cell 16
                have fy := P5.out.en.blk.frozen 16
                have c1 : ¬ 9223372036854775807 < yo.size + (OB : ByteArray).size := by have := hObs; omega
                go_region
                all_goals
                  obtain ⟨V6, hV6⟩ : ∃ V6, V6 = (V5.setCell ⟨g, 16, none⟩ (.string (yo ++ OB))).drew := ⟨_, rfl⟩
                  have P6 : Hid (Pb w g l0 l1 w0 w1 Lo ⟨L.key, L.side, ((s0 + cntL x.data.size : Nat) : Int), L.taken, L.left, L.fin⟩ Xo ⟨⟨(outL L.key.data.toList L.side s0 x.data.data.toList (cntL x.data.size)).toArray⟩, 1, 0, X.come, X.err⟩ Lo ⟨L.key, L.side, ((s0 + cntL x.data.size : Nat) : Int), L.taken, L.left, L.fin⟩ (yo ++ OB) yi ab x (x.n) V6) := by rw [hV6]; exact Lib.hid (P5.out.yst0 _).drew
                  rw [← hV6]
                  clear hV6 ty fy P5
                  go_wp2_with (first
                    | (go_at_call 23; (with_reducible refine ((P6.out.agree0)).mono ?_); rintro e u1 ⟨rfl, hu1⟩; have A1 := Lib.hid hu1; clear hu1)
                    | (go_at_call 23; (with_reducible refine ((A1.out.agree1)).mono ?_); rintro e u2 ⟨rfl, hu2⟩; have A2 := Lib.hid hu2; clear hu2))
                  go_roundg (gk - 1)
                  case measure => omega
                  case rel =>
                    refine ⟨m + 1, by omega, by go_num, ?_⟩
                    have e1 := cnt_few hdata
                    have e2 : (yo ++ OB).size = yo.size + OB.size := ByteArray.size_append
                    have e3 := hObs
                    have e5 : (⟨L.key, L.side, ((s0 + cntL x.data.size : Nat) : Int), L.taken, L.left, L.fin⟩ : Lk).left.size = L.left.size := rfl
                    have e4 := HN.out
                    exact ⟨Lo, ⟨L.key, L.side, ((s0 + cntL x.data.size : Nat) : Int), L.taken, L.left, L.fin⟩, Xo, _, (yo ++ OB), yi, no, ni, so, (s0 + cntL x.data.size), HO.out, ⟨HL.out.key, HL.out.taken, rfl⟩, by omega, by omega, by omega, by omega, A2.out.en, A2.out.below⟩
        by_cases h3 : x.kind = 3
        · have hkd := h3
          clear h3
          by_cases hfin : L.fin = true
          · skip
            as_aux_lemma =>
              have HF := Lib.hid hfin
              clear hfin
              have b0 : V1.cell? ⟨ab, 0, none⟩ = some (.int .i64 3) := by rw [← hkd]; exact P1.out.box.cell 0
              have b3 : V1.cell? ⟨ab, 3, none⟩ = some (.string x.data) := P1.out.box.cell 3
              have x0 : V1.cell? ⟨w1, 0, none⟩ = some (.string X.sent) := P1.out.en.x1.cell 0
              have f0 := P1.out.en.x1.frozen 0
              have x1 : V1.cell? ⟨w1, 1, none⟩ = some (.int .i64 X.sends) := P1.out.en.x1.cell 1
              have f1 := P1.out.en.x1.frozen 1
              have x2 : V1.cell? ⟨w1, 2, none⟩ = some (.int .i64 X.refuse) := P1.out.en.x1.cell 2
              have f2 := P1.out.en.x1.frozen 2
              have hwab : w1 ≠ ab := by have := P1.out.en.o2; have := P1.out.en.o1; have := P1.out.en.o3; have := P1.out.lt; omega
              have hwab' : ab ≠ w1 := hwab.symm
              go_upto_region 22 with fail
              obtain ⟨V2, hV2⟩ : ∃ V2, V2 = ((((V1.setCell ⟨w1, 2, none⟩ (.int .i64 0)).setCell ⟨w1, 2, none⟩ (.int .i64 36)).setCell ⟨w1, 0, none⟩ (.string ⟨#[]⟩)).setCell ⟨w1, 1, none⟩ (.int .i64 0)) := ⟨_, rfl⟩
              have P2 : Hid (Pb w g l0 l1 w0 w1 Lo L Xo ⟨⟨#[]⟩, 0, 36, X.come, X.err⟩ Lo L yo yi ab x (x.n) V2) := by rw [hV2]; exact Lib.hid ((((P1.out.wst1 2 (.int .i64 0) (X' := ⟨X.sent, X.sends, 0, X.come, X.err⟩) rfl).wst1 2 (.int .i64 36) (X' := ⟨X.sent, X.sends, 36, X.come, X.err⟩) rfl).wst1 0 (.string ⟨#[]⟩) (X' := ⟨⟨#[]⟩, X.sends, 36, X.come, X.err⟩) rfl).wst1 1 (.int .i64 0) (X' := ⟨⟨#[]⟩, 0, 36, X.come, X.err⟩) rfl)
              rw [← hV2]
              clear hV2 b0 b3 x0 x1 x2 f0 f1 f2
              have q1 : V2.cell? ⟨g, 1, none⟩ = some (.pointer (some ⟨l1, 0, none⟩)) := P2.out.en.blk.cell 1
              have q2 : V2.cell? ⟨ab, 3, none⟩ = some (.string x.data) := P2.out.box.cell 3
              go_cut [11] (fun c wx => c = .int .i64 28 ∧ Pb w g l0 l1 w0 w1 Lo L Xo ⟨⟨#[]⟩, 0, 36, X.come, X.err⟩ Lo L yo yi ab x (x.n) wx)
              case first =>
                have CS := Lib.hid (P2.out.drew.sendF1 HF.out x.data)
                go_region_held3 (fun W => W.cell? ⟨g, 1, none⟩ = some (.pointer (some ⟨l1, 0, none⟩)) ∧ W.cell? ⟨ab, 3, none⟩ = some (.string x.data)) (first | exact ⟨r1, r2⟩ | go_keep) (first
                  | (go_at_call 14; refine (CS.out).mono ?_; rintro e u0 ⟨rfl, hu0⟩; have P3 := Lib.hid hu0; have r1 : u0.cell? ⟨g, 1, none⟩ = some (.pointer (some ⟨l1, 0, none⟩)) := hu0.en.blk.cell 1; have r2 : u0.cell? ⟨ab, 3, none⟩ = some (.string x.data) := hu0.box.cell 3; clear hu0))
                all_goals
                  go_wp2_with fail
                  go_meet
                  exact ⟨rfl, P3.out⟩
              case rest =>
              obtain ⟨rfl, hP3⟩ := hcut
              have P3 := Lib.hid hP3
              obtain ⟨V3, rfl⟩ : ∃ V : World, V = wc := ⟨_, rfl⟩
              clear hP3 q1 q2 P2
              have z0 : V3.cell? ⟨g, 10, none⟩ = some (.string L.key) := P3.out.en.blk.cell 10
              have z1 : V3.cell? ⟨g, 11, none⟩ = some (.int .i64 L.side) := P3.out.en.blk.cell 11
              have z2 : V3.cell? ⟨g, 12, none⟩ = some (.string L.left) := P3.out.en.blk.cell 12
              have z3 : V3.cell? ⟨g, 13, none⟩ = some (.int .i64 L.sent) := P3.out.en.blk.cell 13
              have z4 : V3.cell? ⟨g, 14, none⟩ = some (.int .i64 L.taken) := P3.out.en.blk.cell 14
              have z5 : V3.cell? ⟨g, 15, none⟩ = some (.bool L.fin) := P3.out.en.blk.cell 15
              have zd : V3.cell? ⟨ab, 3, none⟩ = some (.string x.data) := P3.out.box.cell 3
              go_upto_region 23 with fail
              go_cut [12, 13] (fun c d wx => c = .string OB ∧ d = .int .i64 (cn : Nat) ∧ Pb w g l0 l1 w0 w1 Lo L Xo ⟨⟨#[]⟩, 0, 36, X.come, X.err⟩ Lo L yo yi ab x (x.n) wx)
              case first =>
                go_region_held3 (fun W => W.cell? ⟨g, 10, none⟩ = some (.string L.key) ∧ W.cell? ⟨g, 11, none⟩ = some (.int .i64 L.side) ∧ W.cell? ⟨g, 12, none⟩ = some (.string L.left) ∧ W.cell? ⟨g, 13, none⟩ = some (.int .i64 L.sent) ∧ W.cell? ⟨g, 14, none⟩ = some (.int .i64 L.taken) ∧ W.cell? ⟨g, 15, none⟩ = some (.bool L.fin) ∧ W.cell? ⟨ab, 3, none⟩ = some (.string x.data)) (first | exact ⟨r0, r1, r2, r3, r4, r5, r9⟩ | go_keep) (first
                  | (go_at_call 22; refine (CQ.out _).mono ?_; rintro e u0 ⟨rfl, hu0⟩; have P4 := Lib.hid (P3.out.drew.later hu0); have r0 : u0.cell? ⟨g, 10, none⟩ = some (.string L.key) := P4.out.en.blk.cell 10; have r1 : u0.cell? ⟨g, 11, none⟩ = some (.int .i64 L.side) := P4.out.en.blk.cell 11; have r2 : u0.cell? ⟨g, 12, none⟩ = some (.string L.left) := P4.out.en.blk.cell 12; have r3 : u0.cell? ⟨g, 13, none⟩ = some (.int .i64 L.sent) := P4.out.en.blk.cell 13; have r4 : u0.cell? ⟨g, 14, none⟩ = some (.int .i64 L.taken) := P4.out.en.blk.cell 14; have r5 : u0.cell? ⟨g, 15, none⟩ = some (.bool L.fin) := P4.out.en.blk.cell 15; have r9 : u0.cell? ⟨ab, 3, none⟩ = some (.string x.data) := P4.out.box.cell 3; clear hu0))
                all_goals
                  go_wp2_with fail
                  go_meet
                  exact ⟨rfl, rfl, P4.out⟩
              case rest =>
              obtain ⟨rfl, rfl, hP4⟩ := hcut
              have P4 := Lib.hid hP4
              obtain ⟨V4, rfl⟩ : ∃ V : World, V = wc := ⟨_, rfl⟩
              clear hP4 z0 z1 z2 z3 z4 z5 zd P3
              have t5 : V4.cell? ⟨g, 15, none⟩ = some (.bool true) := by rw [← HF.out]; exact P4.out.en.blk.cell 15
              have t3 : V4.cell? ⟨g, 13, none⟩ = some (.int .i64 (s0 : Nat)) := by rw [← HL.out.sent]; exact P4.out.en.blk.cell 13
              have f3 := P4.out.en.blk.frozen 13
              have b0 : V4.cell? ⟨ab, 0, none⟩ = some (.int .i64 3) := by rw [← hkd]; exact P4.out.box.cell 0
              have x0 : V4.cell? ⟨w1, 0, none⟩ = some (.string ⟨#[]⟩) := P4.out.en.x1.cell 0
              have x1 : V4.cell? ⟨w1, 1, none⟩ = some (.int .i64 0) := P4.out.en.x1.cell 1
              go_upto_region 32 with fail
              obtain ⟨V5, hV5⟩ : ∃ V5, V5 = V4.setCell ⟨g, 13, none⟩ (.int .i64 (s0 : Nat)) := ⟨_, rfl⟩
              have P5 : Hid (Pb w g l0 l1 w0 w1 Lo L Xo ⟨⟨#[]⟩, 0, 36, X.come, X.err⟩ Lo L yo yi ab x (x.n) V5) := by rw [hV5]; have := P4.out.rst1 (s0 : Nat); rw [← HL.out.sent] at this ⊢; exact Lib.hid this
              rw [← hV5]
              clear hV5 t5 t3 f3 b0 x0 x1 P4
              have ty : V5.cell? ⟨g, 16, none⟩ = some (.string yo) := P5.out.en.blk.cell 16
              have fy := P5.out.en.blk.frozen 16
              have c1 : ¬ 9223372036854775807 < yo.size + (⟨#[]⟩ : ByteArray).size := by show ¬ 9223372036854775807 < yo.size + 0; omega
              go_region
              all_goals
                obtain ⟨V6, hV6⟩ : ∃ V6, V6 = (V5.setCell ⟨g, 16, none⟩ (.string (yo ++ ⟨#[]⟩))).drew := ⟨_, rfl⟩
                have P6 : Hid (Pb w g l0 l1 w0 w1 Lo L Xo ⟨⟨#[]⟩, 0, 36, X.come, X.err⟩ Lo L (yo ++ ⟨#[]⟩) yi ab x (x.n) V6) := by rw [hV6]; exact Lib.hid (P5.out.yst0 _).drew
                rw [← hV6]
                clear hV6 ty fy P5
                go_wp2_with (first
                  | (go_at_call 23; (with_reducible refine ((P6.out.agree0)).mono ?_); rintro e u1 ⟨rfl, hu1⟩; have A1 := Lib.hid hu1; clear hu1)
                  | (go_at_call 23; (with_reducible refine ((A1.out.agree1)).mono ?_); rintro e u2 ⟨rfl, hu2⟩; have A2 := Lib.hid hu2; clear hu2))
                go_roundg (gk - 1)
                case measure => omega
                case rel =>
                  refine ⟨m + 1, by omega, by go_num, ?_⟩
                  have e2 : (yo ++ ⟨#[]⟩ : ByteArray).size = yo.size := by rw [ByteArray.size_append]; rfl
                  have e4 := HN.out
                  exact ⟨Lo, L, Xo, _, (yo ++ ⟨#[]⟩), yi, no, ni, so, s0, HO.out, HL.out, by omega, by omega, by omega, by omega, A2.out.en, A2.out.below⟩
          · have hff : L.fin = false := by simpa using hfin
            clear hfin
            have hfin := hff
            clear hff
            by_cases hd0 : x.data.size = 0
            · have hde : x.data = ⟨#[]⟩ := ByteArray.size_eq_zero_iff.1 hd0
              as_aux_lemma =>
                have HF := Lib.hid hfin
                clear hfin
                have HDE := Lib.hid hde
                clear hde hd0
                have b0 : V1.cell? ⟨ab, 0, none⟩ = some (.int .i64 3) := by rw [← hkd]; exact P1.out.box.cell 0
                have b3 : V1.cell? ⟨ab, 3, none⟩ = some (.string x.data) := P1.out.box.cell 3
                have x0 : V1.cell? ⟨w1, 0, none⟩ = some (.string X.sent) := P1.out.en.x1.cell 0
                have f0 := P1.out.en.x1.frozen 0
                have x1 : V1.cell? ⟨w1, 1, none⟩ = some (.int .i64 X.sends) := P1.out.en.x1.cell 1
                have f1 := P1.out.en.x1.frozen 1
                have x2 : V1.cell? ⟨w1, 2, none⟩ = some (.int .i64 X.refuse) := P1.out.en.x1.cell 2
                have f2 := P1.out.en.x1.frozen 2
                have hwab : w1 ≠ ab := by have := P1.out.en.o2; have := P1.out.en.o1; have := P1.out.en.o3; have := P1.out.lt; omega
                have hwab' : ab ≠ w1 := hwab.symm
                go_upto_region 22 with fail
                obtain ⟨V2, hV2⟩ : ∃ V2, V2 = ((((V1.setCell ⟨w1, 2, none⟩ (.int .i64 0)).setCell ⟨w1, 2, none⟩ (.int .i64 36)).setCell ⟨w1, 0, none⟩ (.string ⟨#[]⟩)).setCell ⟨w1, 1, none⟩ (.int .i64 0)) := ⟨_, rfl⟩
                have P2 : Hid (Pb w g l0 l1 w0 w1 Lo L Xo ⟨⟨#[]⟩, 0, 36, X.come, X.err⟩ Lo L yo yi ab x (x.n) V2) := by rw [hV2]; exact Lib.hid ((((P1.out.wst1 2 (.int .i64 0) (X' := ⟨X.sent, X.sends, 0, X.come, X.err⟩) rfl).wst1 2 (.int .i64 36) (X' := ⟨X.sent, X.sends, 36, X.come, X.err⟩) rfl).wst1 0 (.string ⟨#[]⟩) (X' := ⟨⟨#[]⟩, X.sends, 36, X.come, X.err⟩) rfl).wst1 1 (.int .i64 0) (X' := ⟨⟨#[]⟩, 0, 36, X.come, X.err⟩) rfl)
                rw [← hV2]
                clear hV2 b0 b3 x0 x1 x2 f0 f1 f2
                have q1 : V2.cell? ⟨g, 1, none⟩ = some (.pointer (some ⟨l1, 0, none⟩)) := P2.out.en.blk.cell 1
                have q2 : V2.cell? ⟨ab, 3, none⟩ = some (.string x.data) := P2.out.box.cell 3
                go_cut [11] (fun c wx => c = .int .i64 0 ∧ Pb w g l0 l1 w0 w1 Lo L Xo ⟨⟨#[]⟩, 0, 36, X.come, X.err⟩ Lo L yo yi ab x (x.n) wx)
                case first =>
                  rw [HDE.out] at q2
                  have CS := Lib.hid (P2.out.drew.sendE1 HF.out)
                  go_region_held3 (fun W => W.cell? ⟨g, 1, none⟩ = some (.pointer (some ⟨l1, 0, none⟩)) ∧ W.cell? ⟨ab, 3, none⟩ = some (.string ⟨#[]⟩)) (first | exact ⟨r1, r2⟩ | go_keep) (first
                    | (go_at_call 14; refine (CS.out).mono ?_; rintro e u0 ⟨rfl, hu0⟩; have P3 := Lib.hid hu0; have r1 : u0.cell? ⟨g, 1, none⟩ = some (.pointer (some ⟨l1, 0, none⟩)) := hu0.en.blk.cell 1; have r2 : u0.cell? ⟨ab, 3, none⟩ = some (.string ⟨#[]⟩) := HDE.out ▸ hu0.box.cell 3; clear hu0))
                  all_goals
                    go_wp2_with fail
                    go_meet
                    exact ⟨rfl, P3.out⟩
                case rest =>
                obtain ⟨rfl, hP3⟩ := hcut
                have P3 := Lib.hid hP3
                obtain ⟨V3, rfl⟩ : ∃ V : World, V = wc := ⟨_, rfl⟩
                clear hP3 q1 q2 P2
                have z0 : V3.cell? ⟨g, 10, none⟩ = some (.string L.key) := P3.out.en.blk.cell 10
                have z1 : V3.cell? ⟨g, 11, none⟩ = some (.int .i64 L.side) := P3.out.en.blk.cell 11
                have z2 : V3.cell? ⟨g, 12, none⟩ = some (.string L.left) := P3.out.en.blk.cell 12
                have z3 : V3.cell? ⟨g, 13, none⟩ = some (.int .i64 L.sent) := P3.out.en.blk.cell 13
                have z4 : V3.cell? ⟨g, 14, none⟩ = some (.int .i64 L.taken) := P3.out.en.blk.cell 14
                have z5 : V3.cell? ⟨g, 15, none⟩ = some (.bool L.fin) := P3.out.en.blk.cell 15
                have zd : V3.cell? ⟨ab, 3, none⟩ = some (.string x.data) := P3.out.box.cell 3
                go_upto_region 23 with fail
                go_cut [12, 13] (fun c d wx => c = .string OB ∧ d = .int .i64 (cn : Nat) ∧ Pb w g l0 l1 w0 w1 Lo L Xo ⟨⟨#[]⟩, 0, 36, X.come, X.err⟩ Lo L yo yi ab x (x.n) wx)
                case first =>
                  go_region_held3 (fun W => W.cell? ⟨g, 10, none⟩ = some (.string L.key) ∧ W.cell? ⟨g, 11, none⟩ = some (.int .i64 L.side) ∧ W.cell? ⟨g, 12, none⟩ = some (.string L.left) ∧ W.cell? ⟨g, 13, none⟩ = some (.int .i64 L.sent) ∧ W.cell? ⟨g, 14, none⟩ = some (.int .i64 L.taken) ∧ W.cell? ⟨g, 15, none⟩ = some (.bool L.fin) ∧ W.cell? ⟨ab, 3, none⟩ = some (.string x.data)) (first | exact ⟨r0, r1, r2, r3, r4, r5, r9⟩ | go_keep) (first
                    | (go_at_call 22; refine (CQ.out _).mono ?_; rintro e u0 ⟨rfl, hu0⟩; have P4 := Lib.hid (P3.out.drew.later hu0); have r0 : u0.cell? ⟨g, 10, none⟩ = some (.string L.key) := P4.out.en.blk.cell 10; have r1 : u0.cell? ⟨g, 11, none⟩ = some (.int .i64 L.side) := P4.out.en.blk.cell 11; have r2 : u0.cell? ⟨g, 12, none⟩ = some (.string L.left) := P4.out.en.blk.cell 12; have r3 : u0.cell? ⟨g, 13, none⟩ = some (.int .i64 L.sent) := P4.out.en.blk.cell 13; have r4 : u0.cell? ⟨g, 14, none⟩ = some (.int .i64 L.taken) := P4.out.en.blk.cell 14; have r5 : u0.cell? ⟨g, 15, none⟩ = some (.bool L.fin) := P4.out.en.blk.cell 15; have r9 : u0.cell? ⟨ab, 3, none⟩ = some (.string x.data) := P4.out.box.cell 3; clear hu0))
                  all_goals
                    go_wp2_with fail
                    go_meet
                    exact ⟨rfl, rfl, P4.out⟩
                case rest =>
                obtain ⟨rfl, rfl, hP4⟩ := hcut
                have P4 := Lib.hid hP4
                obtain ⟨V4, rfl⟩ : ∃ V : World, V = wc := ⟨_, rfl⟩
                clear hP4 z0 z1 z2 z3 z4 z5 zd P3
                have t5 : V4.cell? ⟨g, 15, none⟩ = some (.bool false) := by rw [← HF.out]; exact P4.out.en.blk.cell 15
                have t3 : V4.cell? ⟨g, 13, none⟩ = some (.int .i64 (s0 : Nat)) := by rw [← HL.out.sent]; exact P4.out.en.blk.cell 13
                have f3 := P4.out.en.blk.frozen 13
                have b0 : V4.cell? ⟨ab, 0, none⟩ = some (.int .i64 3) := by rw [← hkd]; exact P4.out.box.cell 0
                have x0 : V4.cell? ⟨w1, 0, none⟩ = some (.string ⟨#[]⟩) := P4.out.en.x1.cell 0
                have x1 : V4.cell? ⟨w1, 1, none⟩ = some (.int .i64 0) := P4.out.en.x1.cell 1
                have hcn0 : cn = 0 := by rw [HCN.out, HDE.out]; rfl
                have hOe : OB = ⟨#[]⟩ := by rw [HOB.out, HDE.out]; rfl
                subst hcn0
                subst hOe
                go_upto_region 32 with fail
                obtain ⟨V5, hV5⟩ : ∃ V5, V5 = V4.setCell ⟨g, 13, none⟩ (.int .i64 (s0 : Nat)) := ⟨_, rfl⟩
                have P5 : Hid (Pb w g l0 l1 w0 w1 Lo L Xo ⟨⟨#[]⟩, 0, 36, X.come, X.err⟩ Lo L yo yi ab x (x.n) V5) := by rw [hV5]; have := P4.out.rst1 (s0 : Nat); rw [← HL.out.sent] at this ⊢; exact Lib.hid this
                rw [← hV5]
                clear hV5 t5 t3 f3 b0 x0 x1 P4
                have ty : V5.cell? ⟨g, 16, none⟩ = some (.string yo) := P5.out.en.blk.cell 16
                have fy := P5.out.en.blk.frozen 16
                have c1 : ¬ 9223372036854775807 < yo.size + (⟨#[]⟩ : ByteArray).size := by show ¬ 9223372036854775807 < yo.size + 0; omega
                go_region
                all_goals
                  obtain ⟨V6, hV6⟩ : ∃ V6, V6 = (V5.setCell ⟨g, 16, none⟩ (.string (yo ++ ⟨#[]⟩))).drew := ⟨_, rfl⟩
                  have P6 : Hid (Pb w g l0 l1 w0 w1 Lo L Xo ⟨⟨#[]⟩, 0, 36, X.come, X.err⟩ Lo L (yo ++ ⟨#[]⟩) yi ab x (x.n) V6) := by rw [hV6]; exact Lib.hid (P5.out.yst0 _).drew
                  rw [← hV6]
                  clear hV6 ty fy P5
                  go_wp2_with (first
                    | (go_at_call 23; (with_reducible refine ((P6.out.agree0)).mono ?_); rintro e u1 ⟨rfl, hu1⟩; have A1 := Lib.hid hu1; clear hu1)
                    | (go_at_call 23; (with_reducible refine ((A1.out.agree1)).mono ?_); rintro e u2 ⟨rfl, hu2⟩; have A2 := Lib.hid hu2; clear hu2))
                  go_roundg (gk - 1)
                  case measure => omega
                  case rel =>
                    refine ⟨m + 1, by omega, by go_num, ?_⟩
                    have e2 : (yo ++ ⟨#[]⟩ : ByteArray).size = yo.size := by rw [ByteArray.size_append]; rfl
                    have e4 := HN.out
                    exact ⟨Lo, L, Xo, _, (yo ++ ⟨#[]⟩), yi, no, ni, so, s0, HO.out, HL.out, by omega, by omega, by omega, by omega, A2.out.en, A2.out.below⟩
            · skip
              as_aux_lemma =>
                have HF := Lib.hid hfin
                clear hfin
                have HD0 := Lib.hid hd0
                clear hd0
                have b0 : V1.cell? ⟨ab, 0, none⟩ = some (.int .i64 3) := by rw [← hkd]; exact P1.out.box.cell 0
                have b3 : V1.cell? ⟨ab, 3, none⟩ = some (.string x.data) := P1.out.box.cell 3
                have x0 : V1.cell? ⟨w1, 0, none⟩ = some (.string X.sent) := P1.out.en.x1.cell 0
                have f0 := P1.out.en.x1.frozen 0
                have x1 : V1.cell? ⟨w1, 1, none⟩ = some (.int .i64 X.sends) := P1.out.en.x1.cell 1
                have f1 := P1.out.en.x1.frozen 1
                have x2 : V1.cell? ⟨w1, 2, none⟩ = some (.int .i64 X.refuse) := P1.out.en.x1.cell 2
                have f2 := P1.out.en.x1.frozen 2
                have hwab : w1 ≠ ab := by have := P1.out.en.o2; have := P1.out.en.o1; have := P1.out.en.o3; have := P1.out.lt; omega
                have hwab' : ab ≠ w1 := hwab.symm
                go_upto_region 22 with fail
                obtain ⟨V2, hV2⟩ : ∃ V2, V2 = ((((V1.setCell ⟨w1, 2, none⟩ (.int .i64 0)).setCell ⟨w1, 2, none⟩ (.int .i64 36)).setCell ⟨w1, 0, none⟩ (.string ⟨#[]⟩)).setCell ⟨w1, 1, none⟩ (.int .i64 0)) := ⟨_, rfl⟩
                have P2 : Hid (Pb w g l0 l1 w0 w1 Lo L Xo ⟨⟨#[]⟩, 0, 36, X.come, X.err⟩ Lo L yo yi ab x (x.n) V2) := by rw [hV2]; exact Lib.hid ((((P1.out.wst1 2 (.int .i64 0) (X' := ⟨X.sent, X.sends, 0, X.come, X.err⟩) rfl).wst1 2 (.int .i64 36) (X' := ⟨X.sent, X.sends, 36, X.come, X.err⟩) rfl).wst1 0 (.string ⟨#[]⟩) (X' := ⟨⟨#[]⟩, X.sends, 36, X.come, X.err⟩) rfl).wst1 1 (.int .i64 0) (X' := ⟨⟨#[]⟩, 0, 36, X.come, X.err⟩) rfl)
                rw [← hV2]
                clear hV2 b0 b3 x0 x1 x2 f0 f1 f2
                have q1 : V2.cell? ⟨g, 1, none⟩ = some (.pointer (some ⟨l1, 0, none⟩)) := P2.out.en.blk.cell 1
                have q2 : V2.cell? ⟨ab, 3, none⟩ = some (.string x.data) := P2.out.box.cell 3
                go_cut [11] (fun c wx => c = .int .i64 36 ∧ Pb w g l0 l1 w0 w1 Lo L Xo ⟨⟨#[]⟩, 0, 36, X.come, X.err⟩ Lo L yo yi ab x (x.n) wx)
                case first =>
                  have CS := Lib.hid (P2.out.drew.sendR1 HF.out HL.out hs1M (by show (36 : Int) ≠ 0; decide) x.data hdata HD0.out HT.out)
                  go_region_held3 (fun W => W.cell? ⟨g, 1, none⟩ = some (.pointer (some ⟨l1, 0, none⟩)) ∧ W.cell? ⟨ab, 3, none⟩ = some (.string x.data)) (first | exact ⟨r1, r2⟩ | go_keep) (first
                    | (go_at_call 14; refine (CS.out).mono ?_; rintro e u0 ⟨rfl, hu0⟩; have P3 := Lib.hid hu0; have r1 : u0.cell? ⟨g, 1, none⟩ = some (.pointer (some ⟨l1, 0, none⟩)) := hu0.en.blk.cell 1; have r2 : u0.cell? ⟨ab, 3, none⟩ = some (.string x.data) := hu0.box.cell 3; clear hu0))
                  all_goals
                    go_wp2_with fail
                    go_meet
                    exact ⟨rfl, P3.out⟩
                case rest =>
                obtain ⟨rfl, hP3⟩ := hcut
                have P3 := Lib.hid hP3
                obtain ⟨V3, rfl⟩ : ∃ V : World, V = wc := ⟨_, rfl⟩
                clear hP3 q1 q2 P2
                have z0 : V3.cell? ⟨g, 10, none⟩ = some (.string L.key) := P3.out.en.blk.cell 10
                have z1 : V3.cell? ⟨g, 11, none⟩ = some (.int .i64 L.side) := P3.out.en.blk.cell 11
                have z2 : V3.cell? ⟨g, 12, none⟩ = some (.string L.left) := P3.out.en.blk.cell 12
                have z3 : V3.cell? ⟨g, 13, none⟩ = some (.int .i64 L.sent) := P3.out.en.blk.cell 13
                have z4 : V3.cell? ⟨g, 14, none⟩ = some (.int .i64 L.taken) := P3.out.en.blk.cell 14
                have z5 : V3.cell? ⟨g, 15, none⟩ = some (.bool L.fin) := P3.out.en.blk.cell 15
                have zd : V3.cell? ⟨ab, 3, none⟩ = some (.string x.data) := P3.out.box.cell 3
                go_upto_region 23 with fail
                go_cut [12, 13] (fun c d wx => c = .string OB ∧ d = .int .i64 (cn : Nat) ∧ Pb w g l0 l1 w0 w1 Lo L Xo ⟨⟨#[]⟩, 0, 36, X.come, X.err⟩ Lo L yo yi ab x (x.n) wx)
                case first =>
                  go_region_held3 (fun W => W.cell? ⟨g, 10, none⟩ = some (.string L.key) ∧ W.cell? ⟨g, 11, none⟩ = some (.int .i64 L.side) ∧ W.cell? ⟨g, 12, none⟩ = some (.string L.left) ∧ W.cell? ⟨g, 13, none⟩ = some (.int .i64 L.sent) ∧ W.cell? ⟨g, 14, none⟩ = some (.int .i64 L.taken) ∧ W.cell? ⟨g, 15, none⟩ = some (.bool L.fin) ∧ W.cell? ⟨ab, 3, none⟩ = some (.string x.data)) (first | exact ⟨r0, r1, r2, r3, r4, r5, r9⟩ | go_keep) (first
                    | (go_at_call 22; refine (CQ.out _).mono ?_; rintro e u0 ⟨rfl, hu0⟩; have P4 := Lib.hid (P3.out.drew.later hu0); have r0 : u0.cell? ⟨g, 10, none⟩ = some (.string L.key) := P4.out.en.blk.cell 10; have r1 : u0.cell? ⟨g, 11, none⟩ = some (.int .i64 L.side) := P4.out.en.blk.cell 11; have r2 : u0.cell? ⟨g, 12, none⟩ = some (.string L.left) := P4.out.en.blk.cell 12; have r3 : u0.cell? ⟨g, 13, none⟩ = some (.int .i64 L.sent) := P4.out.en.blk.cell 13; have r4 : u0.cell? ⟨g, 14, none⟩ = some (.int .i64 L.taken) := P4.out.en.blk.cell 14; have r5 : u0.cell? ⟨g, 15, none⟩ = some (.bool L.fin) := P4.out.en.blk.cell 15; have r9 : u0.cell? ⟨ab, 3, none⟩ = some (.string x.data) := P4.out.box.cell 3; clear hu0))
                  all_goals
                    go_wp2_with fail
                    go_meet
                    exact ⟨rfl, rfl, P4.out⟩
                case rest =>
                obtain ⟨rfl, rfl, hP4⟩ := hcut
                have P4 := Lib.hid hP4
                obtain ⟨V4, rfl⟩ : ∃ V : World, V = wc := ⟨_, rfl⟩
                clear hP4 z0 z1 z2 z3 z4 z5 zd P3
                have t5 : V4.cell? ⟨g, 15, none⟩ = some (.bool false) := by rw [← HF.out]; exact P4.out.en.blk.cell 15
                have t3 : V4.cell? ⟨g, 13, none⟩ = some (.int .i64 (s0 : Nat)) := by rw [← HL.out.sent]; exact P4.out.en.blk.cell 13
                have f3 := P4.out.en.blk.frozen 13
                have b0 : V4.cell? ⟨ab, 0, none⟩ = some (.int .i64 3) := by rw [← hkd]; exact P4.out.box.cell 0
                have x0 : V4.cell? ⟨w1, 0, none⟩ = some (.string ⟨#[]⟩) := P4.out.en.x1.cell 0
                have x1 : V4.cell? ⟨w1, 1, none⟩ = some (.int .i64 0) := P4.out.en.x1.cell 1
                have cn1 : 0 < cn := by rw [HCN.out]; have := HD0.out; unfold cntL; omega
                have cn2 : (0 : Int) < (cn : Int) := by omega
                have cn3 : min (cn : Int) 1 = 1 := by omega
                go_upto_region 32 with fail
                obtain ⟨V5, hV5⟩ : ∃ V5, V5 = V4.setCell ⟨g, 13, none⟩ (.int .i64 (s0 : Nat)) := ⟨_, rfl⟩
                have P5 : Hid (Pb w g l0 l1 w0 w1 Lo L Xo ⟨⟨#[]⟩, 0, 36, X.come, X.err⟩ Lo L yo yi ab x (x.n) V5) := by rw [hV5]; have := P4.out.rst1 (s0 : Nat); rw [← HL.out.sent] at this ⊢; exact Lib.hid this
                rw [← hV5]
                clear hV5 t5 t3 f3 b0 x0 x1 P4
                have ty : V5.cell? ⟨g, 16, none⟩ = some (.string yo) := P5.out.en.blk.cell 16
                have fy := P5.out.en.blk.frozen 16
                have c1 : ¬ 9223372036854775807 < yo.size + (⟨#[]⟩ : ByteArray).size := by show ¬ 9223372036854775807 < yo.size + 0; omega
                go_region
                all_goals
                  obtain ⟨V6, hV6⟩ : ∃ V6, V6 = (V5.setCell ⟨g, 16, none⟩ (.string (yo ++ ⟨#[]⟩))).drew := ⟨_, rfl⟩
                  have P6 : Hid (Pb w g l0 l1 w0 w1 Lo L Xo ⟨⟨#[]⟩, 0, 36, X.come, X.err⟩ Lo L (yo ++ ⟨#[]⟩) yi ab x (x.n) V6) := by rw [hV6]; exact Lib.hid (P5.out.yst0 _).drew
                  rw [← hV6]
                  clear hV6 ty fy P5
                  go_wp2_with (first
                    | (go_at_call 23; (with_reducible refine ((P6.out.agree0)).mono ?_); rintro e u1 ⟨rfl, hu1⟩; have A1 := Lib.hid hu1; clear hu1)
                    | (go_at_call 23; (with_reducible refine ((A1.out.agree1)).mono ?_); rintro e u2 ⟨rfl, hu2⟩; have A2 := Lib.hid hu2; clear hu2))
                  go_roundg (gk - 1)
                  case measure => omega
                  case rel =>
                    refine ⟨m + 1, by omega, by go_num, ?_⟩
                    have e2 : (yo ++ ⟨#[]⟩ : ByteArray).size = yo.size := by rw [ByteArray.size_append]; rfl
                    have e4 := HN.out
                    exact ⟨Lo, L, Xo, _, (yo ++ ⟨#[]⟩), yi, no, ni, so, s0, HO.out, HL.out, by omega, by omega, by omega, by omega, A2.out.en, A2.out.below⟩
        by_cases h1 : x.kind = 1
        · have hkd := h1
          clear h1
          as_aux_lemma =>
            have b0 : V1.cell? ⟨ab, 0, none⟩ = some (.int .i64 1) := by rw [← hkd]; exact P1.out.box.cell 0
            have b2 : V1.cell? ⟨ab, 2, none⟩ = some (.int .i64 x.n) := P1.out.box.cell 2
            have b4 : V1.cell? ⟨ab, 4, none⟩ = some (.int .i64 x.at_) := P1.out.box.cell 4
            have b5 : V1.cell? ⟨ab, 5, none⟩ = some (.int .u8 (x.by_.toNat : Nat)) := P1.out.box.cell 5
            have fb := P1.out.box.frozen 2
            have P2 := P1
            obtain ⟨D, hD⟩ : ∃ D, D = takR L x.n x.at_ x.by_ 0 yi := ⟨_, rfl⟩
            have CV := Lib.hid (P2.out.recv1 HL.out (by have := HN.out; omega) x.n 0 hB2 HT.out)
            rw [← hD] at CV
            have HD := Lib.hid hD
            clear hD
            go_upto_region 42 with (go_at_call 17; refine (CV.out).mono ?_; rintro e u0 ⟨rfl, hu0⟩; have P6 := Lib.hid hu0; clear hu0)
            go_wp2_with (first
              | (go_at_call 23; (with_reducible refine ((P6.out.agree0)).mono ?_); rintro e u1 ⟨rfl, hu1⟩; have A1 := Lib.hid hu1; clear hu1)
              | (go_at_call 23; (with_reducible refine ((A1.out.agree1)).mono ?_); rintro e u2 ⟨rfl, hu2⟩; have A2 := Lib.hid hu2; clear hu2))
            go_roundg (gk - 1)
            case measure => omega
            case rel =>
              refine ⟨m + 1, by omega, by go_num, ?_⟩
              obtain ⟨n1, hl1, hf1, _, _⟩ := recvR_few HL.out (comeB x.n x.at_ x.by_ yi) (errR x.n 0 yi)
              have e1 : (recvR L (comeB x.n x.at_ x.by_ yi) (errR x.n 0 yi)) = D := HD.out.symm
              rw [e1] at hl1 hf1
              rw [come_size] at hf1
              have e2 := cut_le x.n yi
              have e3 : (yi.extract (cutN x.n yi) yi.size).size = yi.size - cutN x.n yi := by rw [ByteArray.size_extract]; omega
              have e4 := HN.out
              exact ⟨Lo, D.2, Xo, _, yo, (yi.extract (cutN x.n yi) yi.size), no, n1, so, s0, HO.out, hl1, by omega, by omega, by omega, by omega, A2.out.en, A2.out.below⟩
        by_cases h2 : x.kind = 2
        · have hkd := h2
          clear h2
          as_aux_lemma =>
            have b0 : V1.cell? ⟨ab, 0, none⟩ = some (.int .i64 2) := by rw [← hkd]; exact P1.out.box.cell 0
            have b2 : V1.cell? ⟨ab, 2, none⟩ = some (.int .i64 x.n) := P1.out.box.cell 2
            have b4 : V1.cell? ⟨ab, 4, none⟩ = some (.int .i64 x.at_) := P1.out.box.cell 4
            have b5 : V1.cell? ⟨ab, 5, none⟩ = some (.int .u8 (x.by_.toNat : Nat)) := P1.out.box.cell 5
            have fb := P1.out.box.frozen 2
            by_cases hn0 : x.n ≤ 0
            · skip
              have hmx : max x.n 0 = 0 := by omega
              have hmn : min (max x.n 0) 1 = 0 := by omega
              have hmp : min (0 : Int) 1 = 0 := by decide
              have PA := Lib.hid (P1.out.later (wr' := (V1.alloc (.cells #[.int .i64 28, .int .i64 24] 26))) ((Below.refl _ _).alloc (Nat.le_refl _) _))
              have b2a : (V1.alloc (.cells #[.int .i64 28, .int .i64 24] 26)).cell? ⟨ab, 2, none⟩ = some (.int .i64 x.n) := PA.out.box.cell 2
              have e0 : (V1.alloc (.cells #[.int .i64 28, .int .i64 24] 26)).cell? ⟨V1.heap.size, 0, none⟩ = some (.int .i64 28) := (Blk.new V1 26 [_, _]).cell 0
              have e1 : (V1.alloc (.cells #[.int .i64 28, .int .i64 24] 26)).cell? ⟨V1.heap.size, 1, none⟩ = some (.int .i64 24) := (Blk.new V1 26 [_, _]).cell 1
              have fba := PA.out.box.frozen 2
              have b0a : (V1.alloc (.cells #[.int .i64 28, .int .i64 24] 26)).cell? ⟨ab, 0, none⟩ = some (.int .i64 2) := by rw [← hkd]; exact PA.out.box.cell 0
              go_upto_region 39 with fail
              obtain ⟨V2, hV2⟩ : ∃ V2, V2 = (V1.alloc (.cells #[.int .i64 28, .int .i64 24] 26)).setCell ⟨ab, 2, none⟩ (.int .i64 0) := ⟨_, rfl⟩
              have P2 : Hid (Pb w g l0 l1 w0 w1 Lo L Xo X Lo L yo yi ab x (0) V2) := by rw [hV2]; exact Lib.hid ((P1.out.later ((Below.refl _ _).alloc (Nat.le_refl _) _)).nst 0)
              rw [← hV2]
              clear hV2 b0 b2 b4 b5 fb hmx hmn P1 PA b2a fba b0a e0 e1 hmp
              have b2 : V2.cell? ⟨ab, 2, none⟩ = some (.int .i64 0) := P2.out.box.cell 2
              have b4 : V2.cell? ⟨ab, 4, none⟩ = some (.int .i64 x.at_) := P2.out.box.cell 4
              have b5 : V2.cell? ⟨ab, 5, none⟩ = some (.int .u8 (x.by_.toNat : Nat)) := P2.out.box.cell 5
              obtain ⟨D, hD⟩ : ∃ D, D = takR L 0 x.at_ x.by_ 28 yi := ⟨_, rfl⟩
              have CV := Lib.hid (P2.out.recv1 HL.out (by have := HN.out; omega) 0 28 hB2 HT.out)
              rw [← hD] at CV
              have HD := Lib.hid hD
              clear hD
              go_upto_region 42 with (go_at_call 17; refine (CV.out).mono ?_; rintro e u0 ⟨rfl, hu0⟩; have P6 := Lib.hid hu0; clear hu0)
              go_wp2_with (first
                | (go_at_call 23; (with_reducible refine ((P6.out.agree0)).mono ?_); rintro e u1 ⟨rfl, hu1⟩; have A1 := Lib.hid hu1; clear hu1)
                | (go_at_call 23; (with_reducible refine ((A1.out.agree1)).mono ?_); rintro e u2 ⟨rfl, hu2⟩; have A2 := Lib.hid hu2; clear hu2))
              go_roundg (gk - 1)
              case measure => omega
              case rel =>
                refine ⟨m + 1, by omega, by go_num, ?_⟩
                obtain ⟨n1, hl1, hf1, _, _⟩ := recvR_few HL.out (comeB 0 x.at_ x.by_ yi) (errR 0 28 yi)
                have e1 : (recvR L (comeB 0 x.at_ x.by_ yi) (errR 0 28 yi)) = D := HD.out.symm
                rw [e1] at hl1 hf1
                rw [come_size] at hf1
                have e2 := cut_le 0 yi
                have e3 : (yi.extract (cutN 0 yi) yi.size).size = yi.size - cutN 0 yi := by rw [ByteArray.size_extract]; omega
                have e4 := HN.out
                exact ⟨Lo, D.2, Xo, _, yo, (yi.extract (cutN 0 yi) yi.size), no, n1, so, s0, HO.out, hl1, by omega, by omega, by omega, by omega, A2.out.en, A2.out.below⟩
            · skip
              have hmx : max x.n 0 = x.n := by omega
              have hmn : min x.n 1 = 1 := by omega
              have hmq : min (max x.n 0) 1 = 1 := by omega
              have hmp : min (0 : Int) 1 = 0 := by decide
              have PA := Lib.hid (P1.out.later (wr' := (V1.alloc (.cells #[.int .i64 28, .int .i64 24] 26))) ((Below.refl _ _).alloc (Nat.le_refl _) _))
              have b2a : (V1.alloc (.cells #[.int .i64 28, .int .i64 24] 26)).cell? ⟨ab, 2, none⟩ = some (.int .i64 x.n) := PA.out.box.cell 2
              have e0 : (V1.alloc (.cells #[.int .i64 28, .int .i64 24] 26)).cell? ⟨V1.heap.size, 0, none⟩ = some (.int .i64 28) := (Blk.new V1 26 [_, _]).cell 0
              have e1 : (V1.alloc (.cells #[.int .i64 28, .int .i64 24] 26)).cell? ⟨V1.heap.size, 1, none⟩ = some (.int .i64 24) := (Blk.new V1 26 [_, _]).cell 1
              have fba := PA.out.box.frozen 2
              have b0a : (V1.alloc (.cells #[.int .i64 28, .int .i64 24] 26)).cell? ⟨ab, 0, none⟩ = some (.int .i64 2) := by rw [← hkd]; exact PA.out.box.cell 0
              go_upto_region 39 with fail
              obtain ⟨V2, hV2⟩ : ∃ V2, V2 = (V1.alloc (.cells #[.int .i64 28, .int .i64 24] 26)).setCell ⟨ab, 2, none⟩ (.int .i64 0) := ⟨_, rfl⟩
              have P2 : Hid (Pb w g l0 l1 w0 w1 Lo L Xo X Lo L yo yi ab x (0) V2) := by rw [hV2]; exact Lib.hid ((P1.out.later ((Below.refl _ _).alloc (Nat.le_refl _) _)).nst 0)
              rw [← hV2]
              clear hV2 b0 b2 b4 b5 fb hmx hmn P1 PA b2a fba b0a e0 e1 hmp
              have b2 : V2.cell? ⟨ab, 2, none⟩ = some (.int .i64 0) := P2.out.box.cell 2
              have b4 : V2.cell? ⟨ab, 4, none⟩ = some (.int .i64 x.at_) := P2.out.box.cell 4
              have b5 : V2.cell? ⟨ab, 5, none⟩ = some (.int .u8 (x.by_.toNat : Nat)) := P2.out.box.cell 5
              obtain ⟨D, hD⟩ : ∃ D, D = takR L 0 x.at_ x.by_ 24 yi := ⟨_, rfl⟩
              have CV := Lib.hid (P2.out.recv1 HL.out (by have := HN.out; omega) 0 24 hB2 HT.out)
              rw [← hD] at CV
              have HD := Lib.hid hD
              clear hD
              go_upto_region 42 with (go_at_call 17; refine (CV.out).mono ?_; rintro e u0 ⟨rfl, hu0⟩; have P6 := Lib.hid hu0; clear hu0)
              go_wp2_with (first
                | (go_at_call 23; (with_reducible refine ((P6.out.agree0)).mono ?_); rintro e u1 ⟨rfl, hu1⟩; have A1 := Lib.hid hu1; clear hu1)
                | (go_at_call 23; (with_reducible refine ((A1.out.agree1)).mono ?_); rintro e u2 ⟨rfl, hu2⟩; have A2 := Lib.hid hu2; clear hu2))
              go_roundg (gk - 1)
              case measure => omega
              case rel =>
                refine ⟨m + 1, by omega, by go_num, ?_⟩
                obtain ⟨n1, hl1, hf1, _, _⟩ := recvR_few HL.out (comeB 0 x.at_ x.by_ yi) (errR 0 24 yi)
                have e1 : (recvR L (comeB 0 x.at_ x.by_ yi) (errR 0 24 yi)) = D := HD.out.symm
                rw [e1] at hl1 hf1
                rw [come_size] at hf1
                have e2 := cut_le 0 yi
                have e3 : (yi.extract (cutN 0 yi) yi.size).size = yi.size - cutN 0 yi := by rw [ByteArray.size_extract]; omega
                have e4 := HN.out
                exact ⟨Lo, D.2, Xo, _, yo, (yi.extract (cutN 0 yi) yi.size), no, n1, so, s0, HO.out, hl1, by omega, by omega, by omega, by omega, A2.out.en, A2.out.below⟩
        · skip
          as_aux_lemma =>
            have b0 : V1.cell? ⟨ab, 0, none⟩ = some (.int .i64 x.kind) := P1.out.box.cell 0
            have k0 : (x.kind == 0) = false := by rw [beq_eq_false_iff_ne]; exact h0
            have k3 : (x.kind == 3) = false := by rw [beq_eq_false_iff_ne]; exact h3
            have k1 : (x.kind == 1) = false := by rw [beq_eq_false_iff_ne]; exact h1
            have k2 : (x.kind == 2) = false := by rw [beq_eq_false_iff_ne]; exact h2
            clear h0 h3 h1 h2
            go_upto_region 42 with fail
            go_wp2_with (first
              | (go_at_call 23; (with_reducible refine ((P1.out.agree0)).mono ?_); rintro e u1 ⟨rfl, hu1⟩; have A1 := Lib.hid hu1; clear hu1)
              | (go_at_call 23; (with_reducible refine ((A1.out.agree1)).mono ?_); rintro e u2 ⟨rfl, hu2⟩; have A2 := Lib.hid hu2; clear hu2))
            go_roundg (gk - 1)
            case measure => omega
            case rel =>
              refine ⟨m + 1, by omega, by go_num, ?_⟩
              have e4 := HN.out
              exact ⟨Lo, L, Xo, _, yo, yi, no, ni, so, s0, HO.out, HL.out, by omega, by omega, by omega, by omega, A2.out.en, A2.out.below⟩
    · obtain rfl : m = l.length := by omega
      clear hlt
      go_wp2_with fail
      go_ret
      exact ⟨rfl, HB.out⟩
end Go.Proofs.YtmblnacckboggaaDoor
