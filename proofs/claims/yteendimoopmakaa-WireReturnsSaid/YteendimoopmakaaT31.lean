/- The reference's ReadBits gives the same error, place and bools as the reader's Bits. For a place that lies in the string. -/
import Derived.Test.YteendimoopmakaaT30
namespace Go.Proofs.Yteendimoopmakaa
open Go.RowKit

theorem bit_eq : ∀ c : Fin 256, ∀ t : Fin 8, (c.val / 2 ^ (7 - t.val) &&& 1 == 1) = (c.val * 2 ^ t.val % 256 &&& 128 != 0) := by decide +kernel
theorem bitR {q : ByteArray} {i : Nat} (h : i / 8 < q.size) : (bits .and .u8 (((q[i / 8]'h).toNat : Int) / 2 ^ (7 - i % 8)) 1 == 1) = bitAt q i := by
  have hb := (q[i / 8]'h).toNat_lt
  rw [← bitAt_at h]
  generalize (q[i / 8]'h).toNat = c at *
  have e := bit_eq ⟨c, hb⟩ ⟨i % 8, Nat.mod_lt _ (by omega)⟩
  dsimp only at e
  have d0 : 0 ≤ (c : Int) / 2 ^ (7 - i % 8) := Int.ediv_nonneg (by omega) (by exact_mod_cast Nat.zero_le _)
  have d1 : (c : Int) / 2 ^ (7 - i % 8) = ((c / 2 ^ (7 - i % 8) : Nat) : Int) := by simp
  have d2 : c / 2 ^ (7 - i % 8) ≤ c := Nat.div_le_self _ _
  have m1 : (c : Int) * 2 ^ (i % 8) % 256 = ((c * 2 ^ (i % 8) % 256 : Nat) : Int) := by simp
  have m2 : c * 2 ^ (i % 8) % 256 < 256 := Nat.mod_lt _ (by omega)
  rw [d1, m1, u8_and _ _ (by omega) (by omega) (by omega) (by omega), u8_and _ _ (by omega) (by omega) (by omega) (by omega), Int.toNat_natCast, Int.toNat_natCast]
  rw [show (1 : Int).toNat = 1 from rfl, show (128 : Int).toNat = 128 from rfl]
  generalize hx : c / 2 ^ (7 - i % 8) &&& 1 = x at *
  generalize hy : c * 2 ^ (i % 8) % 256 &&& 128 = y at *
  have ex : ((x : Int) == 1) = (x == 1) := by rw [Bool.eq_iff_iff, beq_iff_eq, beq_iff_eq]; omega
  have ey : ((y : Int) != 0) = (y != 0) := by rw [Bool.eq_iff_iff, bne_iff_ne, bne_iff_ne]; omega
  rw [ex, ey, e]

/-- What the reference's reading of bools hands back. -/
def RefBits (w : World) (s : ByteArray) (k c : Int) (L : List Bool) (e : Ending) (w' : World) : Prop :=
  ∃ v, e = .returned (.tuple #[v, .agg #[.string s, .int .i64 k, .int .i64 c]]) ∧ (∃ b, w.heap.size ≤ b ∧ w'.ownsRow b 4 1 v L.length (bools L)) ∧ Below w.heap.size w w'
theorem refBits_nil {w w' : World} {s : ByteArray} {k c : Int} (hb : Below w.heap.size w w') : RefBits w s k c [] (.returned (.tuple #[.slice none 0 0, .agg #[.string s, .int .i64 k, .int .i64 c]])) w' :=
  ⟨_, rfl, ⟨w.heap.size, Nat.le_refl _, World.ownsRow_nil _ _ _ _⟩, hb⟩
/-- behind the loop: the result is stored -/
theorem refBits_end {w w1 wr : World} {s : ByteArray} {a c0 c k : Int} {L : List Bool} {v : Value} {b n : Nat} (hb : Below (two w s a c0).heap.size (two w s a c0) wr) (hB : w.heap.size + 2 ≤ b) (hn : L.length = n) (hown : wr.ownsRow b 4 1 v n (bools L))
    (hw1 : w1 = ((wr.setCell ⟨w.heap.size + 1, 0, none⟩ (.string s)).setCell ⟨w.heap.size + 1, 1, none⟩ (.int .i64 k)).setCell ⟨w.heap.size + 1, 2, none⟩ (.int .i64 c)) :
    RefBits w s k c L (.returned (.tuple #[v, .agg #[.string s, .int .i64 k, .int .i64 c]])) w1.drew := by
  subst hw1 hn
  have hne : ∀ i, v.ownBlock ≠ some (⟨w.heap.size + 1, i, none⟩ : Addr).block := by
    intro i e
    have := (hown.lt _ e).1
    simp at this
    omega
  refine ⟨v, rfl, ⟨b, by omega, ?_⟩, (fin_below hb _ _ _).drew⟩
  exact own_below (own_set (own_set (own_set hown (hne 0) _) (hne 1) _) (hne 2) _) (Below.refl _ _).drew


set_option maxRecDepth 100000 in
set_option maxHeartbeats 3200000 in
theorem rBits_err (s : ByteArray) (a : Nat) (most c0 c : Int) (n k : Nat) (w : World) (hN : ∀ W, Calls Try.prog 54 #[.agg #[.string s, .int .i64 a, .int .i64 c0], .int .i64 (min most 65536)] W (RefGot W s (.int .i64 n) k c)) (hc : c ≠ 0) :
    Calls Try.prog 53 #[.agg #[.string s, .int .i64 a, .int .i64 c0], .int .i64 most] w (RefBits w s k c []) := by
  have hmin : (if 65536 < most then 65536 else most) = min most 65536 := by omega
  generalize min most 65536 = mm at *
  have hne : (c != 0) = true := by rw [bne_iff_ne]; exact hc
  clear hc
  have HN := Lib.hid hN
  clear hN
  go_enter Try.func53, Try.ntmps53
  go_wp2_with (go_at_call 54; (try rw [hmin]); refine (HN.out _).mono ?_; rintro e w1 ⟨rfl, hb1⟩; obtain ⟨hc1, hf1⟩ := bcell hb1; have hz : w.heap.size + 1 < w1.heap.size := (by have := hb1.size; simp at this; omega); have hz0 : w.heap.size < w1.heap.size := (by omega))
  go_region
  go_wp2
  exact bodyPost_ret (rr_res2 rfl _ _ (w.heap.size + 1) s k c _ rfl rfl (blk_drew ((fin_blk hb1 _ _).alloc _))) rfl (refBits_nil (fin_below2 hb1 _ _ _ _))

set_option maxRecDepth 100000 in
set_option maxHeartbeats 3200000 in
theorem rBits_short (s : ByteArray) (a : Nat) (most c0 c : Int) (n k : Nat) (w : World) (hN : ∀ W, Calls Try.prog 54 #[.agg #[.string s, .int .i64 a, .int .i64 c0], .int .i64 (min most 65536)] W (RefGot W s (.int .i64 n) k c)) (hc : c = 0) (hk : k ≤ s.size) (hs : s.size ≤ 140737488351232) (hn : n ≤ 65536) (hfit : s.size < k + (n + 7) / 8) :
    Calls Try.prog 53 #[.agg #[.string s, .int .i64 a, .int .i64 c0], .int .i64 most] w (RefBits w s a 16 []) := by
  have hmin : (if 65536 < most then 65536 else most) = min most 65536 := by omega
  generalize min most 65536 = mm at *
  subst hc
  obtain ⟨m, hm⟩ : ∃ m, m = (n + 7) / 8 := ⟨_, rfl⟩
  have hdiv : ((n : Int) + 7) / 8 = (m : Int) := by omega
  have HT := Lib.hid (fun w' => rtake_end s k m w' hk hs (by omega))
  clear hm hk hs hfit
  have HN := Lib.hid hN
  clear hN
  go_enter Try.func53, Try.ntmps53
  go_wp2_with (first | (go_at_call 54; (try rw [hmin]); refine (HN.out _).mono ?_; rintro e w1 ⟨rfl, hb1⟩; obtain ⟨hc1, hf1⟩ := bcell hb1; have hz : w.heap.size + 1 < w1.heap.size := (by have := hb1.size; simp at this; omega); have hz0 : w.heap.size < w1.heap.size := (by omega)) | (go_at_call 80; refine (HT.out _).mono ?_; rintro e w2 ⟨rfl, hb2⟩; have hq2 := hb2.size; have hz2 : w1.heap.size < w2.heap.size := (by simp at hq2; omega); have hz3 : w.heap.size < w2.heap.size := (by omega); have hz4 : w.heap.size + 1 < w2.heap.size := (by omega); clear hc1 hf1 hq2 hdiv; have hb12 := bel_step hb1 (Nat.le_trans (Nat.le_refl _) hb1.size) hb2; obtain ⟨p0, p1, p2, _, _, _⟩ := cells3 (Blk.below (two_box w s a c0) hb12 (by simp only [World.size_alloc]; omega)); obtain ⟨q0, q1, q2, q3, q4, q5⟩ := cells3 (Blk.below (two_res w s a c0) hb12 (by simp only [World.size_alloc]; omega))) | (go_at_call 57; refine (stop_open s a c0 16 _).mono ?_; rintro e w3 ⟨rfl, hb3⟩; obtain ⟨hc3, hf3⟩ := bcell hb3))
  exact bodyPost_ret (rr_res2 rfl _ _ (w.heap.size + 1) s a 16 _ rfl rfl (stop_fin hb12 hb3 _ _)) rfl (refBits_nil (stop_below hb12 hb3 _ _ _))

set_option maxRecDepth 100000 in
set_option maxHeartbeats 3200000 in
theorem rBits_ok (s : ByteArray) (a : Nat) (most c0 c : Int) (n k : Nat) (w : World) (hN : ∀ W, Calls Try.prog 54 #[.agg #[.string s, .int .i64 a, .int .i64 c0], .int .i64 (min most 65536)] W (RefGot W s (.int .i64 n) k c)) (hc : c = 0) (hs : s.size ≤ 140737488351232) (hn : n ≤ 65536) (hfit : k + (n + 7) / 8 ≤ s.size) :
    Calls Try.prog 53 #[.agg #[.string s, .int .i64 a, .int .i64 c0], .int .i64 most] w (RefBits w s (if clean (s.extract k (k + (n + 7) / 8)) n = true then ((k + (n + 7) / 8 : Nat) : Int) else a) (if clean (s.extract k (k + (n + 7) / 8)) n = true then 0 else 2) (if clean (s.extract k (k + (n + 7) / 8)) n = true then bitsOf (s.extract k (k + (n + 7) / 8)) n else [])) := by
  obtain ⟨i0, hi, iz0, iz1, iz2⟩ := info_parts tinfo4
  have hmin : (if 65536 < most then 65536 else most) = min most 65536 := by omega
  generalize min most 65536 = mm at *
  subst hc
  obtain ⟨m, hm⟩ : ∃ m, m = (n + 7) / 8 := ⟨_, rfl⟩
  rw [← hm] at hfit ⊢
  have hdiv : ((n : Int) + 7) / 8 = (m : Int) := by omega
  have hm2 : m ≤ 8192 := by omega
  have HMN := Lib.hid hm
  have HT := Lib.hid (fun w' => rtake_ok s k m w' hfit hs)
  have hqs : (s.extract k (k + m)).size = m := by rw [ByteArray.size_extract]; omega
  clear hm
  generalize s.extract k (k + m) = q at *
  have HQ := Lib.hid hqs
  have hq0 : m ≤ q.size := by omega
  have hq1 : q.size ≤ m := by omega
  clear hqs hs hfit
  generalize hK0 : (if clean q n = true then ((k + m : Nat) : Int) else a) = RK
  generalize hC0 : (if clean q n = true then (0 : Int) else 2) = RC
  generalize hL0 : (if clean q n = true then bitsOf q n else []) = RL
  have HK0 := Lib.hid hK0
  have HC0 := Lib.hid hC0
  have HL0 := Lib.hid hL0
  clear hK0 hC0 hL0
  have HN := Lib.hid hN
  clear hN
  go_enter Try.func53, Try.ntmps53
  go_wp2_with (first | (go_at_call 54; (try rw [hmin]); refine (HN.out _).mono ?_; rintro e w1 ⟨rfl, hb1⟩; obtain ⟨hc1, hf1⟩ := bcell hb1; have hz : w.heap.size + 1 < w1.heap.size := (by have := hb1.size; simp at this; omega); have hz0 : w.heap.size < w1.heap.size := (by omega)) | (go_at_call 80; refine (HT.out _).mono ?_; rintro e w2 ⟨rfl, hb2⟩; have hq2 := hb2.size; have hz2 : w1.heap.size < w2.heap.size := (by simp at hq2; omega); have hz3 : w.heap.size < w2.heap.size := (by omega); have hz4 : w.heap.size + 1 < w2.heap.size := (by omega); clear hc1 hf1 hq2 hdiv; have hb12 := bel_step hb1 (Nat.le_trans (Nat.le_refl _) hb1.size) hb2; obtain ⟨p0, p1, p2, _, _, _⟩ := cells3 (Blk.below (two_box w s a c0) hb12 (by simp only [World.size_alloc]; omega)); obtain ⟨q0, q1, q2, q3, q4, q5⟩ := cells3 (Blk.below (two_res w s a c0) hb12 (by simp only [World.size_alloc]; omega))))
  obtain ⟨W2, hW2⟩ : ∃ W2 : World, W2 = (w2.alloc (.cells #[.string s, .int .i64 (↑k + ↑m), .int .i64 0] 43)).alloc (.cells #[] 4) := ⟨_, rfl⟩
  have hE : Blk W2 w2.heap.size 43 [.string s, .int .i64 (↑k + ↑m), .int .i64 0] := by rw [hW2]; exact (Blk.new w2 43 [_, _, _]).alloc _
  have hO : W2.ownsRow (w2.heap.size + 1) 4 1 (.slice (some ⟨w2.heap.size + 1, 0, none⟩) 0 0) 0 (bools (bitsOf q 0)) := by
    rw [hW2]
    refine ⟨by simp [bitsOf, bools], .inr ⟨w2.heap.size + 1, 0, #[], rfl, Nat.le_refl _, ?_, by omega, by unfold maxLen; omega, by simp, by simp [bitsOf, bools]⟩⟩
    have := heap_alloc_new (w2.alloc (.cells #[.string s, .int .i64 (↑k + ↑m), .int .i64 0] 43)) (.cells #[] 4)
    rwa [show (w2.alloc (.cells #[.string s, .int .i64 (↑k + ↑m), .int .i64 0] 43)).heap.size = w2.heap.size + 1 by simp] at this
  have hS2 : W2.heap.size = w2.heap.size + 2 := by rw [hW2]; simp
  have hbT : Below (two w s a c0).heap.size (two w s a c0) W2 := by
    rw [hW2]
    exact (hb12.alloc hb12.size _).alloc (Nat.le_trans hb12.size (by simp)) _
  have HE := Lib.hid hE
  have HS2 := Lib.hid hS2
  have HBT := Lib.hid hbT
  have HO := Lib.hid hO
  have hsz3 : w2.heap.size + 2 ≤ W2.heap.size := by omega
  clear hE hS2 hbT hO hb12 hb1 hb2 p0 p1 p2 q0 q1 q2 q3 q4 q5
  rw [← hW2]
  clear hW2
  go_loopw [10, 11] (fun v i wr => ∃ j : Nat, j ≤ 8 * m ∧ i = .int .i64 j ∧ wr.ownsRow (w2.heap.size + 1) 4 1 v (min j n) (bools (bitsOf q (min j n))) ∧ (∀ t, n ≤ t → t < j → bitAt q t = false) ∧ Below (w2.heap.size + 1) W2 wr) (fun _ i _ => 8 * m - (intOf i).toNat)
  case atStart => exact ⟨0, by omega, rfl, by rw [Nat.zero_min]; exact HO.out, by omega, Below.refl _ _⟩
  case round =>
    obtain ⟨j, hj, rfl, hown, hcl, hb⟩ := hrel
    have hbs := hb.size
    by_cases hlt : j < 8 * m
    · have hjq : j / 8 < q.size := by omega
      have hbit := bitR hjq
      have HCJ := Lib.hid hcl
      clear hcl
      by_cases hjn : j < n
      · have e1 : min j n = j := by omega
        have e2 : min (j + 1) n = j + 1 := by omega
        rw [e1] at hown
        have HNX := Lib.hid (bitsOf_succ q j)
        have HLN := Lib.hid (show (bools (bitsOf q j)).length = j by rw [bools_length, bitsOf_length])
        have HE2 := Lib.hid e2
        clear e1 e2
        generalize bitAt q j = bt at hbit HNX
        generalize bitsOf q j = bj at hown HNX HLN
        go_wp2_with (at_builtin; refine wpList_append_own_at _ rfl (.tmp 60) (.tmp 62) 33 rfl (w2.heap.size + 1) 4 i0 (.bool false) 1 1 Try.underlying33 hi iz0 iz1 iz2 rfl (by decide) _ j (bools bj) rfl (hown.alloc _) ⟨wr.heap.size, 0, none⟩ 1 1 [.bool bt] rfl rfl (cell_one_new _ _ _) (by simp [Value.oneCell']) ?b1 ?b2 ?b3 ?go)
        case b1 => unfold maxLen; omega
        case b2 => omega
        case b3 => simp; omega
        case go =>
          intro v' w3 hown2 hg _ _
          have hb2 : Below (w2.heap.size + 1) W2 w3 := (hb.alloc (by omega) _).grown hg (by simp; omega) (fun g e => (hown.lt g e).1)
          rw [show bools bj ++ [.bool bt] = bools (bj ++ [bt]) by rw [bools_append]; rfl, ← HNX.out] at hown2
          go_wp2
          go_roundw
          case rel =>
            exact ⟨j + 1, by omega, by go_num, by rw [HE2.out]; exact hown2, fun t h1 h2 => by omega, hb2⟩
          case measure => simp [intOf]; omega
      · cases hbt : bitAt q j
        · rw [hbt] at hbit
          have HBT2 := Lib.hid hbt
          clear hbt
          go_wp2
          go_roundw
          case rel => exact ⟨j + 1, by omega, by go_num, by rw [show min (j + 1) n = min j n by omega]; exact hown, fun t h1 h2 => (by rcases Nat.lt_or_ge t j with h | h; exact HCJ.out t h1 h; rw [show t = j by omega]; exact HBT2.out), hb⟩
          case measure => simp [intOf]; omega
        · rw [hbt] at hbit
          have hcl0 : clean q n = false := by
            cases hcc : clean q n
            · rfl
            · have := clean_iff.1 hcc j (by omega) (by rw [HQ.out]; omega)
              rw [hbt] at this
              cases this
          have HRK := Lib.hid (show RK = a from HK0.out.symm.trans (by rw [hcl0]; rfl))
          have HRC := Lib.hid (show RC = 2 from HC0.out.symm.trans (by rw [hcl0]; rfl))
          have HRL := Lib.hid (show RL = [] from HL0.out.symm.trans (by rw [hcl0]; rfl))
          have HBR := Lib.hid (HBT.out.trans (hb.mono (by rw [two_size]; omega)))
          obtain ⟨p0, p1, p2, _, _, _⟩ := cells3 (Blk.below (two_box w s a c0) HBR.out (by rw [two_size]; omega))
          obtain ⟨q0, q1, q2, q3, q4, q5⟩ := cells3 (Blk.below (two_res w s a c0) HBR.out (by rw [two_size]; omega))
          have hz5 : w.heap.size + 1 < wr.heap.size := by omega
          have hz6 : w.heap.size < wr.heap.size := by omega
          clear hbt hcl0
          go_wp2_with (go_at_call 57; refine (stop_open s a c0 2 _).mono ?_; rintro e w3 ⟨rfl, hb3⟩; obtain ⟨hc3, hf3⟩ := bcell hb3)
          have HB3 := HBR.out.trans (hb3.mono (by have := HBR.out.size; exact this))
          rw [HRK.out, HRC.out, HRL.out]
          exact bodyPost_ret (rr_res2 rfl _ _ (w.heap.size + 1) s a 2 _ rfl rfl (fin_blk HB3 _ _)) rfl (refBits_nil (fin_below HB3 _ _ _))
    · obtain rfl : j = 8 * m := by omega
      have HBR := Lib.hid (HBT.out.trans (hb.mono (by rw [two_size]; omega)))
      have hcl1 : clean q n = true := clean_iff.2 fun t h1 h2 => hcl t h1 (by rw [HQ.out] at h2; exact h2)
      have HRK := Lib.hid (show RK = (↑k + ↑m) from HK0.out.symm.trans (by rw [hcl1]; rfl))
      have HRC := Lib.hid (show RC = 0 from HC0.out.symm.trans (by rw [hcl1]; rfl))
      have HRL := Lib.hid (show RL = bitsOf q n from HL0.out.symm.trans (by rw [hcl1]; rfl))
      have hmn := HMN.out
      rw [show min (8 * m) n = n by omega] at hown
      have HOW := Lib.hid hown
      obtain ⟨p0, p1, p2, _, _, _⟩ := cells3 (Blk.below HE.out hb (by omega))
      obtain ⟨_, _, _, q3, q4, q5⟩ := cells3 (Blk.below (two_res w s a c0) HBR.out (by rw [two_size]; omega))
      clear hcl hcl1 hmn hown
      go_wp2
      go_region
      go_wp2
      rw [HRK.out, HRC.out, HRL.out]
      exact bodyPost_ret (rr_res2 rfl _ _ (w.heap.size + 1) s (↑k + ↑m) 0 _ rfl rfl (blk_drew (fin_blk HBR.out _ _))) rfl (refBits_end HBR.out (by omega) (bitsOf_length q n) HOW.out rfl)

theorem rdCount_err {s : ByteArray} {a : Nat} {most : Int} (h : (rdCount s a most).2.1 ≠ 0) : (rdCount s a most).2.2 = a ∧ (rdCount s a most).1 = 0 := by
  unfold rdCount at *
  split
  · exact ⟨rfl, rfl⟩
  · split
    · exact ⟨rfl, rfl⟩
    · split
      · exact ⟨rfl, rfl⟩
      · rename_i h1 h2 h3
        rw [if_neg h1, if_neg h2, if_neg h3] at h
        exact absurd rfl h
theorem btX_of {s : ByteArray} {a n k : Nat} {most c : Int} (hx : rdCount s a (min most 65536) = ((n : Int), c, k)) :
    btX s a most = if c ≠ 0 then (c, [], a) else if s.size < k + (n + 7) / 8 then (16, [], a) else if clean (s.extract k (k + (n + 7) / 8)) n = true then (0, bitsOf (s.extract k (k + (n + 7) / 8)) n, k + (n + 7) / 8) else (2, [], a) := by
  unfold btX
  rw [hx]
  rfl
theorem rBits_live (s : ByteArray) (a : Nat) (most : Int) (w : World) (ha : a ≤ s.size) (hs : s.size ≤ 140737488351232) :
    Calls Try.prog 53 #[.agg #[.string s, .int .i64 a, .int .i64 0], .int .i64 most] w (RefBits w s ((if (btX s a most).1 = 0 then (btX s a most).2.2 else a : Nat) : Int) (btX s a most).1 (if (btX s a most).1 = 0 then (btX s a most).2.1 else [])) := by
  have HN := fun W => rCount_live s a (min most 65536) W ha hs
  have hnn := rdCount_nn s a (min most 65536)
  have hneg := rdCount_neg s a (min most 65536)
  have hlem := rdCount_le s a (min most 65536)
  have hle := rdCount_le2 s a (min most 65536)
  have herr := @rdCount_err s a (min most 65536)
  generalize hx : rdCount s a (min most 65536) = x at *
  obtain ⟨n, c, k⟩ := x
  dsimp only at *
  obtain ⟨m, rfl⟩ := Int.eq_ofNat_of_zero_le hnn
  have hB := btX_of hx
  by_cases hc : c = 0
  · have hk := hle hc
    have hm0 : 0 ≤ min most 65536 := by
      rcases (show min most 65536 < 0 ∨ 0 ≤ min most 65536 by omega) with h | h
      · exact absurd hc (hneg h)
      · exact h
    have hm65 : m ≤ 65536 := by have := hlem hm0; omega
    rw [if_neg (fun h => h hc)] at hB
    by_cases hf : s.size < k + (m + 7) / 8
    · rw [if_pos hf] at hB
      rw [hB]
      exact rBits_short s a most 0 c m k w HN hc hk.2 hs hm65 hf
    · rw [if_neg hf] at hB
      have := rBits_ok s a most 0 c m k w HN hc hs hm65 (by omega)
      by_cases hcl : clean (s.extract k (k + (m + 7) / 8)) m = true
      · rw [if_pos hcl] at hB
        rw [hB]
        simp only [if_pos hcl] at this ⊢
        exact this
      · rw [if_neg hcl] at hB
        rw [hB]
        simp only [if_neg hcl] at this ⊢
        exact this
  · obtain ⟨rfl, hm⟩ := herr hc
    rw [if_pos hc] at hB
    rw [hB]
    simp only [if_neg hc]
    exact rBits_err s k most 0 c m k w HN hc
theorem rBits_stopped (s : ByteArray) (a : Nat) (most c : Int) (w : World) (hc : c ≠ 0) : Calls Try.prog 53 #[.agg #[.string s, .int .i64 a, .int .i64 c], .int .i64 most] w (RefBits w s a c []) :=
  rBits_err s a most c c 0 a w (fun W => rCount_stopped s a (min most 65536) c W hc) hc
end Go.Proofs.Yteendimoopmakaa
