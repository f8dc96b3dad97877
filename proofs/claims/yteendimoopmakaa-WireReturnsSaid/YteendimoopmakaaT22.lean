/- A reader's Bits: the closure. For a reader whose place lies in its string. -/
import Derived.Test.YteendimoopmakaaT20
import Derived.Test.YteendimoopmakaaT12
import Derived.Test.YteendimoopmakaaT19
namespace Go.Proofs.Yteendimoopmakaa
open Go.RowKit

theorem tinfo4 : (Try.prog.info? 4).map (fun i => (i.zero, i.size, i.bytes)) = some (some (.bool false), 1, 1) := by kernel_rfl
/-- bit i of a string, the highest bit of a byte first -/
def bitAt (q : ByteArray) (i : Nat) : Bool := if h : i / 8 < q.size then (bits .and .u8 (((q[i / 8]'h).toNat : Int) * 2 ^ (i % 8) % 256) 128 != 0) else false
theorem bitAt_at {q : ByteArray} {i : Nat} (h : i / 8 < q.size) : (bits .and .u8 (((q[i / 8]'h).toNat : Int) * 2 ^ (i % 8) % 256) 128 != 0) = bitAt q i := by unfold bitAt; rw [dif_pos h]
def bitsOf (q : ByteArray) (n : Nat) : List Bool := (List.range n).map (bitAt q)
theorem bitsOf_succ (q : ByteArray) (n : Nat) : bitsOf q (n + 1) = bitsOf q n ++ [bitAt q n] := by simp [bitsOf, List.range_succ]
theorem bitsOf_length (q : ByteArray) (n : Nat) : (bitsOf q n).length = n := by simp [bitsOf]
def bools (l : List Bool) : List Value := l.map Value.bool
theorem bools_append (a b : List Bool) : bools (a ++ b) = bools a ++ bools b := by simp [bools]
theorem bools_length (a : List Bool) : (bools a).length = a.length := by simp [bools]
/-- no bit from n on -/
def clean (q : ByteArray) (n : Nat) : Bool := (List.range (8 * q.size)).all fun j => decide (j < n) || !bitAt q j
theorem clean_iff {q : ByteArray} {n : Nat} : clean q n = true ↔ ∀ j, n ≤ j → j < 8 * q.size → bitAt q j = false := by
  unfold clean
  rw [List.all_eq_true]
  constructor
  · intro h j h1 h2
    have := h j (List.mem_range.2 h2)
    simpa [Nat.not_lt.2 h1] using this
  · intro h j hj
    by_cases hn : j < n
    · simp [hn]
    · simp [hn, h j (by omega) (List.mem_range.1 hj)]

/-- What a reading of bools leaves: an own slice of them, or nil. -/
def BitsPost (w : World) (r : Nat) (s : ByteArray) (c : Int) (L : List Bool) (k : Nat) (e : Ending) (w' : World) : Prop :=
  ∃ v, e = .returned (.tuple #[v, .int .i64 c]) ∧ (c = 0 → ∃ b, w.heap.size ≤ b ∧ w'.ownsRow b 4 1 v L.length (bools L)) ∧ ∃ k', Rd w w' r s k' 0 ∧ k' ≤ s.size ∧ (c = 0 → k' = k)

set_option maxRecDepth 100000 in
set_option maxHeartbeats 3200000 in
theorem Bits1_ok (most : Int) (n : Nat) (k : Nat) (r : Nat) (s : ByteArray) (a : Nat) (w : World) (c0 c1 : Nat) (h : RdAt w r s a 0) (ha : a ≤ s.size) (hs : s.size ≤ 140737488351232) (h0 : w.cell? ⟨c0, 0, none⟩ = some (.pointer (some ⟨r, 0, none⟩))) (h1 : w.cell? ⟨c1, 0, none⟩ = some (.int .i64 most)) (hcr : c0 ≠ r)
    (hx : rdCount s a (min most 65536) = ((n : Int), 0, k)) (hn : n ≤ 65536) (hfit : k + (n + 7) / 8 ≤ s.size) :
    Calls Try.prog 77 #[.pointer (some ⟨c0, 0, none⟩), .pointer (some ⟨c1, 0, none⟩)] w
      (BitsPost w r s (if clean (s.extract k (k + (n + 7) / 8)) n = true then 0 else 2) (bitsOf (s.extract k (k + (n + 7) / 8)) n) (k + (n + 7) / 8)) := by
  obtain ⟨i0, hi, hz0, hz1, hz2⟩ := info_parts tinfo4
  have hC0 := count_any (min most 65536) r s a w h ha hs
  rw [hx] at hC0
  dsimp only at hC0
  have HC := Lib.hid hC0
  clear hC0
  clear hx
  obtain ⟨m, hm⟩ : ∃ m, m = (n + 7) / 8 := ⟨_, rfl⟩
  rw [← hm] at hfit ⊢
  have hdiv : ((n : Int) + 7) / 8 = (m : Int) := by omega
  have hm2 : m ≤ 8192 := by omega
  have HMN := Lib.hid hm
  clear hm
  have HT := Lib.hid (fun (w' : World) (h' : RdAt w' r s k 0) => take_ok m r s k 0 w' h' (by omega) hs hfit)
  have hqs : (s.extract k (k + m)).size = m := by rw [ByteArray.size_extract]; omega
  generalize s.extract k (k + m) = q at *
  have HQ := Lib.hid hqs
  have hq0 : m ≤ q.size := by omega
  have hq1 : q.size ≤ m := by omega
  clear hqs
  have hmin : (if 65536 < most then 65536 else most) = min most 65536 := by omega
  generalize min most 65536 = mm at *
  generalize hC : (if clean q n = true then (0 : Int) else 2) = C
  have HCL := Lib.hid hC
  generalize hL : bitsOf q n = LB
  have HLB := Lib.hid hL
  clear hC hL
  go_enter Try.func77, Try.ntmps77
  go_wp2_with (first | (go_at_call 75; (try rw [hmin]); refine HC.out.mono ?_; rintro e w1 ⟨rfl, k1, hr1, hk1, hk2⟩; have hk1k := hk2 rfl; subst hk1k; clear hk2; dsimp only; have hq := hr1.2.cell h0 (by simpa using hcr)) | (go_at_call 62; refine (HT.out _ hr1.1).mono ?_; rintro e w2 ⟨rfl, hr2⟩; have hr3 := rd_trans hr1.2 hr2; clear hdiv hmin; dsimp only))
  have hsz3 := hr3.2.size
  go_loopw [7, 34] (fun v i wr => ∃ j : Nat, j ≤ 8 * m ∧ i = .int .i64 j ∧ wr.ownsRow w2.heap.size 4 1 v (min j n) (bools (bitsOf q (min j n))) ∧ (∀ t, n ≤ t → t < j → bitAt q t = false) ∧ Below w2.heap.size w2 wr) (fun _ i _ => 8 * m - (intOf i).toNat)
  case atStart => exact ⟨0, by omega, rfl, by rw [Nat.zero_min]; exact World.ownsRow_nil _ _ _ _, by omega, Below.refl _ _⟩
  case round =>
    obtain ⟨j, hj, rfl, hown, hcl, hb⟩ := hrel
    have hbs := hb.size
    by_cases hlt : j < 8 * m
    · have hjq : j / 8 < q.size := by omega
      have hbit := bitAt_at hjq
      have HCJ := Lib.hid hcl
      clear hcl
      by_cases hjn : j < n
      · have e1 : min j n = j := by omega
        have e2 : min (j + 1) n = j + 1 := by omega
        rw [e1] at hown
        have HNX := Lib.hid (bitsOf_succ q j)
        have HLN := Lib.hid (show (bools (bitsOf q j)).length = j by rw [bools_length, bitsOf_length])
        have HE2 := Lib.hid e2
        clear e1 e2
        generalize bitAt q j = bt at hbit HNX
        generalize bitsOf q j = bj at hown HNX HLN
        go_wp2_with (at_builtin; refine wpList_append_own_at _ rfl (.tmp 50) (.tmp 52) 33 rfl w2.heap.size 4 i0 (.bool false) 1 1 Try.underlying33 hi hz0 hz1 hz2 rfl (by decide) _ j (bools bj) rfl (hown.alloc _) ⟨wr.heap.size, 0, none⟩ 1 1 [.bool bt] rfl rfl (cell_one_new _ _ _) (by simp [Value.oneCell']) ?b1 ?b2 ?b3 ?go)
        case b1 => unfold maxLen; omega
        case b2 => omega
        case b3 => simp; omega
        case go =>
          intro v' w3 hown2 hg _ _
          have hb2 : Below w2.heap.size w2 w3 := (hb.alloc hbs _).grown hg (by simp; omega) (fun g e => (hown.lt g e).1)
          rw [show bools bj ++ [.bool bt] = bools (bj ++ [bt]) by rw [bools_append]; rfl, ← HNX.out] at hown2
          go_wp2
          go_roundw
          case rel =>
            exact ⟨j + 1, by omega, by go_num, by rw [HE2.out]; exact hown2, fun t h1 h2 => by omega, hb2⟩
          case measure => simp [intOf]; omega
      · cases hbt : bitAt q j
        · rw [hbt] at hbit
          have HBT := Lib.hid hbt
          clear hbt
          go_wp2
          go_roundw
          case rel => exact ⟨j + 1, by omega, by go_num, by rw [show min (j + 1) n = min j n by omega]; exact hown, fun t h1 h2 => (by rcases Nat.lt_or_ge t j with h | h; exact HCJ.out t h1 h; rw [show t = j by omega]; exact HBT.out), hb⟩
          case measure => simp [intOf]; omega
        · rw [hbt] at hbit
          have HBT := Lib.hid hbt
          clear hbt
          go_wp2
          go_ret2
          have hC2 : C = 2 := by
            rw [← HCL.out, if_neg]
            intro hc
            have := clean_iff.1 hc j (by omega) (by rw [HQ.out]; omega)
            rw [HBT.out] at this
            cases this
          subst hC2
          exact ⟨_, rfl, (fun h => absurd h (by decide)), k1 + m, rd_below hr3 hb, hfit, (fun h => absurd h (by decide))⟩
    · obtain rfl : j = 8 * m := by omega
      have HCJ := Lib.hid hcl
      clear hcl
      go_wp2
      go_ret2
      have hC0 : C = 0 := by
        rw [← HCL.out, if_pos]
        exact clean_iff.2 fun t h1 h2 => HCJ.out t h1 (by rw [HQ.out] at h2; exact h2)
      subst hC0
      have hmn := HMN.out
      refine ⟨_, rfl, fun _ => ?_, k1 + m, rd_below hr3 hb, hfit, fun _ => rfl⟩
      rw [← HLB.out, bitsOf_length]
      rw [show min (8 * m) n = n by omega] at hown
      exact ⟨_, hsz3, hown⟩

theorem bitsPost_err {w w' : World} {r : Nat} {s : ByteArray} {c : Int} {L : List Bool} {k k' : Nat} {v : Value} (hc : c ≠ 0) (h : Rd w w' r s k' 0) (hk : k' ≤ s.size) : BitsPost w r s c L k (.returned (.tuple #[v, .int .i64 c])) w' :=
  ⟨v, rfl, (fun h => absurd h hc), k', h, hk, (fun h => absurd h hc)⟩
set_option maxHeartbeats 1600000 in
theorem Bits1_bad (most : Int) (n : Int) (c : Int) (k : Nat) (r : Nat) (s : ByteArray) (a : Nat) (w : World) (c0 c1 : Nat) (h : RdAt w r s a 0) (ha : a ≤ s.size) (hs : s.size ≤ 140737488351232) (h0 : w.cell? ⟨c0, 0, none⟩ = some (.pointer (some ⟨r, 0, none⟩))) (h1 : w.cell? ⟨c1, 0, none⟩ = some (.int .i64 most))
    (hx : rdCount s a (min most 65536) = (n, c, k)) (hc : c ≠ 0) (L : List Bool) (kk : Nat) :
    Calls Try.prog 77 #[.pointer (some ⟨c0, 0, none⟩), .pointer (some ⟨c1, 0, none⟩)] w (BitsPost w r s c L kk) := by
  have hC0 := count_any (min most 65536) r s a w h ha hs
  rw [hx] at hC0
  dsimp only at hC0
  have HC := Lib.hid hC0
  clear hC0
  clear hx
  have hmin : (if 65536 < most then 65536 else most) = min most 65536 := by omega
  generalize min most 65536 = mm at *
  have hne : (c != 0) = true := by rw [bne_iff_ne]; exact hc
  have HN2 := Lib.hid hc
  clear hc
  go_enter Try.func77, Try.ntmps77
  go_wp2_with (go_at_call 75; (try rw [hmin]); refine HC.out.mono ?_; rintro e w1 ⟨rfl, k1, hr1, hk1, hk2⟩; clear hk2; dsimp only)
  go_ret2
  exact bitsPost_err HN2.out hr1 hk1
set_option maxHeartbeats 1600000 in
theorem Bits1_short (most : Int) (n : Nat) (k : Nat) (r : Nat) (s : ByteArray) (a : Nat) (w : World) (c0 c1 : Nat) (h : RdAt w r s a 0) (ha : a ≤ s.size) (hs : s.size ≤ 140737488351232) (h0 : w.cell? ⟨c0, 0, none⟩ = some (.pointer (some ⟨r, 0, none⟩))) (h1 : w.cell? ⟨c1, 0, none⟩ = some (.int .i64 most)) (hcr : c0 ≠ r)
    (hx : rdCount s a (min most 65536) = ((n : Int), 0, k)) (hn : n ≤ 65536) (hfit : s.size < k + (n + 7) / 8) (L : List Bool) (kk : Nat) :
    Calls Try.prog 77 #[.pointer (some ⟨c0, 0, none⟩), .pointer (some ⟨c1, 0, none⟩)] w (BitsPost w r s 16 L kk) := by
  have hC0 := count_any (min most 65536) r s a w h ha hs
  rw [hx] at hC0
  dsimp only at hC0
  have HC := Lib.hid hC0
  clear hC0
  clear hx
  obtain ⟨m, hm⟩ : ∃ m, m = (n + 7) / 8 := ⟨_, rfl⟩
  rw [← hm] at hfit
  have hdiv : ((n : Int) + 7) / 8 = (m : Int) := by omega
  clear hm
  have HT := Lib.hid (fun (w' : World) (h' : RdAt w' r s k 0) (hk : k ≤ s.size) => take_end m r s k 0 w' h' hk hs (by omega))
  have hmin : (if 65536 < most then 65536 else most) = min most 65536 := by omega
  generalize min most 65536 = mm at *
  go_enter Try.func77, Try.ntmps77
  go_wp2_with (first | (go_at_call 75; (try rw [hmin]); refine HC.out.mono ?_; rintro e w1 ⟨rfl, k1, hr1, hk1, hk2⟩; have hk1k := hk2 rfl; subst hk1k; clear hk2; dsimp only; have hq := hr1.2.cell h0 (by simpa using hcr)) | (go_at_call 62; refine (HT.out _ hr1.1 hk1).mono ?_; rintro e w2 ⟨rfl, hr2⟩; have hr3 := rd_trans hr1.2 hr2; dsimp only))
  go_ret2
  exact bitsPost_err (by decide) hr3 hk1

/-- The outcome of a reading of bools: error, list, place. -/
def btX (s : ByteArray) (a : Nat) (most : Int) : Int × List Bool × Nat :=
  let x := rdCount s a (min most 65536)
  let m := (x.1.toNat + 7) / 8
  if x.2.1 ≠ 0 then (x.2.1, [], a) else if s.size < x.2.2 + m then (16, [], a)
  else if clean (s.extract x.2.2 (x.2.2 + m)) x.1.toNat = true then (0, bitsOf (s.extract x.2.2 (x.2.2 + m)) x.1.toNat, x.2.2 + m) else (2, [], a)
theorem rdCount_le (s : ByteArray) (a : Nat) (most : Int) (hm : 0 ≤ most) : (rdCount s a most).1 ≤ most := by
  unfold rdCount
  split
  · exact hm
  · split
    · exact hm
    · split
      · exact hm
      · dsimp only; omega
theorem rdCount_neg (s : ByteArray) (a : Nat) (most : Int) (hm : most < 0) : (rdCount s a most).2.1 ≠ 0 := by
  unfold rdCount
  split
  · assumption
  · split
    · show (11 : Int) ≠ 0; decide
    · split
      · show (3 : Int) ≠ 0; decide
      · omega
theorem Bits1_any (most : Int) (r : Nat) (s : ByteArray) (a : Nat) (w : World) (c0 c1 : Nat) (h : RdAt w r s a 0) (ha : a ≤ s.size) (hs : s.size ≤ 140737488351232) (h0 : w.cell? ⟨c0, 0, none⟩ = some (.pointer (some ⟨r, 0, none⟩))) (h1 : w.cell? ⟨c1, 0, none⟩ = some (.int .i64 most)) (hcr : c0 ≠ r) :
    Calls Try.prog 77 #[.pointer (some ⟨c0, 0, none⟩), .pointer (some ⟨c1, 0, none⟩)] w (BitsPost w r s (btX s a most).1 (btX s a most).2.1 (btX s a most).2.2) := by
  unfold btX
  have hnn := rdCount_nn s a (min most 65536)
  have hneg := rdCount_neg s a (min most 65536)
  have hle := rdCount_le s a (min most 65536)
  generalize hx : rdCount s a (min most 65536) = x at *
  obtain ⟨n, c, k⟩ := x
  dsimp only at *
  by_cases hc : c ≠ 0
  · rw [if_pos hc]
    exact Bits1_bad most n c k r s a w c0 c1 h ha hs h0 h1 hx hc _ _
  · rw [if_neg hc]
    have hc0 : c = 0 := by omega
    subst hc0
    obtain ⟨m, rfl⟩ := Int.eq_ofNat_of_zero_le hnn
    have hm0 : 0 ≤ min most 65536 := by
      rcases (show min most 65536 < 0 ∨ 0 ≤ min most 65536 by omega) with h | h
      · exact absurd rfl (hneg h)
      · exact h
    have hm65 : m ≤ 65536 := by have := hle hm0; omega
    simp only [Int.toNat_natCast]
    by_cases hf : s.size < k + (m + 7) / 8
    · rw [if_pos hf]
      exact Bits1_short most m k r s a w c0 c1 h ha hs h0 h1 hcr hx hm65 hf _ _
    · rw [if_neg hf]
      have := Bits1_ok most m k r s a w c0 c1 h ha hs h0 h1 hcr hx hm65 (by omega)
      by_cases hcl : clean (s.extract k (k + (m + 7) / 8)) m = true
      · rw [if_pos hcl]
        rw [if_pos hcl] at this
        exact this
      · rw [if_neg hcl]
        rw [if_neg hcl] at this
        refine this.mono ?_
        rintro e w' ⟨v, rfl, _, k', h1, h2, _⟩
        exact bitsPost_err (by show (2 : Int) ≠ 0; decide) h1 h2

/-- What Bits leaves. -/
def BitsCall (w : World) (r : Nat) (s : ByteArray) (a : Nat) (x : Int × List Bool × Nat) (e : Ending) (w' : World) : Prop :=
  ∃ v, e = .returned (.tuple #[v, .int .i64 x.1]) ∧ (x.1 = 0 → ∃ b, w.heap.size ≤ b ∧ w'.ownsRow b 4 1 v x.2.1.length (bools x.2.1)) ∧ (x.1 ≠ 0 → v = .slice none 0 0) ∧ Rd w w' r s (if x.1 = 0 then x.2.2 else a) x.1
set_option maxHeartbeats 1600000 in
theorem Bits_live (n : Int) (r : Nat) (s : ByteArray) (a : Nat) (w : World) (h : RdAt w r s a 0) (ha : a ≤ s.size) (hs : s.size ≤ 140737488351232) :
    Calls Try.prog 47 #[.pointer (some ⟨r, 0, none⟩), .int .i64 n] w (BitsCall w r s a (btX s a n)) := by
  have hb := boxed_below w r n
  have hbsz := hb.size
  have hr0 := boxed_rd n h
  have hc0 := boxed_r w r n
  have hc1 := boxed_n w r n
  have h1 : (boxed w r n).cell? ⟨r, 1, none⟩ = some (.int .i64 a) := hr0.cell 1
  have h2 : (boxed w r n).cell? ⟨r, 2, none⟩ = some (.int .i64 0) := hr0.cell 2
  have HC := Lib.hid (Bits1_any n r s a (boxed w r n) w.heap.size (w.heap.size + 1) hr0 ha hs hc0 hc1 (by have := Blk.lt h; omega))
  have hmf := mf
  clear h hr0
  generalize btX s a n = x at HC ⊢
  obtain ⟨c, L, k⟩ := x
  dsimp only at HC
  unfold boxed at *
  by_cases hc : c = 0
  · subst hc
    go_enter Try.func47, Try.ntmps47
    go_wp2_with (first | (go_at_call 77; refine HC.out.mono ?_; rintro e w1 ⟨v, rfl, hown, k1, hr1, hk1, hk2⟩; have HK := Lib.hid hk2; have HO := Lib.hid hown; clear hk2 hown; dsimp only) | go_in)
    go_ret2
    obtain ⟨b, hb1, hb2⟩ := HO.out trivial
    exact ⟨_, rfl, fun _ => ⟨b, Nat.le_trans hbsz hb1, hb2⟩, fun h => absurd rfl h, rd_at_eq (rd_ext hb hr1) (by rw [if_pos rfl]; exact HK.out trivial)⟩
  · have hne : (c != 0) = true := by rw [bne_iff_ne]; exact hc
    have HN := Lib.hid hc
    clear hc
    go_enter Try.func47, Try.ntmps47
    go_wp2_with (first | (go_at_call 77; refine HC.out.mono ?_; rintro e w1 ⟨v, rfl, _, k1, hr1, hk1, hk2⟩; clear hk2; dsimp only; obtain ⟨q1, q2, q3, q4⟩ := rd_cells hr1.1) | go_in)
    go_ret2
    exact ⟨_, rfl, fun h => absurd h HN.out, fun _ => rfl, by rw [if_neg HN.out]; exact rd_stop (rd_ext hb hr1)⟩
set_option maxHeartbeats 800000 in
theorem Bits_stopped (n : Int) (r : Nat) (s : ByteArray) (a : Nat) (c : Int) (w : World) (h : RdAt w r s a c) (hc : c ≠ 0) :
    Calls Try.prog 47 #[.pointer (some ⟨r, 0, none⟩), .int .i64 n] w fun e w' => e = .returned (.tuple #[.slice none 0 0, .int .i64 c]) ∧ Rd w w' r s a c := by
  have hb := boxed_below w r n
  have hr0 := boxed_rd n h
  have hc0 := boxed_r w r n
  have h2 : (boxed w r n).cell? ⟨r, 2, none⟩ = some (.int .i64 c) := hr0.cell 2
  have hne : (c != 0) = true := by rw [bne_iff_ne]; exact hc
  have hmf := mf
  clear hc
  unfold boxed at *
  go_enter Try.func47, Try.ntmps47
  go_wp2
  go_quiet (fail)
  go_wp2
  go_ret2
  exact ⟨rfl, rd_ext hb (rd_drewN hr0 _)⟩
end Go.Proofs.Yteendimoopmakaa
