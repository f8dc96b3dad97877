/- Little and Signed of a writer append the little bytes or return the error. For a writer with fewer than 10^11 bytes. -/
import Derived.Test.YteendimoopmakaaT3
import Derived.Deep.RegionLaw
import Derived.Deep.AppendLies
import Derived.Deep.QuietTactic
import Derived.BigQuiet
namespace Go.Proofs.Yteendimoopmakaa
open Go.RowKit

theorem wrote_lies {wr w1 : World} {base b g cap S m : Nat} {v : Value} {bs ns : List UInt8} {o : Obj} (hw : WrAt wr base b v bs) (hm : ns.length = m)
    (hown : w1.ownsRow base 5 1 (.slice (some ⟨g, 0, none⟩) (bs.length + m) cap) (bs.length + m) (u8s bs ++ u8s ns)) (hg : ((wr.alloc o).drew).grownBy w1 v.ownBlock) (hat : v.ownBlock = some g ∨ g = S) (hS : wr.heap.size ≤ S) :
    w1.cell? ⟨b, 0, none⟩ = some v ∧ w1.frozen? ⟨b, 0, none⟩ = false ∧ Wrote wr (w1.setCell ⟨b, 0, none⟩ (.slice (some ⟨g, 0, none⟩) (bs.length + m) cap)) base b v (bs ++ ns) := by
  refine wrote_of (W := (wr.alloc o).drew) hw (((Below.refl _ _).alloc (Nat.le_refl _) _).drew) hm hown hg (S := S) ?_ hS
  rcases hat with h | h
  · exact .inl h.symm
  · exact .inr (by rw [h]; rfl)

theorem Wrote.trans {w w1 w2 : World} {base b : Nat} {v v1 : Value} {bs : List UInt8} (hf : Fr w w1 b v.ownBlock) (ha : v1.ownBlock = v.ownBlock ∨ ∀ k, v1.ownBlock = some k → w.heap.size ≤ k)
    (h : Wrote w1 w2 base b v1 bs) : Wrote w w2 base b v bs := by
  obtain ⟨v2, h2, hf2, ha2⟩ := h
  refine ⟨v2, h2, ⟨hf2.os.trans hf.os, hf2.tape.trans hf.tape, hf2.output.trans hf.output, Nat.le_trans hf.size hf2.size, fun k hk hb hr => ?_⟩, ?_⟩
  · rw [hf2.block k (Nat.lt_of_lt_of_le hk hf.size) hb (fun e => ?_), hf.block k hk hb hr]
    rcases ha with ha | ha
    · exact hr (e.trans ha)
    · have := ha k e.symm; omega
  · rcases ha2 with h | h
    · rcases ha with ha | ha
      · exact .inl (h.trans ha)
      · exact .inr fun k hk => ha k (h ▸ hk)
    · exact .inr fun k hk => Nat.le_trans hf.size (h k hk)

/-- the bytes of a little number -/
def litB (n : Int) (m : Nat) : List UInt8 := (List.range m).map fun i => UInt8.ofNat (n / 256 ^ i % 256).toNat
theorem litB_succ (n : Int) (m : Nat) : litB n (m + 1) = litB n m ++ [UInt8.ofNat (n / 256 ^ m % 256).toNat] := by simp [litB, List.range_succ]
theorem litB_length (n : Int) (m : Nat) : (litB n m).length = m := by simp [litB]

theorem u8s_single (x : Int) (h0 : 0 ≤ x) (h1 : x < 256) : u8s [UInt8.ofNat x.toNat] = [.int .u8 x] := by show [Value.int .u8 _] = _; rw [u8cell x h0 h1]

set_option maxRecDepth 100000 in
set_option maxHeartbeats 1600000 in
theorem little_any (n : Int) (m : Nat) (base b : Nat) (v : Value) (bs : List UInt8) (w : World) (hm : m ≤ 8) (hlen : bs.length ≤ 100000000000) (hw : WrAt w base b v bs)
   (hbase : base ≤ w.heap.size) :
    Calls Try.prog 65 #[.pointer (some ⟨b, 0, none⟩), .int .i64 n, .int .i64 m] w fun e w' => e = .returned (.int .i64 0) ∧ Wrote w w' base b v (bs ++ litB n m) := by
  obtain ⟨i0, hi, hz0, hz1, hz2⟩ := info_parts Try.info5
  go_enter Try.func65, Try.ntmps65
  go_wp2
  go_loopw [7, 9] (fun _ i wr => ∃ k : Nat, k ≤ m ∧ i = .int .i64 k ∧ Wrote w wr base b v (bs ++ litB n k)) (fun _ i _ => m - (intOf i).toNat)
  case atStart => exact ⟨0, by omega, rfl, by simpa [litB] using Wrote.same hw (Below.refl _ _)⟩
  case round =>
    obtain ⟨k, hk, rfl, v1, hw1, hf1, ha1⟩ := hrel
    have hc : wr.cell? ⟨b, 0, none⟩ = some v1 := hw1.1.cell 0
    have hll := litB_length n k
    have hbl : (bs ++ litB n k).length ≤ 100000000008 := by rw [List.length_append]; omega
    have hsz := hf1.size
    have HL := Lib.hid hll
    clear hll
    by_cases hlt : k < m
    · have e8 : IntKind.i64.wrap (8 * (k : Int)) = 8 * k := IntWalk.i64_in _ (by omega)
      have hblt : b < wr.heap.size := hw1.1.lt
      have ew : IntKind.u8.wrap (n / 2 ^ (8 * k)) = n / 2 ^ (8 * k) % 256 := IntKind.wrap_u8' _
      have e8n : 0 ≤ 8 * (k : Int) := by omega
      have e8t : (8 * (k : Int)).toNat = 8 * k := by omega
      have HNS := Lib.hid (u8s_single (n / 2 ^ (8 * k) % 256) (Int.emod_nonneg _ (by omega)) (Int.emod_lt_of_pos _ (by omega)))
      go_wp2_with fail
      go_region_law ((refine step_append_lies _ (by rfl) _ _ _ (by rfl) base 5 i0 _ 1 1 Try.underlying62 hi hz0 hz1 hz2 rfl (by omega) v1 (bs ++ litB n k).length (u8s (bs ++ litB n k)) (by rfl) ((hw1.2.alloc _).drew) ⟨wr.heap.size, 0, none⟩ 1 1 [.int .u8 (n / 2 ^ (8 * k) % 256)] (by rfl) (by rfl) (World.news_of_block (cs := #[.int .u8 (n / 2 ^ (8 * k) % 256)]) (t := 5) (fr := (0, 0)) (heap_alloc_new wr _)) (by simp [Value.oneCell']) (by omega) (by unfold maxLen; omega) (by omega) (by simp; omega) (wr.heap.size + 1) (by simp) ?_; intro g cap w1 hown1 hgrow hat hlt1; rw [← HNS.out] at hown1; obtain ⟨q1, q2, q3⟩ := wrote_lies hw1 rfl hown1 hgrow hat (by omega); have Q3 := Lib.hid q3; clear q3 hown1 hgrow hat hlt1))
      all_goals
        clear e8 e8n e8t ew
        go_wp2
        go_roundw
        case rel =>
          refine ⟨k + 1, by omega, by go_num, ?_⟩
          rw [litB_succ, ← List.append_assoc, ← p256]
          have Q4 := Q3.out
          rw [List.length_append] at Q4
          exact Wrote.trans hf1 ha1 Q4
        case measure => simp [intOf]; omega
    · obtain rfl : k = m := by omega
      go_wp2
      go_ret
      exact ⟨rfl, v1, hw1, hf1, ha1⟩

theorem Little_nil (n m : Int) (w : World) : Calls Try.prog 41 #[.pointer none, .int .i64 n, .int .i64 m] w fun e w' => e = .returned (.int .i64 6) ∧ w = w' := by
  go_enter Try.func41, Try.ntmps41
  go_wp2
  go_ret
  exact ⟨rfl, rfl⟩
theorem Signed_nil (n m : Int) (w : World) : Calls Try.prog 31 #[.pointer none, .int .i64 n, .int .i64 m] w fun e w' => e = .returned (.int .i64 6) ∧ w = w' := by
  go_enter Try.func31, Try.ntmps31
  go_wp2
  go_ret
  exact ⟨rfl, rfl⟩
/-- Little: the error, and what is written. -/
def litE (n m : Int) : Int := if sized m = false then 1 else if n < 0 ∨ m < 8 ∧ 2 ^ (8 * m.toNat) ≤ n then 11 else 0
def sgnE (n m : Int) : Int := if sized m = false then 1 else if n < -2 ^ (8 * m.toNat - 1) ∨ 2 ^ (8 * m.toNat - 1) ≤ n then 11 else 0
theorem Wrote.below {w w1 w2 : World} {base b : Nat} {v : Value} {bs : List UInt8} (hw : Below w.heap.size w w1) (h : Wrote w1 w2 base b v bs) : Wrote w w2 base b v bs := by
  obtain ⟨v', h1, h2, h3⟩ := h
  exact ⟨v', h1, ⟨h2.os.trans hw.os, h2.tape.trans hw.tape, h2.output.trans hw.output, Nat.le_trans hw.size h2.size, fun k hk hb hr => (h2.block k (Nat.lt_of_lt_of_le hk hw.size) hb hr).trans (hw.block k hk)⟩,
    h3.imp id fun h k hk => Nat.le_trans hw.size (h k hk)⟩
def LitPost (w : World) (base b : Nat) (v : Value) (bs : List UInt8) (n : Int) (m : Nat) (E : Int) (e : Ending) (w' : World) : Prop :=
  e = .returned (.int .i64 E) ∧ Wrote w w' base b v (bs ++ if E = 0 then litB n m else [])
theorem litPost_err {w w' : World} {base b : Nat} {v : Value} {bs : List UInt8} {n : Int} {m : Nat} {E : Int} (hE : E ≠ 0) (hw : WrAt w base b v bs) (hb : Below w.heap.size w w') : LitPost w base b v bs n m E (.returned (.int .i64 E)) w' :=
  ⟨rfl, by rw [if_neg hE, List.append_nil]; exact Wrote.same hw hb⟩
theorem litPost_ok {w w1 w' : World} {base b : Nat} {v : Value} {bs : List UInt8} {n : Int} {m : Nat} (hb : Below w.heap.size w w1) (h : Wrote w1 w' base b v (bs ++ litB n m)) : LitPost w base b v bs n m 0 (.returned (.int .i64 0)) w' :=
  ⟨rfl, by rw [if_pos rfl]; exact Wrote.below hb h⟩
theorem litE_bad {n m : Int} (h : sized m = false) : litE n m = 1 := by unfold litE; rw [if_pos h]
theorem litE_far {n m : Int} (h : sized m = true) (h1 : n < 0 ∨ m < 8 ∧ 2 ^ (8 * m.toNat) ≤ n) : litE n m = 11 := by unfold litE; rw [if_neg (by rw [h]; simp), if_pos h1]
theorem litE_ok {n m : Int} (h : sized m = true) (h1 : ¬ (n < 0 ∨ m < 8 ∧ 2 ^ (8 * m.toNat) ≤ n)) : litE n m = 0 := by unfold litE; rw [if_neg (by rw [h]; simp), if_neg h1]
theorem sgnE_bad {n m : Int} (h : sized m = false) : sgnE n m = 1 := by unfold sgnE; rw [if_pos h]
theorem sgnE_far {n m : Int} (h : sized m = true) (h1 : n < -2 ^ (8 * m.toNat - 1) ∨ 2 ^ (8 * m.toNat - 1) ≤ n) : sgnE n m = 11 := by unfold sgnE; rw [if_neg (by rw [h]; simp), if_pos h1]
theorem sgnE_ok {n m : Int} (h : sized m = true) (h1 : ¬ (n < -2 ^ (8 * m.toNat - 1) ∨ 2 ^ (8 * m.toNat - 1) ≤ n)) : sgnE n m = 0 := by unfold sgnE; rw [if_neg (by rw [h]; simp), if_neg h1]

set_option maxRecDepth 100000 in
set_option maxHeartbeats 3200000 in
theorem Little_any (n m : Int) (base b : Nat) (v : Value) (bs : List UInt8) (w : World) (h0 : -9223372036854775808 ≤ n) (h1 : n ≤ 9223372036854775807) (hlen : bs.length ≤ 100000000000) (hw : WrAt w base b v bs)
   (hbase : base ≤ w.heap.size) :
    Calls Try.prog 41 #[.pointer (some ⟨b, 0, none⟩), .int .i64 n, .int .i64 m] w (LitPost w base b v bs n m.toNat (litE n m)) := by
  cases hs : sized m
  · rw [litE_bad hs]
    have HS := Lib.hid hs
    clear hs
    go_enter Try.func41, Try.ntmps41
    go_wp2_with (go_at_call 64; refine (width_any m _).mono ?_; rintro e w1 ⟨rfl, hb1⟩; rw [HS.out])
    go_ret
    exact litPost_err (by decide) hw hb1
  · have hm := sized_iff.1 hs
    by_cases hr : n < 0
    · rw [litE_far hs (.inl hr)]
      have HS := Lib.hid hs
      clear hs hm
      go_enter Try.func41, Try.ntmps41
      go_wp2_with (go_at_call 64; refine (width_any m _).mono ?_; rintro e w1 ⟨rfl, hb1⟩; rw [HS.out])
      go_ret
      exact litPost_err (by decide) hw hb1
    · have HS := Lib.hid hs
      rcases hm with rfl | rfl | rfl | rfl
      · by_cases hf : 256 ≤ n
        · rw [litE_far hs (.inr ⟨by omega, hf⟩)]
          have ht : (n / 256 != 0) = true := by rw [bne_iff_ne]; omega
          clear hs
          go_enter Try.func41, Try.ntmps41
          go_wp2_with (go_at_call 64; refine (width_any 1 _).mono ?_; rintro e w1 ⟨rfl, hb1⟩; rw [HS.out])
          go_ret
          exact litPost_err (by decide) hw hb1
        · rw [litE_ok hs (by rintro (h | ⟨_, h⟩); exact hr h; exact hf h)]
          have ht : (n / 256 != 0) = false := by rw [bne_eq_false_iff_eq]; omega
          clear hs
          go_enter Try.func41, Try.ntmps41
          go_wp2_with (go_at_call 64; refine (width_any 1 _).mono ?_; rintro e w1 ⟨rfl, hb1⟩; rw [HS.out])
          refine (little_any n 1 base b v bs _ (by omega) hlen (hw.below hb1) (by have := hb1.size; omega)).mono ?_
          rintro e w2 ⟨rfl, hq⟩
          have HQ := Lib.hid hq
          clear hq
          go_wp2
          go_ret
          exact litPost_ok hb1 HQ.out
      · by_cases hf : 65536 ≤ n
        · rw [litE_far hs (.inr ⟨by omega, hf⟩)]
          have ht : (n / 65536 != 0) = true := by rw [bne_iff_ne]; omega
          clear hs
          go_enter Try.func41, Try.ntmps41
          go_wp2_with (go_at_call 64; refine (width_any 2 _).mono ?_; rintro e w1 ⟨rfl, hb1⟩; rw [HS.out])
          go_ret
          exact litPost_err (by decide) hw hb1
        · rw [litE_ok hs (by rintro (h | ⟨_, h⟩); exact hr h; exact hf h)]
          have ht : (n / 65536 != 0) = false := by rw [bne_eq_false_iff_eq]; omega
          clear hs
          go_enter Try.func41, Try.ntmps41
          go_wp2_with (go_at_call 64; refine (width_any 2 _).mono ?_; rintro e w1 ⟨rfl, hb1⟩; rw [HS.out])
          refine (little_any n 2 base b v bs _ (by omega) hlen (hw.below hb1) (by have := hb1.size; omega)).mono ?_
          rintro e w2 ⟨rfl, hq⟩
          have HQ := Lib.hid hq
          clear hq
          go_wp2
          go_ret
          exact litPost_ok hb1 HQ.out
      · by_cases hf : 4294967296 ≤ n
        · rw [litE_far hs (.inr ⟨by omega, hf⟩)]
          have ht : (n / 4294967296 != 0) = true := by rw [bne_iff_ne]; omega
          clear hs
          go_enter Try.func41, Try.ntmps41
          go_wp2_with (go_at_call 64; refine (width_any 4 _).mono ?_; rintro e w1 ⟨rfl, hb1⟩; rw [HS.out])
          go_ret
          exact litPost_err (by decide) hw hb1
        · rw [litE_ok hs (by rintro (h | ⟨_, h⟩); exact hr h; exact hf h)]
          have ht : (n / 4294967296 != 0) = false := by rw [bne_eq_false_iff_eq]; omega
          clear hs
          go_enter Try.func41, Try.ntmps41
          go_wp2_with (go_at_call 64; refine (width_any 4 _).mono ?_; rintro e w1 ⟨rfl, hb1⟩; rw [HS.out])
          refine (little_any n 4 base b v bs _ (by omega) hlen (hw.below hb1) (by have := hb1.size; omega)).mono ?_
          rintro e w2 ⟨rfl, hq⟩
          have HQ := Lib.hid hq
          clear hq
          go_wp2
          go_ret
          exact litPost_ok hb1 HQ.out
      · rw [litE_ok hs (by rintro (h | ⟨h, _⟩); exact hr h; omega)]
        clear hs
        go_enter Try.func41, Try.ntmps41
        go_wp2_with (go_at_call 64; refine (width_any 8 _).mono ?_; rintro e w1 ⟨rfl, hb1⟩; rw [HS.out])
        refine (little_any n 8 base b v bs _ (by omega) hlen (hw.below hb1) (by have := hb1.size; omega)).mono ?_
        rintro e w2 ⟨rfl, hq⟩
        have HQ := Lib.hid hq
        clear hq
        go_wp2
        go_ret
        exact litPost_ok hb1 HQ.out

set_option maxRecDepth 100000 in
set_option maxHeartbeats 3200000 in
theorem Signed_any (n m : Int) (base b : Nat) (v : Value) (bs : List UInt8) (w : World) (h0 : -9223372036854775808 ≤ n) (h1 : n ≤ 9223372036854775807) (hlen : bs.length ≤ 100000000000) (hw : WrAt w base b v bs)
   (hbase : base ≤ w.heap.size) :
    Calls Try.prog 31 #[.pointer (some ⟨b, 0, none⟩), .int .i64 n, .int .i64 m] w (LitPost w base b v bs n m.toNat (sgnE n m)) := by
  cases hs : sized m
  · rw [sgnE_bad hs]
    have HS := Lib.hid hs
    clear hs
    go_enter Try.func31, Try.ntmps31
    go_wp2_with (go_at_call 64; refine (width_any m _).mono ?_; rintro e w1 ⟨rfl, hb1⟩; rw [HS.out])
    go_ret
    exact litPost_err (by decide) hw hb1
  · have hm := sized_iff.1 hs
    have HS := Lib.hid hs
    rcases hm with rfl | rfl | rfl | rfl
    · rcases (show n < -128 ∨ (-128 ≤ n ∧ n < 0) ∨ (0 ≤ n ∧ n < 128) ∨ 128 ≤ n by omega) with hr | hr | hr | hr
      · rw [sgnE_far hs (by left; show _; simp; omega)]
        have t0 : (n / 128 != 0) = true := by rw [bne_iff_ne]; omega
        have t1 : (n / 128 != -1) = true := by rw [bne_iff_ne]; omega
        clear hs
        go_enter Try.func31, Try.ntmps31
        go_wp2_with (go_at_call 64; refine (width_any 1 _).mono ?_; rintro e w1 ⟨rfl, hb1⟩; rw [HS.out])
        go_ret
        exact litPost_err (by decide) hw hb1
      · rw [sgnE_ok hs (by intro h; simp at h; omega)]
        have t0 : (n / 128 != 0) = true := by rw [bne_iff_ne]; omega
        have t1 : (n / 128 != -1) = false := by rw [bne_eq_false_iff_eq]; omega
        clear hs
        go_enter Try.func31, Try.ntmps31
        go_wp2_with (go_at_call 64; refine (width_any 1 _).mono ?_; rintro e w1 ⟨rfl, hb1⟩; rw [HS.out])
        refine (little_any n 1 base b v bs _ (by omega) hlen (hw.below hb1) (by have := hb1.size; omega)).mono ?_
        rintro e w2 ⟨rfl, hq⟩
        have HQ := Lib.hid hq
        clear hq
        go_wp2
        go_ret
        exact litPost_ok hb1 HQ.out
      · rw [sgnE_ok hs (by intro h; simp at h; omega)]
        have t0 : (n / 128 != 0) = false := by rw [bne_eq_false_iff_eq]; omega
        have t1 : (n / 128 != -1) = true := by rw [bne_iff_ne]; omega
        clear hs
        go_enter Try.func31, Try.ntmps31
        go_wp2_with (go_at_call 64; refine (width_any 1 _).mono ?_; rintro e w1 ⟨rfl, hb1⟩; rw [HS.out])
        refine (little_any n 1 base b v bs _ (by omega) hlen (hw.below hb1) (by have := hb1.size; omega)).mono ?_
        rintro e w2 ⟨rfl, hq⟩
        have HQ := Lib.hid hq
        clear hq
        go_wp2
        go_ret
        exact litPost_ok hb1 HQ.out
      · rw [sgnE_far hs (by right; show _; simp; omega)]
        have t0 : (n / 128 != 0) = true := by rw [bne_iff_ne]; omega
        have t1 : (n / 128 != -1) = true := by rw [bne_iff_ne]; omega
        clear hs
        go_enter Try.func31, Try.ntmps31
        go_wp2_with (go_at_call 64; refine (width_any 1 _).mono ?_; rintro e w1 ⟨rfl, hb1⟩; rw [HS.out])
        go_ret
        exact litPost_err (by decide) hw hb1
    · rcases (show n < -32768 ∨ (-32768 ≤ n ∧ n < 0) ∨ (0 ≤ n ∧ n < 32768) ∨ 32768 ≤ n by omega) with hr | hr | hr | hr
      · rw [sgnE_far hs (by left; show _; simp; omega)]
        have t0 : (n / 32768 != 0) = true := by rw [bne_iff_ne]; omega
        have t1 : (n / 32768 != -1) = true := by rw [bne_iff_ne]; omega
        clear hs
        go_enter Try.func31, Try.ntmps31
        go_wp2_with (go_at_call 64; refine (width_any 2 _).mono ?_; rintro e w1 ⟨rfl, hb1⟩; rw [HS.out])
        go_ret
        exact litPost_err (by decide) hw hb1
      · rw [sgnE_ok hs (by intro h; simp at h; omega)]
        have t0 : (n / 32768 != 0) = true := by rw [bne_iff_ne]; omega
        have t1 : (n / 32768 != -1) = false := by rw [bne_eq_false_iff_eq]; omega
        clear hs
        go_enter Try.func31, Try.ntmps31
        go_wp2_with (go_at_call 64; refine (width_any 2 _).mono ?_; rintro e w1 ⟨rfl, hb1⟩; rw [HS.out])
        refine (little_any n 2 base b v bs _ (by omega) hlen (hw.below hb1) (by have := hb1.size; omega)).mono ?_
        rintro e w2 ⟨rfl, hq⟩
        have HQ := Lib.hid hq
        clear hq
        go_wp2
        go_ret
        exact litPost_ok hb1 HQ.out
      · rw [sgnE_ok hs (by intro h; simp at h; omega)]
        have t0 : (n / 32768 != 0) = false := by rw [bne_eq_false_iff_eq]; omega
        have t1 : (n / 32768 != -1) = true := by rw [bne_iff_ne]; omega
        clear hs
        go_enter Try.func31, Try.ntmps31
        go_wp2_with (go_at_call 64; refine (width_any 2 _).mono ?_; rintro e w1 ⟨rfl, hb1⟩; rw [HS.out])
        refine (little_any n 2 base b v bs _ (by omega) hlen (hw.below hb1) (by have := hb1.size; omega)).mono ?_
        rintro e w2 ⟨rfl, hq⟩
        have HQ := Lib.hid hq
        clear hq
        go_wp2
        go_ret
        exact litPost_ok hb1 HQ.out
      · rw [sgnE_far hs (by right; show _; simp; omega)]
        have t0 : (n / 32768 != 0) = true := by rw [bne_iff_ne]; omega
        have t1 : (n / 32768 != -1) = true := by rw [bne_iff_ne]; omega
        clear hs
        go_enter Try.func31, Try.ntmps31
        go_wp2_with (go_at_call 64; refine (width_any 2 _).mono ?_; rintro e w1 ⟨rfl, hb1⟩; rw [HS.out])
        go_ret
        exact litPost_err (by decide) hw hb1
    · rcases (show n < -2147483648 ∨ (-2147483648 ≤ n ∧ n < 0) ∨ (0 ≤ n ∧ n < 2147483648) ∨ 2147483648 ≤ n by omega) with hr | hr | hr | hr
      · rw [sgnE_far hs (by left; show _; simp; omega)]
        have t0 : (n / 2147483648 != 0) = true := by rw [bne_iff_ne]; omega
        have t1 : (n / 2147483648 != -1) = true := by rw [bne_iff_ne]; omega
        clear hs
        go_enter Try.func31, Try.ntmps31
        go_wp2_with (go_at_call 64; refine (width_any 4 _).mono ?_; rintro e w1 ⟨rfl, hb1⟩; rw [HS.out])
        go_ret
        exact litPost_err (by decide) hw hb1
      · rw [sgnE_ok hs (by intro h; simp at h; omega)]
        have t0 : (n / 2147483648 != 0) = true := by rw [bne_iff_ne]; omega
        have t1 : (n / 2147483648 != -1) = false := by rw [bne_eq_false_iff_eq]; omega
        clear hs
        go_enter Try.func31, Try.ntmps31
        go_wp2_with (go_at_call 64; refine (width_any 4 _).mono ?_; rintro e w1 ⟨rfl, hb1⟩; rw [HS.out])
        refine (little_any n 4 base b v bs _ (by omega) hlen (hw.below hb1) (by have := hb1.size; omega)).mono ?_
        rintro e w2 ⟨rfl, hq⟩
        have HQ := Lib.hid hq
        clear hq
        go_wp2
        go_ret
        exact litPost_ok hb1 HQ.out
      · rw [sgnE_ok hs (by intro h; simp at h; omega)]
        have t0 : (n / 2147483648 != 0) = false := by rw [bne_eq_false_iff_eq]; omega
        have t1 : (n / 2147483648 != -1) = true := by rw [bne_iff_ne]; omega
        clear hs
        go_enter Try.func31, Try.ntmps31
        go_wp2_with (go_at_call 64; refine (width_any 4 _).mono ?_; rintro e w1 ⟨rfl, hb1⟩; rw [HS.out])
        refine (little_any n 4 base b v bs _ (by omega) hlen (hw.below hb1) (by have := hb1.size; omega)).mono ?_
        rintro e w2 ⟨rfl, hq⟩
        have HQ := Lib.hid hq
        clear hq
        go_wp2
        go_ret
        exact litPost_ok hb1 HQ.out
      · rw [sgnE_far hs (by right; show _; simp; omega)]
        have t0 : (n / 2147483648 != 0) = true := by rw [bne_iff_ne]; omega
        have t1 : (n / 2147483648 != -1) = true := by rw [bne_iff_ne]; omega
        clear hs
        go_enter Try.func31, Try.ntmps31
        go_wp2_with (go_at_call 64; refine (width_any 4 _).mono ?_; rintro e w1 ⟨rfl, hb1⟩; rw [HS.out])
        go_ret
        exact litPost_err (by decide) hw hb1
    · rcases (show n < -9223372036854775808 ∨ (-9223372036854775808 ≤ n ∧ n < 0) ∨ (0 ≤ n ∧ n < 9223372036854775808) ∨ 9223372036854775808 ≤ n by omega) with hr | hr | hr | hr
      · rw [sgnE_far hs (by left; show _; simp; omega)]
        have t0 : (n / 9223372036854775808 != 0) = true := by rw [bne_iff_ne]; omega
        have t1 : (n / 9223372036854775808 != -1) = true := by rw [bne_iff_ne]; omega
        clear hs
        go_enter Try.func31, Try.ntmps31
        go_wp2_with (go_at_call 64; refine (width_any 8 _).mono ?_; rintro e w1 ⟨rfl, hb1⟩; rw [HS.out])
        go_ret
        exact litPost_err (by decide) hw hb1
      · rw [sgnE_ok hs (by intro h; simp at h; omega)]
        have t0 : (n / 9223372036854775808 != 0) = true := by rw [bne_iff_ne]; omega
        have t1 : (n / 9223372036854775808 != -1) = false := by rw [bne_eq_false_iff_eq]; omega
        clear hs
        go_enter Try.func31, Try.ntmps31
        go_wp2_with (go_at_call 64; refine (width_any 8 _).mono ?_; rintro e w1 ⟨rfl, hb1⟩; rw [HS.out])
        refine (little_any n 8 base b v bs _ (by omega) hlen (hw.below hb1) (by have := hb1.size; omega)).mono ?_
        rintro e w2 ⟨rfl, hq⟩
        have HQ := Lib.hid hq
        clear hq
        go_wp2
        go_ret
        exact litPost_ok hb1 HQ.out
      · rw [sgnE_ok hs (by intro h; simp at h; omega)]
        have t0 : (n / 9223372036854775808 != 0) = false := by rw [bne_eq_false_iff_eq]; omega
        have t1 : (n / 9223372036854775808 != -1) = true := by rw [bne_iff_ne]; omega
        clear hs
        go_enter Try.func31, Try.ntmps31
        go_wp2_with (go_at_call 64; refine (width_any 8 _).mono ?_; rintro e w1 ⟨rfl, hb1⟩; rw [HS.out])
        refine (little_any n 8 base b v bs _ (by omega) hlen (hw.below hb1) (by have := hb1.size; omega)).mono ?_
        rintro e w2 ⟨rfl, hq⟩
        have HQ := Lib.hid hq
        clear hq
        go_wp2
        go_ret
        exact litPost_ok hb1 HQ.out
      · rw [sgnE_far hs (by right; show _; simp; omega)]
        have t0 : (n / 9223372036854775808 != 0) = true := by rw [bne_iff_ne]; omega
        have t1 : (n / 9223372036854775808 != -1) = true := by rw [bne_iff_ne]; omega
        clear hs
        go_enter Try.func31, Try.ntmps31
        go_wp2_with (go_at_call 64; refine (width_any 8 _).mono ?_; rintro e w1 ⟨rfl, hb1⟩; rw [HS.out])
        go_ret
        exact litPost_err (by decide) hw hb1
end Go.Proofs.Yteendimoopmakaa
