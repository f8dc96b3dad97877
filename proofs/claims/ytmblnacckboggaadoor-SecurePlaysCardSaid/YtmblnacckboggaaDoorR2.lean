/- The reference's Sum (func 16). -/
import Derived.Test.YtmblnacckboggaaDoorR1
import Derived.Test.YtmblnacckboggaaDoorDB
import Derived.Deep.DeepCutAuto
import Derived.Lib.AppendZeros
namespace Go.Proofs.YtmblnacckboggaaDoor
open Go.RowKit
theorem tmod_nat (a b c : Nat) (h : c = a % b) : Int.tmod (a : Int) (b : Int) = (c : Int) := by rw [h]; exact (Int.ofNat_tmod a b).symm
theorem wrap63 (x : Nat) (h : x < 9223372036854775808) : IntKind.i64.wrap (x : Int) = (x : Int) := IntWalk.i64_in _ (by omega)
def lenOf : Value → Nat
  | .string b => b.size
  | _ => 0
theorem ch_or (e f g : Nat) (he : e < 4294967296) : (e &&& f) ||| ((4294967295 - e) &&& g) = SH.ch e f g := by
  have hn : ∀ i, (4294967295 - e).testBit i = (decide (i < 32) && !e.testBit i) := fun i => by
    have h := Nat.testBit_two_pow_sub_succ (n := 32) (x := e) he i
    rw [show 2 ^ 32 - (e + 1) = 4294967295 - e by omega] at h
    exact h
  unfold SH.ch
  apply Nat.eq_of_testBit_eq
  intro i
  rw [Nat.testBit_or, Nat.testBit_xor, Nat.testBit_and, Nat.testBit_and, hn]
  cases e.testBit i <;> cases f.testBit i <;> cases g.testBit i <;> cases decide (i < 32) <;> rfl
theorem maj_or (a b c : Nat) : ((a &&& b) ||| (a &&& c)) ||| (b &&& c) = SH.maj a b c := by
  unfold SH.maj
  apply Nat.eq_of_testBit_eq
  intro i
  simp only [Nat.testBit_or, Nat.testBit_xor, Nat.testBit_and]
  cases a.testBit i <;> cases b.testBit i <;> cases c.testBit i <;> rfl
theorem or_lt {a b : Nat} (ha : a < 4294967296) (hb : b < 4294967296) : a ||| b < 4294967296 := Nat.or_lt_two_pow (n := 32) ha hb
theorem ch_eq2 (e f g : Nat) (he : e < 4294967296) (hf : f < 4294967296) (hg : g < 4294967296) :
    bits .or .u32 (bits .and .u32 (e : Int) f) (bits .and .u32 (bits .xor .u32 IntKind.u32.max (e : Int)) g) = ((SH.ch e f g : Nat) : Int) := by
  rw [not32 e he, u32_and_nat _ _ he hf, u32_and_nat _ _ (by omega) hg, u32_or_nat _ _ (and_lt hf) (and_lt hg), ch_or e f g he]
theorem maj_eq2 (a b c : Nat) (ha : a < 4294967296) (hb : b < 4294967296) (hc : c < 4294967296) :
    bits .or .u32 (bits .or .u32 (bits .and .u32 (a : Int) b) (bits .and .u32 (a : Int) c)) (bits .and .u32 (b : Int) c) = ((SH.maj a b c : Nat) : Int) := by
  rw [u32_and_nat _ _ ha hb, u32_and_nat _ _ ha hc, u32_and_nat _ _ hb hc, u32_or_nat _ _ (and_lt hb) (and_lt hc), u32_or_nat _ _ (or_lt (and_lt hb) (and_lt hc)) (and_lt hc), maj_or]
theorem one_eq2 (h e f g k w : Nat) (he : e < 4294967296) (hf : f < 4294967296) (hg : g < 4294967296) :
    ((((((h : Int) + bits .xor .u32 (bits .xor .u32 (SH.rotr e 6 : Nat) (SH.rotr e 11 : Nat)) (SH.rotr e 25 : Nat)) % 4294967296 + bits .or .u32 (bits .and .u32 (e : Int) f) (bits .and .u32 (bits .xor .u32 IntKind.u32.max (e : Int)) g)) % 4294967296 + (k : Int)) % 4294967296 + (w : Int)) % 4294967296)
      = ((((((h + SH.b1 e) % 4294967296 + SH.ch e f g) % 4294967296 + k) % 4294967296 + w) % 4294967296 : Nat) : Int) := by
  rw [big1_eq e he, ch_eq2 e f g he hf hg, wrap_add, wrap_add, wrap_add, wrap_add]
theorem two_eq2 (a b c : Nat) (ha : a < 4294967296) (hb : b < 4294967296) (hc : c < 4294967296) :
    (bits .xor .u32 (bits .xor .u32 (SH.rotr a 2 : Nat) (SH.rotr a 13 : Nat)) (SH.rotr a 22 : Nat) + bits .or .u32 (bits .or .u32 (bits .and .u32 (a : Int) b) (bits .and .u32 (a : Int) c)) (bits .and .u32 (b : Int) c)) % 4294967296
      = (((SH.b0 a + SH.maj a b c) % 4294967296 : Nat) : Int) := by
  rw [big0_eq a ha, maj_eq2 a b c ha hb hc, wrap_add]
theorem one_eq3 (h e f g k w T : Nat) (he : e < 4294967296) (hf : f < 4294967296) (hg : g < 4294967296) (hT : T = (((((h + SH.b1 e) % 4294967296 + SH.ch e f g) % 4294967296 + k) % 4294967296 + w) % 4294967296)) :
    IntKind.u32.wrap (IntKind.u32.wrap (IntKind.u32.wrap (IntKind.u32.wrap ((h : Int) + bits .xor .u32 (bits .xor .u32 (SH.rotr e 6 : Nat) (SH.rotr e 11 : Nat)) (SH.rotr e 25 : Nat)) + bits .or .u32 (bits .and .u32 (e : Int) f) (bits .and .u32 (bits .xor .u32 IntKind.u32.max (e : Int)) g)) + (k : Int)) + (w : Int)) = (T : Int) := by
  rw [hT, ← one_eq2 h e f g k w he hf hg, wrap32, wrap32, wrap32, wrap32]
theorem two_eq3 (a b c T : Nat) (ha : a < 4294967296) (hb : b < 4294967296) (hc : c < 4294967296) (hT : T = (SH.b0 a + SH.maj a b c) % 4294967296) :
    IntKind.u32.wrap (bits .xor .u32 (bits .xor .u32 (SH.rotr a 2 : Nat) (SH.rotr a 13 : Nat)) (SH.rotr a 22 : Nat) + bits .or .u32 (bits .or .u32 (bits .and .u32 (a : Int) b) (bits .and .u32 (a : Int) c)) (bits .and .u32 (b : Int) c)) = (T : Int) := by
  rw [hT, ← two_eq2 a b c ha hb hc, wrap32]
theorem cell_alloc_old {W : World} {p : Addr} {v : Value} (h : W.cell? p = some v) (hp : p.block < W.heap.size) (n : Nat) (o : Obj) : ((W.drewN n).alloc o).cell? p = some v := by
  have hb := (Below.refl (W.drewN n).heap.size (W.drewN n)).alloc (Nat.le_refl _) o
  exact (hb.cell (p := p) hp).trans h
theorem nums_at' (z : SH.St) (u : Nat) (hu : u < 8) : some (u32c ((nums z).getD u 0)) = ((nums z).map u32c)[u]? := (nums_at z u hu).symm
theorem hmk64 (W : World) : (Instr.makeSlice 117 (.int .i64 64) (.int .i64 64)).run Tryd.prog W = .ok (.slice (some ⟨W.heap.size, 0, none⟩) 64 64) (W.alloc (.cells #[.int .u32 0, .int .u32 0, .int .u32 0, .int .u32 0, .int .u32 0, .int .u32 0, .int .u32 0, .int .u32 0, .int .u32 0, .int .u32 0, .int .u32 0, .int .u32 0, .int .u32 0, .int .u32 0, .int .u32 0, .int .u32 0, .int .u32 0, .int .u32 0, .int .u32 0, .int .u32 0, .int .u32 0, .int .u32 0, .int .u32 0, .int .u32 0, .int .u32 0, .int .u32 0, .int .u32 0, .int .u32 0, .int .u32 0, .int .u32 0, .int .u32 0, .int .u32 0, .int .u32 0, .int .u32 0, .int .u32 0, .int .u32 0, .int .u32 0, .int .u32 0, .int .u32 0, .int .u32 0, .int .u32 0, .int .u32 0, .int .u32 0, .int .u32 0, .int .u32 0, .int .u32 0, .int .u32 0, .int .u32 0, .int .u32 0, .int .u32 0, .int .u32 0, .int .u32 0, .int .u32 0, .int .u32 0, .int .u32 0, .int .u32 0, .int .u32 0, .int .u32 0, .int .u32 0, .int .u32 0, .int .u32 0, .int .u32 0, .int .u32 0, .int .u32 0] 105)) := by kernel_rfl
theorem zrow64 (W : World) (l : List UInt8) : Blk (W.alloc (.cells #[.int .u32 0, .int .u32 0, .int .u32 0, .int .u32 0, .int .u32 0, .int .u32 0, .int .u32 0, .int .u32 0, .int .u32 0, .int .u32 0, .int .u32 0, .int .u32 0, .int .u32 0, .int .u32 0, .int .u32 0, .int .u32 0, .int .u32 0, .int .u32 0, .int .u32 0, .int .u32 0, .int .u32 0, .int .u32 0, .int .u32 0, .int .u32 0, .int .u32 0, .int .u32 0, .int .u32 0, .int .u32 0, .int .u32 0, .int .u32 0, .int .u32 0, .int .u32 0, .int .u32 0, .int .u32 0, .int .u32 0, .int .u32 0, .int .u32 0, .int .u32 0, .int .u32 0, .int .u32 0, .int .u32 0, .int .u32 0, .int .u32 0, .int .u32 0, .int .u32 0, .int .u32 0, .int .u32 0, .int .u32 0, .int .u32 0, .int .u32 0, .int .u32 0, .int .u32 0, .int .u32 0, .int .u32 0, .int .u32 0, .int .u32 0, .int .u32 0, .int .u32 0, .int .u32 0, .int .u32 0, .int .u32 0, .int .u32 0, .int .u32 0, .int .u32 0] 105)) W.heap.size 105 (schedC l 0) := Blk.new W 105 (schedC l 0)
theorem info24 : (Tryd.prog.info? 105).map (fun i => (i.zero, i.size, i.bytes)) = some (some (Value.int .u32 0), 1, 4) := by kernel_rfl
theorem app8 (W : World) (b0 : Addr) (g : Nat) (C : List Value) (hC : Blk W g 105 C) (hl : C.length = 8) : ∃ (cap : Nat) (o : Obj), (Builtin.append_ #[117, 117] 117 #[.slice (some b0) 0 0, .slice (some ⟨g, 0, none⟩) 8 8]).run Tryd.prog W = .ok (.slice (some ⟨W.heap.size, 0, none⟩) 8 cap) (W.drew.alloc o) ∧ ∀ j, j < 8 → (W.drew.alloc o).cell? ⟨W.heap.size, j, none⟩ = C[j]? := by
  cases hi : Tryd.prog.info? 105 with
  | none => have := info24; rw [hi] at this; cases this
  | some i =>
    have h := info24
    rw [hi] at h
    simp only [Option.map_some, Option.some.injEq, Prod.mk.injEq] at h
    obtain ⟨hz, hs, hb⟩ := h
    have hr := run_append_grow (P := Tryd.prog) (w := W) 117 117 105 i (.int .u32 0) Tryd.underlying117 hi hz b0 0 0 [] (by rw [hs]; rfl) (fun j v hv => by cases hv) ⟨g, 0, none⟩ 8 8 C (by rw [hs]; exact hl) (fun j v hv => by rw [Addr.add_mid]; exact (hC.cell (0 + j)).trans (by rw [Nat.zero_add]; exact hv)) (by decide) (by decide) (by rw [hb]; decide)
    refine ⟨_, _, hr, fun j hj => ?_⟩
    rw [cell_of_row _ W.heap.size j _ 105 _ (heap_alloc_new W.drew _)]
    rw [Array.getElem?_append_left (by simp; omega)]
    simp
/-- the first bytes of a word -/
def part (l : List UInt8) (t : Nat) : Nat → Nat
  | 0 => 0
  | i + 1 => part l t i * 256 + (l.getD (4 * t + i) 0).toNat
theorem part_lt (l : List UInt8) (t i : Nat) : part l t i < 256 ^ i := by
  induction i with
  | zero => exact Nat.one_pos
  | succ i ih =>
    have := (l.getD (4 * t + i) 0).toNat_lt
    rw [part, Nat.pow_succ]
    omega
theorem part_all (l : List UInt8) (t : Nat) : part l t 4 = SH.word l t := by
  simp [part, SH.word]
theorem part_step (l : List UInt8) (t i : Nat) (hi : i < 4) (b : Nat) (hb : b = (l.getD (4 * t + i) 0).toNat) :
    bits .or .u32 (((part l t i : Nat) : Int) * 256 % 4294967296) (((b : Nat) : Int) % 4294967296) = (part l t (i + 1) : Nat) := by
  have h1 := part_lt l t i
  have h2 := (l.getD (4 * t + i) 0).toNat_lt
  have h3 : part l t i < 16777216 := Nat.lt_of_lt_of_le h1 (by
    have : i = 0 ∨ i = 1 ∨ i = 2 ∨ i = 3 := by omega
    rcases this with rfl | rfl | rfl | rfl <;> decide)
  rw [part, ← hb]
  rw [← hb] at h2
  generalize part l t i = p at *
  rw [show (p : Int) * 256 % 4294967296 = ((p * 256 : Nat) : Int) by omega, show (b : Int) % 4294967296 = ((b : Nat) : Int) by omega, u32_or_nat _ _ (by omega) (by omega), nat_join 8 _ _ (by omega) (by omega)]
theorem set_same {l : List Value} {i : Nat} {v : Value} (h : l[i]? = some v) : l.set i v = l := by
  apply List.ext_getElem?
  intro k
  rw [List.getElem?_set]
  split
  · next e => subst e; obtain ⟨hl, hv⟩ := List.getElem?_eq_some_iff.1 h; rw [if_pos hl, h]
  · rfl
theorem schedC_len (l : List UInt8) (t : Nat) (ht : t ≤ 64) : (schedC l t).length = 64 := by
  unfold schedC
  rw [List.length_append, List.length_map, sched_len, List.length_replicate]; omega
def hC (M : List UInt8) (j : Nat) : List Value := (nums (SH.blocks SH.root M j)).map u32c
theorem padding_len (n : Nat) : (SH.padding n).length = 9 + (119 - n % 64) % 64 := by
  rw [SH.padding, List.length_cons, List.length_append, List.length_replicate, show (SH.bytes8 (8 * n)).length = 8 from rfl]
  omega
theorem blk_byte (M : List UInt8) (PB : ByteArray) (hPB : PB.data.toList = M) (j t i : Nat) (h : 64 * j + 4 * t + i < PB.size) (ht : 4 * t + i < 64) : (PB[64 * j + 4 * t + i]).toNat = (((M.drop (64 * j)).take 64).getD (4 * t + i) 0).toNat := by
  subst hPB
  rw [← getD_str PB _ h, List.getD_eq_getElem?_getD, List.getD_eq_getElem?_getD, List.getElem?_take, if_pos ht, List.getElem?_drop, Nat.add_assoc]
set_option maxRecDepth 100000 in
set_option maxHeartbeats 64000000 in
theorem rsum_any (s : ByteArray) (hs : s.size < 288230376151711744) (w : World) :
    Calls Tryd.prog 47 #[.string s] w fun e w' => e = .returned (.string ⟨(SH.sum s.data.toList).toArray⟩) ∧ Below w.heap.size w w' := by
  obtain ⟨pad, hpad⟩ : ∃ p, p = (119 - s.size % 64) % 64 := ⟨_, rfl⟩
  have c0 : ¬ 9223372036854775807 < s.size + 1 := by omega
  have c0b : ¬ (9223372036854775807 : Int) < (s.size : Int) + 1 := by omega
  go_enter Tryd.func47, Tryd.ntmps47
  go_wp2_with fail
  clear c0 c0b
  go_loopw [3] (fun s3 wr => ∃ (k : Nat) (P : ByteArray), s3 = .string P ∧ P.data.toList = s.data.toList ++ (128 :: List.replicate k 0) ∧ k ≤ pad ∧ w = wr) (fun s3 _ => s.size + 1 + pad - lenOf s3)
  case atStart => exact ⟨0, _, rfl, by rw [ap_list]; rfl, Nat.zero_le _, rfl⟩
  case round =>
    obtain ⟨k, P, rfl, hP, hk, rfl⟩ := hrel
    have hsz : P.size = s.size + 1 + k := by rw [← bytes_len, hP]; simp; omega
    have c1 : ¬ 9223372036854775807 < P.size + 1 := by omega
    have c1b : ¬ (9223372036854775807 : Int) < (P.size : Int) + 1 := by omega
    have t1 : Int.tmod (P.size : Int) 64 = ((P.size % 64 : Nat) : Int) := tmod_nat _ 64 _ rfl
    by_cases hlt : k < pad
    · have HP := Lib.hid hP
      have HSZ := Lib.hid hsz
      obtain ⟨c, hc⟩ : ∃ c, c = P.size % 64 := ⟨_, rfl⟩
      rw [← hc] at t1
      have hne : ¬ (c : Int) = 56 := by omega
      have hne2 : ((c : Int) != 56) = true := by rw [bne_iff_ne]; exact hne
      clear hP hsz hc
      go_wp2_with fail
      refine ⟨⟨k + 1, _, rfl, ?_, hlt, trivial⟩, ?_⟩
      · rw [ap_list, HP.out, List.replicate_succ', List.append_assoc]
        rfl
      · have e1 : (P ++ (⟨#[0]⟩ : ByteArray)).size = P.size + 1 := by rw [ByteArray.size_append]; rfl
        have := HSZ.out
        simp only [lenOf, e1]
        omega
    · obtain rfl : k = pad := by omega
      obtain ⟨c, hc⟩ : ∃ c, c = P.size % 64 := ⟨_, rfl⟩
      rw [← hc] at t1
      obtain rfl : c = 56 := by omega
      have f1 : IntKind.i64.wrap (8 * (s.size : Int)) = ((8 * s.size : Nat) : Int) := by rw [IntWalk.i64_in _ (by omega)]; omega
      obtain ⟨E8, hE⟩ : ∃ E8 : ByteArray, E8 = ⟨(SH.bytes8 (8 * s.size)).toArray⟩ := ⟨_, rfl⟩
      have hEs : E8.size = 8 := by rw [← bytes_len, hE]; rfl
      have C50 := Lib.hid (fun W => (Bytes8_any (8 * s.size) W).mono (fun e w' h => by rw [← hE] at h; exact h))
      have c2 : ¬ 9223372036854775807 < P.size + E8.size := by omega
      obtain ⟨M, hM⟩ : ∃ M, M = s.data.toList ++ SH.padding s.data.toList.length := ⟨_, rfl⟩
      have hPB : (P ++ E8).data.toList = M := by rw [ap_list, hP, hE, hM, SH.padding, bytes_len, hpad, List.append_assoc]; rfl
      have hml : M.length = 64 * (M.length / 64) := by
        rw [hM, List.length_append, padding_len, bytes_len]; omega
      have hms : (P ++ E8).size = M.length := by rw [← bytes_len, hPB]
      have hml2 : M.length < 1152921504606846976 := by rw [← hms, ByteArray.size_append]; omega
      have HSUM := Lib.hid (show SH.sum s.data.toList = SH.out (SH.blocks SH.root M (M.length / 64)) by rw [hM]; rfl)
      obtain ⟨PB, hPBe⟩ : ∃ PB, PB = P ++ E8 := ⟨_, rfl⟩
      rw [← hPBe] at hPB hms
      have HPB := Lib.hid hPB
      have HPE := Lib.hid hPBe
      obtain ⟨nb, hnb⟩ : ∃ n, n = M.length / 64 := ⟨_, rfl⟩
      rw [← hnb] at hml HSUM
      have HML := Lib.hid (show PB.size = 64 * nb by rw [hms]; exact hml)
      have HML2 := Lib.hid (show 64 * nb < 1152921504606846976 by rw [← hml]; exact hml2)
      clear hP hsz hE hEs hM hPB hml hms hml2 hPBe hpad hnb hk hlt hs hc c1 c1b
      go_wp2_with (first
        | (go_at_call 33; refine (C50.out _).mono ?_; rintro e v1 ⟨rfl, hb1⟩; have B1 := Lib.hid hb1; clear hb1)
        | (go_at_call 58; refine (start_any _).mono ?_; rintro e v2 ⟨rfl, hG, hb2⟩; have GH2 := Lib.hid hG; have B2 := Lib.hid (keepBelow B1.out hb2); have L1 := Lib.hid (B1.out.size); clear hG hb2)
        | (go_at_call 59; refine (consts_any _).mono ?_; rintro e v3 ⟨rfl, hG, hb3⟩; have GK3 := Lib.hid hG; have GH3 := Lib.hid (keepBlk hb3 GH2.out); have B3 := Lib.hid (keepBelow B2.out hb3); have L2 := Lib.hid GH2.out.lt; clear hG hb3))
      rw [← HPE.out]
      have hL1 : w.heap.size ≤ v1.heap.size := L1.out
      have hL2 : v1.heap.size < v2.heap.size := L2.out
      generalize v1.heap.size = gh at *
      generalize v2.heap.size = gk at *
      clear C50 B1 GH2 B2 L1 L2 HPE f1 c2 t1
      go_loopw [6] (fun i wa => ∃ A j : Nat, j ≤ nb ∧ A = 64 * j ∧ i = .int .i64 A ∧ Blk wa gh 105 (hC M j) ∧ Blk wa gk 105 cubesC ∧ Below w.heap.size w wa) (fun i _ => 64 * nb - (intOf i).toNat)
      case atStart => exact ⟨0, 0, Nat.zero_le _, rfl, rfl, GH3.out, GK3.out, B3.out⟩
      case round =>
        obtain ⟨A, j, hj, hA, rfl, hH, hK, hB⟩ := hrel
        generalize wr = wa at *
        have HA := Lib.hid hA
        clear hA
        have GH := Lib.hid hH
        have GK := Lib.hid hK
        have BB := Lib.hid hB
        clear hH hK hB GH3 GK3 B3
        by_cases hlt : j < nb
        · have q1 : (A : Int) < PB.size := by have := HML.out; have := HA.out; omega
          have hmk := hmk64
          go_wp2_with fail
          clear hmk
          obtain ⟨blk, hblk⟩ : ∃ b, b = (M.drop (64 * j)).take 64 := ⟨_, rfl⟩
          obtain ⟨W1, hW1⟩ : ∃ W1, W1 = wa.alloc (.cells #[.int .u32 0, .int .u32 0, .int .u32 0, .int .u32 0, .int .u32 0, .int .u32 0, .int .u32 0, .int .u32 0, .int .u32 0, .int .u32 0, .int .u32 0, .int .u32 0, .int .u32 0, .int .u32 0, .int .u32 0, .int .u32 0, .int .u32 0, .int .u32 0, .int .u32 0, .int .u32 0, .int .u32 0, .int .u32 0, .int .u32 0, .int .u32 0, .int .u32 0, .int .u32 0, .int .u32 0, .int .u32 0, .int .u32 0, .int .u32 0, .int .u32 0, .int .u32 0, .int .u32 0, .int .u32 0, .int .u32 0, .int .u32 0, .int .u32 0, .int .u32 0, .int .u32 0, .int .u32 0, .int .u32 0, .int .u32 0, .int .u32 0, .int .u32 0, .int .u32 0, .int .u32 0, .int .u32 0, .int .u32 0, .int .u32 0, .int .u32 0, .int .u32 0, .int .u32 0, .int .u32 0, .int .u32 0, .int .u32 0, .int .u32 0, .int .u32 0, .int .u32 0, .int .u32 0, .int .u32 0, .int .u32 0, .int .u32 0, .int .u32 0, .int .u32 0] 105) := ⟨_, rfl⟩
          have hgw : Blk W1 wa.heap.size 105 (schedC blk 0) := by rw [hW1]; exact zrow64 wa blk
          have hbw : Below wa.heap.size wa W1 := by rw [hW1]; exact (Below.refl _ _).alloc (Nat.le_refl _) _
          rw [← hW1]
          have GW := Lib.hid hgw
          have BW := Lib.hid hbw
          have HBLK := Lib.hid hblk
          clear hW1 hgw hbw hblk
          have hgh := GH.out.lt
          have hgk := GK.out.lt
          have hA2 : A + 64 ≤ PB.size := by have := HML.out; have := HA.out; omega
          have hbig : PB.size < 1152921504606846976 := by have := HML.out; have := HML2.out; omega
          obtain ⟨gw, hgwe⟩ : ∃ g, g = wa.heap.size := ⟨_, rfl⟩
          rw [← hgwe] at GW BW hgh hgk
          rw [← hgwe]
          have HGW := Lib.hid hgwe
          clear hgwe
          go_loopw [8] (fun i wb => ∃ t : Nat, t ≤ 64 ∧ i = .int .i64 t ∧ Blk wb gw 105 (schedC blk t) ∧ Below gw wa wb) (fun i _ => 64 - (intOf i).toNat)
          case atStart => exact ⟨0, by omega, rfl, GW.out, BW.out⟩
          case round =>
            obtain ⟨t, ht, rfl, hS, hB⟩ := hrel
            generalize wr = wb at *
            have GS := Lib.hid hS
            have BS := Lib.hid hB
            clear hS hB GW BW
            by_cases htl : t < 64
            · have p9 : (t : Int) < 64 := by omega
              have p8 : (0 : Int) ≤ t := by omega
              have HST := Lib.hid (fun v hv => schedC_step blk t htl v hv)
              by_cases h16 : t < 16
              · as_aux_lemma =>
                have p10 : (t : Int) < 16 := by omega
                have HN := Lib.hid (show SH.sched blk (t + 1) = SH.sched blk t ++ [SH.word blk t] by rw [SH.sched, if_pos h16])
                have hS0 : Blk wb gw 105 ((schedC blk t).set t (u32c (part blk t 0))) := by rw [show part blk t 0 = 0 from rfl, set_same (schedC_new blk t htl)]; exact GS.out
                have GS0 := Lib.hid hS0
                have HLN := Lib.hid (schedC_len blk t ht)
                clear hS0
                go_wp2_with fail
                go_loopw [9] (fun i wd => ∃ u : Nat, u ≤ 4 ∧ i = .int .i64 u ∧ Blk wd gw 105 ((schedC blk t).set t (u32c (part blk t u))) ∧ Below gw wa wd) (fun i _ => 4 - (intOf i).toNat)
                case atStart => exact ⟨0, by omega, rfl, GS0.out, BS.out⟩
                case round =>
                  obtain ⟨u, hu, rfl, hS, hB⟩ := hrel
                  generalize wr = wd at *
                  have GU := Lib.hid hS
                  have BU := Lib.hid hB
                  clear hS hB GS0 BS GS
                  by_cases hul : u < 4
                  · have r1 : (u : Int) < 4 := by omega
                    have c0 : wd.cell? ⟨gw, t, none⟩ = some (.int .u32 (part blk t u : Nat)) := (GU.out.cell t).trans (by rw [List.getElem?_set_self (by rw [HLN.out]; exact htl)]; rfl)
                    have f0 : wd.frozen? ⟨gw, t, none⟩ = false := GU.out.frozen t
                    obtain ⟨x4, hx4⟩ : ∃ x, x = 4 * t := ⟨_, rfl⟩
                    obtain ⟨x5, hx5⟩ : ∃ x, x = A + x4 := ⟨_, rfl⟩
                    obtain ⟨x6, hx6⟩ : ∃ x, x = x5 + u := ⟨_, rfl⟩
                    have g1 : IntKind.i64.wrap (4 * (t : Int)) = (x4 : Int) := by rw [IntWalk.i64_in _ (by omega)]; omega
                    have g2 : IntKind.i64.wrap ((A : Int) + x4) = (x5 : Int) := by rw [IntWalk.i64_in _ (by omega)]; omega
                    have g3 : IntKind.i64.wrap ((x5 : Int) + u) = (x6 : Int) := by rw [IntWalk.i64_in _ (by omega)]; omega
                    have hx : x6 < PB.size := by omega
                    have g4 : (x6 : Int) < PB.size := by omega
                    have g5 : (0 : Int) ≤ x6 := by omega
                    have hbyte : (PB[x6]).toNat = (blk.getD (4 * t + u) 0).toNat := by
                      have e : x6 = 64 * j + 4 * t + u := by rw [hx6, hx5, hx4, HA.out]
                      subst e
                      rw [HBLK.out]
                      exact blk_byte M PB HPB.out j t u hx (by omega)
                    have HPS := Lib.hid (part_step blk t u hul _ hbyte)
                    clear hbyte
                    clear hx4 hx5 hx6
                    go_wp2_with fail
                    go_region
                    go_wp2_with fail
                    go_roundw
                    case rel =>
                      refine ⟨u + 1, by omega, by go_num, ?_, (BU.out.setCell (p := ⟨gw, t, none⟩) (Nat.le_refl _) _).drew⟩
                      rw [HPS.out]
                      have := GU.out.set_ t (u32c (part blk t (u + 1)))
                      rw [List.set_set] at this
                      exact blk_drew this
                    case measure => simp [intOf]; omega
                  · obtain rfl : u = 4 := by omega
                    rw [part_all] at GU
                    have HST2 := HST.out _ HN.out
                    rw [HST2] at GU
                    go_wp2_with fail
                    go_roundw
                    case rel => exact ⟨t + 1, by omega, by go_num, GU.out, BU.out⟩
                    case measure => simp [intOf]; omega
              · as_aux_lemma =>
                have h16' : 16 ≤ t := by omega
                have hW := fun k (_ : k < t) => sched_lt blk t k
                have l2 : t - 2 < t := by omega
                have l15 : t - 15 < t := by omega
                have l7 : t - 7 < t := by omega
                have l16 : t - 16 < t := by omega
                have HN := Lib.hid (show SH.sched blk (t + 1) = SH.sched blk t ++ [SH.nextW (SH.sched blk t) t] by rw [SH.sched, if_neg h16])
                have c0 : wb.cell? ⟨gw, t, none⟩ = some (.int .u32 0) := (GS.out.cell t).trans (schedC_new _ t htl)
                have f0 : wb.frozen? ⟨gw, t, none⟩ = false := GS.out.frozen t
                have c15 := (GS.out.cell (t - 15)).trans (schedC_at blk t (t - 15) l15)
                have c2 := (GS.out.cell (t - 2)).trans (schedC_at blk t (t - 2) l2)
                have c7 := (GS.out.cell (t - 7)).trans (schedC_at blk t (t - 7) l7)
                have c16 := (GS.out.cell (t - 16)).trans (schedC_at blk t (t - 16) l16)
                unfold u32c at c15 c2 c7 c16
                have hnw : SH.nextW (SH.sched blk t) t = (((SH.s1 ((SH.sched blk t).getD (t - 2) 0) + (SH.sched blk t).getD (t - 7) 0) % 4294967296 + SH.s0 ((SH.sched blk t).getD (t - 15) 0)) % 4294967296 + (SH.sched blk t).getD (t - 16) 0) % 4294967296 := rfl
                have HSTEP := Lib.hid (HST.out _ HN.out)
                clear HN HST
                rw [hnw] at HSTEP
                have q2 := hW _ l2
                have q7 := hW _ l7
                have q15 := hW _ l15
                have q16 := hW _ l16
                clear hnw hW
                generalize (SH.sched blk t).getD (t - 2) 0 = y2 at *
                generalize (SH.sched blk t).getD (t - 7) 0 = y7 at *
                generalize (SH.sched blk t).getD (t - 15) 0 = y15 at *
                generalize (SH.sched blk t).getD (t - 16) 0 = y16 at *
                have HNX := Lib.hid (next_eq y2 y7 y15 y16 q2 q15)
                have m15 : IntKind.i64.wrap ((t : Int) - 15) = t - 15 := IntWalk.i64_in _ (by omega)
                have n15 : ((t : Int) - 15).toNat = t - 15 := by omega
                have pp15 : (0 : Int) ≤ (t : Int) - 15 := by omega
                have pq15 : (t : Int) - 15 < 64 := by omega
                have m2 : IntKind.i64.wrap ((t : Int) - 2) = t - 2 := IntWalk.i64_in _ (by omega)
                have n2 : ((t : Int) - 2).toNat = t - 2 := by omega
                have pp2 : (0 : Int) ≤ (t : Int) - 2 := by omega
                have pq2 : (t : Int) - 2 < 64 := by omega
                have m7 : IntKind.i64.wrap ((t : Int) - 7) = t - 7 := IntWalk.i64_in _ (by omega)
                have n7 : ((t : Int) - 7).toNat = t - 7 := by omega
                have pp7 : (0 : Int) ≤ (t : Int) - 7 := by omega
                have pq7 : (t : Int) - 7 < 64 := by omega
                have m16 : IntKind.i64.wrap ((t : Int) - 16) = t - 16 := IntWalk.i64_in _ (by omega)
                have n16 : ((t : Int) - 16).toNat = t - 16 := by omega
                have pp16 : (0 : Int) ≤ (t : Int) - 16 := by omega
                have pq16 : (t : Int) - 16 < 64 := by omega
                have p10 : ¬ (t : Int) < 16 := by omega
                have p11 : (7 : Int) ≤ t := by omega
                have p12 : (16 : Int) ≤ t := by omega
                have z7' : ¬ t = t - 7 := by omega
                have z16' : ¬ t = t - 16 := by omega
                have z7 : ¬ t - 7 = t := by omega
                have z16 : ¬ t - 16 = t := by omega
                go_wp2_with fail
                go_quiet (fail)
                go_wp2_with fail
                go_region_held3 (fun W => W.cell? ⟨gw, t - 7, none⟩ = some (.int .u32 y7) ∧ W.cell? ⟨gw, t - 16, none⟩ = some (.int .u32 y16)) (first | go_keep | (exact ⟨by rw [World.cell?_setCell_other (h := show (⟨gw, t, none⟩ : Addr) ≠ ⟨gw, t - 7, none⟩ from fun e => z7' (Addr.mk.inj e).2.1)]; exact c7, by rw [World.cell?_setCell_other (h := show (⟨gw, t, none⟩ : Addr) ≠ ⟨gw, t - 16, none⟩ from fun e => z16' (Addr.mk.inj e).2.1)]; exact c16⟩))
                  (first
                    | (go_at_call 60; (with_reducible refine (rright_17 y2 _ q2).mono ?_); rintro e w5 ⟨rfl, m, rfl⟩)
                    | (go_at_call 60; (with_reducible refine (rright_19 y2 _ q2).mono ?_); rintro e w5 ⟨rfl, m, rfl⟩)
                    | (go_at_call 60; (with_reducible refine (rright_7 y15 _ q15).mono ?_); rintro e w5 ⟨rfl, m, rfl⟩)
                    | (go_at_call 60; (with_reducible refine (rright_18 y15 _ q15).mono ?_); rintro e w5 ⟨rfl, m, rfl⟩))
                go_wp2_with fail
                go_roundw
                case rel =>
                  refine ⟨t + 1, by omega, by go_num, ?_, ?_⟩
                  · rw [HNX.out]
                    have := GS.out.set_ t (u32c ((((SH.s1 y2 + y7) % 4294967296 + SH.s0 y15) % 4294967296 + y16) % 4294967296))
                    rw [HSTEP.out] at this
                    exact this
                  · exact below_setd BS.out (by simp) _ _
                case measure => simp [intOf]; omega
            · obtain rfl : t = 64 := by omega
              have hgh2 := hgh
              have hgwl := GS.out.lt
              have GHb := Lib.hid (GH.out.below BS.out hgh)
              have GKb := Lib.hid (GK.out.below BS.out hgk)
              obtain ⟨X, hX⟩ : ∃ X, X = SH.blocks SH.root M j := ⟨_, rfl⟩
              have hXok : X.ok := by rw [hX]; exact SH.blocks_ok M j
              have HXOK := Lib.hid hXok
              have hHX : hC M j = (nums X).map u32c := by rw [hX]; rfl
              rw [hHX] at GHb
              have HNEXT := Lib.hid (show hC M (j + 1) = (nums (SH.addS X (SH.rounds (SH.sched blk 64) X 64))).map u32c by rw [HBLK.out, hX]; rfl)
              have HX := Lib.hid hX
              clear hX hXok hHX
              obtain ⟨cap, ob, hrun, hcv⟩ := app8 (wb.alloc (.cells #[] 105)) ⟨wb.heap.size, 0, none⟩ gh _ (GHb.out.alloc _) (by rfl)
              have HRUN := Lib.hid hrun
              have HCV := Lib.hid hcv
              clear hrun hcv
              go_wp2_with (refine Lib.wpList_append_run _ rfl (.tmp 114) (.tmp 115) 117 117 rfl _ _ rfl rfl _ _ HRUN.out ?_)
              have hgsz : (wb.alloc (.cells #[] 105)).heap.size = wb.heap.size + 1 := by simp
              rw [hgsz] at HCV
              obtain ⟨W2, hW2⟩ : ∃ W2, W2 = ((wb.alloc (.cells #[] 105)).alloc ob).drew := ⟨_, rfl⟩
              have hBW2 : Below wb.heap.size wb W2 := by rw [hW2]; exact (((Below.refl _ _).alloc (Nat.le_refl _) _).alloc (by simp) _).drew
              have hcv2 : ∀ u, u < 8 → W2.cell? ⟨wb.heap.size + 1, u, none⟩ = some (u32c ((nums (SH.rounds (SH.sched blk 64) X 0)).getD u 0)) := fun u hu => by rw [hW2]; exact (HCV.out u hu).trans (nums_at X u hu)
              rw [← hW2]
              have BV := Lib.hid hBW2
              have CV := Lib.hid hcv2
              clear hBW2 hcv2 hW2 HCV HRUN hgsz
              have GSb := Lib.hid (show Blk wb gw 105 (schedC blk 64) from GS.out)
              go_loopw [12, 13] (fun sv i wd => ∃ t gv cp : Nat, t ≤ 64 ∧ i = .int .i64 t ∧ sv = .slice (some ⟨gv, 0, none⟩) 8 cp ∧ wb.heap.size ≤ gv ∧ (∀ u, u < 8 → wd.cell? ⟨gv, u, none⟩ = some (u32c ((nums (SH.rounds (SH.sched blk 64) X t)).getD u 0))) ∧ Below wb.heap.size wb wd) (fun _ i _ => 64 - (intOf i).toNat)
              case atStart => exact ⟨0, _, _, by omega, rfl, rfl, by omega, CV.out, BV.out⟩
              case round =>
                obtain ⟨t, gv, cp, ht, rfl, rfl, hgv, hcv, hB⟩ := hrel
                generalize wr = wd at *
                have BD := Lib.hid hB
                clear hB BV CV
                by_cases htl : t < 64
                · have hw0 : wd.cell? ⟨gw, t, none⟩ = some (.int .u32 ((SH.sched blk 64).getD t 0 : Nat)) := ((GSb.out.below BD.out hgwl).cell t).trans (schedC_at _ 64 t htl)
                  have hk0 : wd.cell? ⟨gk, t, none⟩ = some (.int .u32 (SH.cubes.getD t 0 : Nat)) := ((GKb.out.below BD.out (Nat.lt_trans hgk (Nat.lt_of_le_of_lt (by have := BS.out.size; exact Nat.le_refl _) hgwl))).cell t).trans (by
                    unfold cubesC
                    rw [List.getElem?_map, List.getD_eq_getElem?_getD, List.getElem?_eq_getElem (by show t < 64; exact htl)]
                    rfl)
                  obtain ⟨y, hy⟩ : ∃ y, y = SH.rounds (SH.sched blk 64) X t := ⟨_, rfl⟩
                  rw [← hy] at hcv
                  have hok := SH.rounds_ok (SH.sched blk 64) X HXOK.out t
                  rw [← hy] at hok
                  have HNX := Lib.hid (show SH.rounds (SH.sched blk 64) X (t + 1) = SH.step y (SH.cubes.getD t 0) ((SH.sched blk 64).getD t 0) by rw [SH.rounds, ← hy])
                  clear hy
                  have hk : SH.cubes.getD t 0 < 4294967296 := cubes_lt t
                  have hw1 := sched_lt blk 64 t
                  generalize SH.cubes.getD t 0 = kk at *
                  generalize (SH.sched blk 64).getD t 0 = wt at *
                  obtain ⟨ya, yb, yc, yd, ye, yf, yg, yh⟩ := y
                  obtain ⟨ka, kb, kc, kd, ke, kf, kg, kh⟩ := hok
                  dsimp only at ka kb kc kd ke kf kg kh
                  have v0 : wd.cell? ⟨gv, 0, none⟩ = some (.int .u32 ya) := hcv 0 (by omega)
                  have v1 : wd.cell? ⟨gv, 1, none⟩ = some (.int .u32 yb) := hcv 1 (by omega)
                  have v2 : wd.cell? ⟨gv, 2, none⟩ = some (.int .u32 yc) := hcv 2 (by omega)
                  have v3 : wd.cell? ⟨gv, 3, none⟩ = some (.int .u32 yd) := hcv 3 (by omega)
                  have v4 : wd.cell? ⟨gv, 4, none⟩ = some (.int .u32 ye) := hcv 4 (by omega)
                  have v5 : wd.cell? ⟨gv, 5, none⟩ = some (.int .u32 yf) := hcv 5 (by omega)
                  have v6 : wd.cell? ⟨gv, 6, none⟩ = some (.int .u32 yg) := hcv 6 (by omega)
                  have v7 : wd.cell? ⟨gv, 7, none⟩ = some (.int .u32 yh) := hcv 7 (by omega)
                  have hcv0 := v0
                  clear hcv
                  obtain ⟨T1, hT1⟩ : ∃ T, T = (((((yh + SH.b1 ye) % 4294967296 + SH.ch ye yf yg) % 4294967296 + kk) % 4294967296 + wt) % 4294967296) := ⟨_, rfl⟩
                  have HONE := Lib.hid (one_eq3 yh ye yf yg kk wt T1 ke kf kg hT1)
                  have HT1 := Lib.hid hT1
                  obtain ⟨T2, hT2⟩ : ∃ T, T = (SH.b0 ya + SH.maj ya yb yc) % 4294967296 := ⟨_, rfl⟩
                  have HTWO := Lib.hid (two_eq3 ya yb yc T2 ka kb kc hT2)
                  have HT2 := Lib.hid hT2
                  clear hT1 hT2
                  have hgvs : gv < wd.heap.size := by
                    rcases Nat.lt_or_ge gv wd.heap.size with hl | hl
                    · exact hl
                    · have e := hcv0
                      simp [World.cell?, Array.getElem?_eq_none hl] at e
                  clear hcv0
                  have p8 : (0 : Int) ≤ t := by omega
                  have p9 : (t : Int) < 64 := by omega
                  go_wp2_with fail
                  go_quiet (fail)
                  go_wp2_with fail
                  go_region_held3 (fun W => W.cell? ⟨gv, 7, none⟩ = some (.int .u32 yh) ∧ W.cell? ⟨gv, 5, none⟩ = some (.int .u32 yf) ∧ W.cell? ⟨gv, 6, none⟩ = some (.int .u32 yg) ∧ W.cell? ⟨gk, t, none⟩ = some (.int .u32 kk) ∧ W.cell? ⟨gw, t, none⟩ = some (.int .u32 wt)) (first | go_keep | exact ⟨v7, v5, v6, hk0, hw0⟩)
                    (first
                      | (go_at_call 60; (with_reducible refine (rright_6 ye _ ke).mono ?_); rintro e w5 ⟨rfl, m, rfl⟩)
                      | (go_at_call 60; (with_reducible refine (rright_11 ye _ ke).mono ?_); rintro e w5 ⟨rfl, m, rfl⟩)
                      | (go_at_call 60; (with_reducible refine (rright_25 ye _ ke).mono ?_); rintro e w5 ⟨rfl, m, rfl⟩))
                  go_wp2_with fail
                  go_region_held3 (fun W => W.cell? ⟨gv, 1, none⟩ = some (.int .u32 yb) ∧ W.cell? ⟨gv, 2, none⟩ = some (.int .u32 yc)) (first | go_keep | exact ⟨v1, v2⟩)
                    (first
                      | (go_at_call 60; (with_reducible refine (rright_2 ya _ ka).mono ?_); rintro e w5 ⟨rfl, m, rfl⟩)
                      | (go_at_call 60; (with_reducible refine (rright_13 ya _ ka).mono ?_); rintro e w5 ⟨rfl, m, rfl⟩)
                      | (go_at_call 60; (with_reducible refine (rright_22 ya _ ka).mono ?_); rintro e w5 ⟨rfl, m, rfl⟩))
                  go_wp2_with fail
                  rw [HONE.out, HTWO.out]
                  obtain ⟨N1, hN1⟩ : ∃ N, N = (T1 + T2) % 4294967296 := ⟨_, rfl⟩
                  obtain ⟨N4, hN4⟩ : ∃ N, N = (yd + T1) % 4294967296 := ⟨_, rfl⟩
                  have s1 : IntKind.u32.wrap ((T1 : Int) + T2) = (N1 : Int) := by rw [hN1, wrap32, wrap_add]
                  have s2 : IntKind.u32.wrap ((yd : Int) + T1) = (N4 : Int) := by rw [hN4, wrap32, wrap_add]
                  have hst : ∀ u, u < 8 → ([.int .u32 N1, .int .u32 ya, .int .u32 yb, .int .u32 yc, .int .u32 N4, .int .u32 ye, .int .u32 yf, .int .u32 yg] : List Value)[u]? = some (u32c ((nums (SH.rounds (SH.sched blk 64) X (t + 1))).getD u 0)) := by
                    intro u hu
                    rw [HNX.out, nums_at' _ u hu, hN1, hN4, HT1.out, HT2.out]
                    rfl
                  have HST2 := Lib.hid hst
                  clear hst hN1 hN4
                  go_region_held3 (fun W => W.cell? ⟨gv, 0, none⟩ = some (.int .u32 ya) ∧ W.cell? ⟨gv, 1, none⟩ = some (.int .u32 yb) ∧ W.cell? ⟨gv, 2, none⟩ = some (.int .u32 yc) ∧ W.cell? ⟨gv, 3, none⟩ = some (.int .u32 yd) ∧ W.cell? ⟨gv, 4, none⟩ = some (.int .u32 ye) ∧ W.cell? ⟨gv, 5, none⟩ = some (.int .u32 yf) ∧ W.cell? ⟨gv, 6, none⟩ = some (.int .u32 yg)) (first | exact ⟨v0, v1, v2, v3, v4, v5, v6⟩ | exact ⟨cell_alloc_old v0 hgvs _ _, cell_alloc_old v1 hgvs _ _, cell_alloc_old v2 hgvs _ _, cell_alloc_old v3 hgvs _ _, cell_alloc_old v4 hgvs _ _, cell_alloc_old v5 hgvs _ _, cell_alloc_old v6 hgvs _ _⟩ | go_keep) (fail)
                  go_wp2_with fail
                  go_roundw
                  case rel =>
                    refine ⟨t + 1, _, 8, by omega, by go_num, rfl, ?_, ?_, ?_⟩
                    · exact BD.out.size
                    · intro u hu
                      rw [← HST2.out u hu]
                      exact (Blk.new _ 105 [_, _, _, _, _, _, _, _]).cell u
                    · exact (below_drewNd BD.out _).alloc BD.out.size _
                  case measure => simp [intOf]; omega
                · obtain rfl : t = 64 := by omega
                  obtain ⟨Z, hZ⟩ : ∃ Z, Z = SH.rounds (SH.sched blk 64) X 64 := ⟨_, rfl⟩
                  rw [← hZ] at hcv HNEXT
                  have GHd := Lib.hid (GHb.out.below BD.out (Nat.lt_trans (Nat.lt_of_lt_of_le hgh (Nat.le_refl _)) hgwl))
                  have GKd := Lib.hid (GKb.out.below BD.out (Nat.lt_trans (Nat.lt_of_lt_of_le hgk (Nat.le_refl _)) hgwl))
                  have BBd := Lib.hid (keepBelow (BB.out.trans (by have h := BS.out; rw [HGW.out] at h; exact h.mono (Nat.le_trans BB.out.size (Nat.le_refl _)))) BD.out)
                  have HVC := Lib.hid hcv
                  have hne : ¬ gh = gv := by omega
                  have HGV := Lib.hid hgv
                  have BBsz := Lib.hid (show w.heap.size ≤ gh from hL1)
                  clear hcv hZ hgv
                  go_wp2_with fail
                  go_loopw [18] (fun i we => ∃ u : Nat, u ≤ 8 ∧ i = .int .i64 u ∧ Blk we gh 105 (mixC X Z u) ∧ Blk we gk 105 cubesC ∧ (∀ u, u < 8 → we.cell? ⟨gv, u, none⟩ = some (u32c ((nums Z).getD u 0))) ∧ Below w.heap.size w we) (fun i _ => 8 - (intOf i).toNat)
                  case atStart => exact ⟨0, by omega, rfl, GHd.out, GKd.out, HVC.out, BBd.out⟩
                  case round =>
                    obtain ⟨u, hu, rfl, hS, hK, hV, hB⟩ := hrel
                    generalize wr = we at *
                    have GU := Lib.hid hS
                    have GKu := Lib.hid hK
                    have VU := Lib.hid hV
                    have BU := Lib.hid hB
                    clear hS hK hV hB GHd GKd HVC BBd
                    by_cases hul : u < 8
                    · as_aux_lemma =>
                      have c1 := (GU.out.cell u).trans (mix_at X Z u hul)
                      have f1 := GU.out.frozen u
                      have c2 := VU.out u hul
                      have HS2 := Lib.hid (mix_step X Z u hul)
                      unfold u32c at c1 c2
                      generalize (nums Z).getD u 0 = zq at *
                      generalize (nums X).getD u 0 = xq at *
                      obtain ⟨N, hN⟩ : ∃ N, N = (xq + zq) % 4294967296 := ⟨_, rfl⟩
                      have s1 : IntKind.u32.wrap ((xq : Int) + zq) = (N : Int) := by rw [hN, wrap32, wrap_add]
                      rw [← hN] at HS2
                      have p8 : (0 : Int) ≤ u := by omega
                      have p9 : (u : Int) < 8 := by omega
                      clear hN
                      go_wp2_with fail
                      go_region
                      go_wp2_with fail
                      go_roundw
                      case rel =>
                        refine ⟨u + 1, by omega, by go_num, ?_, blk_drew (GKu.out.far (fun h => by have h2 : gk = gh := h; omega) _), ?_, (BU.out.setCell (by have := BBsz.out; omega) _).drew⟩
                        · rw [← HS2.out]
                          exact blk_drew (GU.out.set_ u _)
                        · intro q hq
                          rw [World.cell?_drew]
                          exact (World.cell?_setCell_other (h := fun e => hne (Addr.mk.inj e).1) ..).trans (VU.out q hq)
                      case measure => simp [intOf]; omega
                    · obtain rfl : u = 8 := by omega
                      rw [show mixC X Z 8 = hC M (j + 1) from HNEXT.out.symm] at GU
                      obtain ⟨A2, hA2⟩ : ∃ A2, A2 = A + 64 := ⟨_, rfl⟩
                      have m1 : IntKind.i64.wrap ((A : Int) + 64) = (A2 : Int) := by rw [IntWalk.i64_in _ (by omega)]; omega
                      have HA2 := Lib.hid hA2
                      clear hA2
                      go_wp2_with fail
                      go_roundw
                      case rel => exact ⟨A2, j + 1, hlt, by have := HA2.out; have := HA.out; omega, rfl, GU.out, GKu.out, BU.out⟩
                      case measure => have := HA2.out; have := HA.out; have := HML.out; simp [intOf]; omega
        · obtain rfl : j = nb := by omega
          have hAs : A = PB.size := by rw [HA.out, HML.out]
          have r1 : ¬ (A : Int) < PB.size := by omega
          obtain ⟨Y, hY⟩ : ∃ Y, Y = SH.blocks SH.root M j := ⟨_, rfl⟩
          have hYok : Y.ok := by rw [hY]; exact SH.blocks_ok M j
          have HYOK := Lib.hid hYok
          have GY := Lib.hid (show Blk wa gh 105 ((nums Y).map u32c) by rw [hY]; exact GH.out)
          have HOUT := Lib.hid (show SH.sum s.data.toList = outU Y 8 by rw [hY, outU_all]; exact HSUM.out)
          clear hY hYok GH GK HA HSUM hAs
          go_wp2_with fail
          go_loopw [19, 20] (fun so i wf => ∃ (u : Nat) (O : ByteArray), u ≤ 8 ∧ i = .int .i64 u ∧ so = .string O ∧ O.data.toList = outU Y u ∧ Blk wf gh 105 ((nums Y).map u32c) ∧ Below w.heap.size w wf) (fun _ i _ => 8 - (intOf i).toNat)
          case atStart => exact ⟨0, ⟨#[]⟩, by omega, rfl, rfl, rfl, GY.out, BB.out⟩
          case round =>
            obtain ⟨u, O, hu, rfl, rfl, hO, hS, hB⟩ := hrel
            generalize wr = wf at *
            have HO := Lib.hid hO
            have GU := Lib.hid hS
            have BU := Lib.hid hB
            clear hO hS hB GY BB
            by_cases hul : u < 8
            · as_aux_lemma =>
              have c1 := (GU.out.cell u).trans (nums_at Y u hul)
              have hlt2 := nums_lt Y HYOK.out u
              have HST := Lib.hid (outU_step Y u hul)
              have hOl : O.size ≤ 32 := by rw [← bytes_len, HO.out]; exact outU_len Y u hu
              unfold u32c at c1
              generalize hz : (nums Y).getD u 0 = z at *
              clear hz
              have g1 : IntKind.i64.wrap (z : Int) = (z : Int) := IntWalk.i64_in _ (by omega)
              obtain ⟨E4, hE⟩ : ∃ E : ByteArray, E = ⟨(SH.bytes4 z).toArray⟩ := ⟨_, rfl⟩
              have hEs : E4.size = 4 := by rw [← bytes_len, hE]; rfl
              have C50 := Lib.hid (fun W => (Bytes4_any z W).mono (fun e w' h => by rw [← hE] at h; exact h))
              have HE := Lib.hid (show E4.data.toList = SH.bytes4 z by rw [hE])
              have k1 : ¬ 9223372036854775807 < O.size + E4.size := by omega
              have p8 : (0 : Int) ≤ u := by omega
              have p9 : (u : Int) < 8 := by omega
              clear hE hEs
              go_wp2_with (go_at_call 33; refine (C50.out _).mono ?_; rintro e v9 ⟨rfl, hb9⟩; have B9 := Lib.hid (keepBelow BU.out hb9); have GU9 := Lib.hid (keepBlk hb9 GU.out); clear hb9)
              go_roundw
              case rel => exact ⟨u + 1, _, by omega, by go_num, rfl, by rw [ap_list, HO.out, HE.out, HST.out], GU9.out, B9.out⟩
              case measure => simp [intOf]; omega
            · obtain rfl : u = 8 := by omega
              have HFIN := Lib.hid (show O = ⟨(SH.sum s.data.toList).toArray⟩ by rw [HOUT.out, ← HO.out])
              go_wp2_with fail
              go_ret
              exact ⟨by rw [← HFIN.out]; rfl, BU.out⟩
end Go.Proofs.YtmblnacckboggaaDoor
