/- Hash.Sum (func 13). -/
import Derived.Test.YtmblnacckboggaaDoorSh
import Derived.Test.YtmblnacckboggaaDoorW6
import Derived.Deep.DeepCutAuto
namespace Go.Proofs.YtmblnacckboggaaDoor
open Go.RowKit
theorem keepBlk {w w' : World} {g : Nat} {t : TypeId} {cs : List Value} (hb : Below w.heap.size w w') (h : Blk w g t cs) : Blk w' g t cs := h.below hb h.lt
theorem keepBelow {a w w' : World} (h : Below a.heap.size a w) (hb : Below w.heap.size w w') : Below a.heap.size a w' := h.trans (hb.mono h.size)
theorem keepRange {a w : World} {g : Nat} {cs : List Value} (h : Below a.heap.size a w) (hr : a.rangeAt g 0 cs) (hg : g < a.heap.size) : w.rangeAt g 0 cs := fun j v hv => (h.cell (p := ⟨g, 0 + j, none⟩) hg).trans (hr j v hv)
theorem isB_below {T e : TypeId} {B b : Nat} {bs : List Value} {w w' : World} (h : Lib.IsBuilderF T e B b bs w) (hb : Below w.heap.size w w') : Lib.IsBuilderF T e B b bs w' := by
  have key : ∀ p, Lib.BuilderAtF T e B b p bs w → Lib.BuilderAtF T e B b p bs w' := by
    intro p h
    have hlt := h.lt
    obtain ⟨hB, v, h1, hown, hne⟩ := h
    exact ⟨hB, v, (hb.block b hlt).trans h1, hown.kept (row := none) ⟨hb.os, hb.tape, hb.output, hb.size, fun k hk _ => hb.block k hk⟩ (by cases hv : v.ownBlock <;> simp), hne⟩
  exact h.elim (fun x => .inl (key _ x)) (fun x => .inr (key _ x))
theorem repeatL_zero (n : Nat) : Lib.repeatL [(0 : UInt8)] n = List.replicate n 0 := by
  induction n with
  | zero => rfl
  | succ n ih => simp [Lib.repeatL, List.replicate_succ, ih]
theorem rep_any (p : Nat) (hp : p ≤ 64) (w : World) : Calls Tryd.prog 26 #[.string ⟨#[0]⟩, .int .i64 p] w fun e w' => e = .returned (.string ⟨(List.replicate p (0 : UInt8)).toArray⟩) ∧ Below w.heap.size w w' := by
  refine (Tryd.strings_Repeat ⟨#[0]⟩ p w (by omega) (by rw [show (⟨#[0]⟩ : ByteArray).size = 1 from rfl]; omega)).mono ?_
  rintro e w' ⟨rfl, hb⟩
  exact ⟨by rw [show (⟨#[0]⟩ : ByteArray).data.toList = [0] from rfl, repeatL_zero], hb⟩
/-- a fresh hash of the call's own -/
def Zed (w v : World) (g : Nat) : Prop := Blk v g 114 zeroC ∧ w.heap.size < g
theorem Zed.new {w v : World} (h : w.heap.size < v.heap.size) : Zed w (v.alloc (.cells #[.int .u32 0, .int .u32 0, .int .u32 0, .int .u32 0, .int .u32 0, .int .u32 0, .int .u32 0, .int .u32 0, .int .i64 0, .string ⟨#[]⟩] 114)) v.heap.size := ⟨Blk.new v 114 zeroC, h⟩
theorem Zed.lt {w v : World} {g : Nat} (h : Zed w v g) : w.heap.size < g := h.2
theorem Zed.blk {w v : World} {g : Nat} (h : Zed w v g) : Blk v g 114 zeroC := h.1
theorem Zed.drew {w v : World} {g : Nat} (h : Zed w v g) : Zed w v.drew g := h
theorem far10 {v : World} {g q : Nat} {t : TypeId} {cs : List Value} (h : Blk v g t cs) (hq : g ≠ q) (a0 a1 a2 a3 a4 a5 a6 a7 a8 a9 : Value) : Blk ((((((((((v.setCell ⟨q, 0, none⟩ a0).setCell ⟨q, 1, none⟩ a1).setCell ⟨q, 2, none⟩ a2).setCell ⟨q, 3, none⟩ a3).setCell ⟨q, 4, none⟩ a4).setCell ⟨q, 5, none⟩ a5).setCell ⟨q, 6, none⟩ a6).setCell ⟨q, 7, none⟩ a7).setCell ⟨q, 8, none⟩ a8).setCell ⟨q, 9, none⟩ a9) g t cs := ((((((((((h.far hq _).far hq _).far hq _).far hq _).far hq _).far hq _).far hq _).far hq _).far hq _).far hq _)
theorem Zed.keep {w v v' : World} {g : Nat} (h : Zed w v g) (hb : Below v.heap.size v v') : Zed w v' g := ⟨keepBlk hb h.1, h.2⟩
theorem zed_done {w v : World} {g : Nat} (h : Zed w v g) (hn : Below w.heap.size w v) (x : SH.St) (b : Nat) (r : ByteArray) :
    Blk ((((((((((v.setCell ⟨g, 0, none⟩ (.int .u32 x.a)).setCell ⟨g, 1, none⟩ (.int .u32 x.b)).setCell ⟨g, 2, none⟩ (.int .u32 x.c)).setCell ⟨g, 3, none⟩ (.int .u32 x.d)).setCell ⟨g, 4, none⟩ (.int .u32 x.e)).setCell ⟨g, 5, none⟩ (.int .u32 x.f)).setCell ⟨g, 6, none⟩ (.int .u32 x.g)).setCell ⟨g, 7, none⟩ (.int .u32 x.h)).setCell ⟨g, 8, none⟩ (.int .i64 b)).setCell ⟨g, 9, none⟩ (.string r)) g 114 (hCells x b r) ∧ w.heap.size ≤ g ∧
    Below w.heap.size w ((((((((((v.setCell ⟨g, 0, none⟩ (.int .u32 x.a)).setCell ⟨g, 1, none⟩ (.int .u32 x.b)).setCell ⟨g, 2, none⟩ (.int .u32 x.c)).setCell ⟨g, 3, none⟩ (.int .u32 x.d)).setCell ⟨g, 4, none⟩ (.int .u32 x.e)).setCell ⟨g, 5, none⟩ (.int .u32 x.f)).setCell ⟨g, 6, none⟩ (.int .u32 x.g)).setCell ⟨g, 7, none⟩ (.int .u32 x.h)).setCell ⟨g, 8, none⟩ (.int .i64 b)).setCell ⟨g, 9, none⟩ (.string r)) :=
  ⟨((((((((((h.1.set_ 0 _).set_ 1 _).set_ 2 _).set_ 3 _).set_ 4 _).set_ 5 _).set_ 6 _).set_ 7 _).set_ 8 _).set_ 9 _), Nat.le_of_lt h.2, ((((((((((hn.setCell (Nat.le_of_lt h.2) _).setCell (Nat.le_of_lt h.2) _).setCell (Nat.le_of_lt h.2) _).setCell (Nat.le_of_lt h.2) _).setCell (Nat.le_of_lt h.2) _).setCell (Nat.le_of_lt h.2) _).setCell (Nat.le_of_lt h.2) _).setCell (Nat.le_of_lt h.2) _).setCell (Nat.le_of_lt h.2) _).setCell (Nat.le_of_lt h.2) _)⟩
theorem sOf {v : World} {g : Nat} {x : SH.St} {b : Nat} {r : ByteArray} (h : Blk v g 114 (hCells x b r)) : v.cell? ⟨g, 0, none⟩ = some (.int .u32 x.a) ∧ v.cell? ⟨g, 1, none⟩ = some (.int .u32 x.b) ∧ v.cell? ⟨g, 2, none⟩ = some (.int .u32 x.c) ∧ v.cell? ⟨g, 3, none⟩ = some (.int .u32 x.d) ∧ v.cell? ⟨g, 4, none⟩ = some (.int .u32 x.e) ∧ v.cell? ⟨g, 5, none⟩ = some (.int .u32 x.f) ∧ v.cell? ⟨g, 6, none⟩ = some (.int .u32 x.g) ∧ v.cell? ⟨g, 7, none⟩ = some (.int .u32 x.h) ∧ v.cell? ⟨g, 8, none⟩ = some (.int .i64 b) ∧ v.cell? ⟨g, 9, none⟩ = some (.string r) := ⟨h.cell 0, h.cell 1, h.cell 2, h.cell 3, h.cell 4, h.cell 5, h.cell 6, h.cell 7, h.cell 8, h.cell 9⟩
theorem fresh_done {w v : World} (hn : Below w.heap.size w v) (x : SH.St) (b : Nat) (r : ByteArray) : Blk (v.alloc (.cells #[.int .u32 x.a, .int .u32 x.b, .int .u32 x.c, .int .u32 x.d, .int .u32 x.e, .int .u32 x.f, .int .u32 x.g, .int .u32 x.h, .int .i64 b, .string r] 114)) v.heap.size 114 (hCells x b r) ∧ w.heap.size ≤ v.heap.size ∧ Below w.heap.size w (v.alloc (.cells #[.int .u32 x.a, .int .u32 x.b, .int .u32 x.c, .int .u32 x.d, .int .u32 x.e, .int .u32 x.f, .int .u32 x.g, .int .u32 x.h, .int .i64 b, .string r] 114)) := ⟨Blk.new v 114 (hCells x b r), hn.size, hn.alloc hn.size _⟩
/-- Add, told in the way that Sum wants. -/
theorem add_told (m : List UInt8) (x : SH.St) (b : Nat) (r P : ByteArray) (M : List UInt8) (hM : m ++ P.data.toList = M) (hI : IsH m x b r) (hl : m.length + P.size < 1152921504606846976) (a : World) (hroo : a.rangeAt 0 0 rootsC) (hcub : a.rangeAt 2 0 cubesC) (h1w : 2 < a.heap.size) (w : World) (hn : Below a.heap.size a w) :
    Calls Tryd.prog 54 #[.agg #[.int .u32 x.a, .int .u32 x.b, .int .u32 x.c, .int .u32 x.d, .int .u32 x.e, .int .u32 x.f, .int .u32 x.g, .int .u32 x.h, .int .i64 b, .string r], .string P] w fun e w' => ∃ (y : SH.St) (b' : Nat) (r' : ByteArray), e = .returned (.agg #[.int .u32 y.a, .int .u32 y.b, .int .u32 y.c, .int .u32 y.d, .int .u32 y.e, .int .u32 y.f, .int .u32 y.g, .int .u32 y.h, .int .i64 b', .string r']) ∧ (y = SH.blocks SH.root M (M.length / 64) ∧ IsH M y b' r') ∧ Below w.heap.size w w' := by
  subst hM
  refine (add_any m x b r P hI hl w (keepRange hn hroo (by omega)) (keepRange hn hcub h1w) (Nat.lt_of_lt_of_le h1w hn.size)).mono ?_
  rintro e w' ⟨y, b', r', rfl, hI', hy, hb⟩
  exact ⟨y, b', r', rfl, ⟨by rw [hy, hI'.b_eq], hI'⟩, hb⟩
/-- the digest's bytes of the first words -/
def outU (y : SH.St) (u : Nat) : List UInt8 := ((nums y).take u).flatMap SH.bytes4
theorem outU_step (y : SH.St) (u : Nat) (hu : u < 8) : outU y (u + 1) = outU y u ++ SH.bytes4 ((nums y).getD u 0) := by
  have : u = 0 ∨ u = 1 ∨ u = 2 ∨ u = 3 ∨ u = 4 ∨ u = 5 ∨ u = 6 ∨ u = 7 := by omega
  rcases this with rfl | rfl | rfl | rfl | rfl | rfl | rfl | rfl <;> rfl
theorem outU_all (y : SH.St) : outU y 8 = SH.out y := rfl
theorem outU_len (y : SH.St) (u : Nat) (hu : u ≤ 8) : (outU y u).length ≤ 32 := by
  have : u = 0 ∨ u = 1 ∨ u = 2 ∨ u = 3 ∨ u = 4 ∨ u = 5 ∨ u = 6 ∨ u = 7 ∨ u = 8 := by omega
  rcases this with rfl | rfl | rfl | rfl | rfl | rfl | rfl | rfl | rfl <;> simp [outU, nums, SH.bytes4]
theorem nums_lt (y : SH.St) (h : y.ok) (u : Nat) : (nums y).getD u 0 < 4294967296 := by
  obtain ⟨h1, h2, h3, h4, h5, h6, h7, h8⟩ := h
  by_cases hu : u < 8
  · have : u = 0 ∨ u = 1 ∨ u = 2 ∨ u = 3 ∨ u = 4 ∨ u = 5 ∨ u = 6 ∨ u = 7 := by omega
    rcases this with rfl | rfl | rfl | rfl | rfl | rfl | rfl | rfl <;> assumption
  · rw [List.getD_eq_getElem?_getD, List.getElem?_eq_none (by show 8 ≤ u; omega)]; decide
set_option maxRecDepth 100000 in
set_option maxHeartbeats 1600000 in
theorem hsum_any (m : List UInt8) (x : SH.St) (b : Nat) (r : ByteArray) (hI : IsH m x b r) (hl : m.length < 576460752303423488) (w : World) (hroo : w.rangeAt 0 0 rootsC) (hcub : w.rangeAt 2 0 cubesC) (h1w : 2 < w.heap.size) :
    Calls Tryd.prog 56 #[.agg (hCells x b r).toArray] w fun e w' => e = .returned (.string ⟨(SH.sum m).toArray⟩) ∧ Below w.heap.size w w' := by
  have hrl : r.size = m.length - 64 * b := by rw [← bytes_len, hI.r_eq, List.length_drop]
  have hbe := hI.b_eq
  have hr64 : r.size = m.length % 64 := by omega
  obtain ⟨p, hp⟩ : ∃ p, p = (119 - m.length % 64) % 64 := ⟨_, rfl⟩
  obtain ⟨R, hR⟩ : ∃ R : ByteArray, R = ⟨(List.replicate p (0 : UInt8)).toArray⟩ := ⟨_, rfl⟩
  obtain ⟨E8, hE⟩ : ∃ E8 : ByteArray, E8 = ⟨(SH.bytes8 (8 * m.length)).toArray⟩ := ⟨_, rfl⟩
  obtain ⟨A1, hA1⟩ : ∃ A1 : ByteArray, A1 = ⟨#[128]⟩ ++ R := ⟨_, rfl⟩
  have hRs : R.size = p := by rw [← bytes_len, hR]; simp
  have hEs : E8.size = 8 := by rw [← bytes_len, hE]; rfl
  have hAs : A1.size = 1 + p := by rw [hA1, ByteArray.size_append, hRs]; rfl
  have f1 : IntKind.i64.wrap (119 - (r.size : Int)) = 119 - (r.size : Int) := IntWalk.i64_in _ (by omega)
  have f2 : Int.tmod (119 - (r.size : Int)) 64 = (p : Int) := by
    rw [show (119 - (r.size : Int)) = ((119 - r.size : Nat) : Int) by omega, show ((64 : Int)) = ((64 : Nat) : Int) from rfl, ← Int.ofNat_tmod, hp, hr64]
  have f3 : IntKind.i64.wrap (p : Int) = (p : Int) := IntWalk.i64_in _ (by omega)
  have f4 : IntKind.u64.wrap (m.length : Int) = (m.length : Int) := by rw [IntKind.wrap_u64]; omega
  have f5 : IntKind.u64.wrap (8 * (m.length : Int)) = ((8 * m.length : Nat) : Int) := by rw [IntKind.wrap_u64]; omega
  have c1 : ¬ 9223372036854775807 < (⟨#[128]⟩ : ByteArray).size + R.size := by rw [hRs, show (⟨#[128]⟩ : ByteArray).size = 1 from rfl]; omega
  have c2 : ¬ 9223372036854775807 < A1.size + E8.size := by rw [hAs, hEs]; omega
  have hpad : (A1 ++ E8).data.toList = SH.padding m.length := by
    rw [ap_list, hA1, ap_list, hR, hE, hp]; rfl
  have hAE : (A1 ++ E8).size = 9 + p := by rw [ByteArray.size_append, hAs, hEs]; omega
  have c3 : ¬ 9223372036854775807 < 1 + R.size := by rw [hRs]; omega
  have c4 : ¬ (9223372036854775807 : Int) < 1 + (R.size : Int) := by omega
  have c5 : ¬ 9223372036854775807 < 1 + R.size + E8.size := by rw [hRs, hEs]; omega
  have c6 : ¬ (9223372036854775807 : Int) < 1 + (R.size : Int) + (E8.size : Int) := by omega
  have c7 : ¬ 9223372036854775807 < (⟨#[128]⟩ : ByteArray).size + R.size + E8.size := by rw [hRs, hEs, show (⟨#[128]⟩ : ByteArray).size = 1 from rfl]; omega
  have C46 := Lib.hid (fun W => (rep_any p (by omega) W).mono (fun e w' h => by rw [← hR] at h; exact h))
  have C15 := Lib.hid (fun W => len_any m x b r hI (by omega) W)
  have C47 := Lib.hid (fun W => (eight_any (8 * m.length) W).mono (fun e w' h => by rw [← hE] at h; exact h))
  have C12 := Lib.hid (add_told m x b r (A1 ++ E8) (m ++ SH.padding m.length) (by rw [hpad]) hI (by omega) w hroo hcub h1w)
  clear hrl hbe hr64 hpad hAE hRs hEs hAs hI hroo hcub
  have HP := Lib.hid hp
  have HA := Lib.hid hA1
  clear hp hR hE
  subst hA1
  unfold hCells
  unfold hCells at C15
  go_enter Tryd.func56, Tryd.ntmps56
  go_upto_region 2 with fail
  obtain ⟨W0, hW0⟩ : ∃ W0, W0 = w.alloc (.cells #[.int .u32 x.a, .int .u32 x.b, .int .u32 x.c, .int .u32 x.d, .int .u32 x.e, .int .u32 x.f, .int .u32 x.g, .int .u32 x.h, .int .i64 b, .string r] 114) := ⟨_, rfl⟩
  have hB0 : Blk W0 w.heap.size 114 (hCells x b r) := by rw [hW0]; exact Blk.new w 114 (hCells x b r)
  have hN0 : Below w.heap.size w W0 := by rw [hW0]; exact (Below.refl _ _).alloc (Nat.le_refl _) _
  rw [← hW0]
  clear hW0
  have ne0 : ¬ w.heap.size = W0.heap.size := Nat.ne_of_lt hB0.lt
  have B0 := Lib.hid hB0
  have N0 := Lib.hid hN0
  clear hB0 hN0
  go_cut [4] (fun q wx => ∃ (g : Nat) (y : SH.St) (b2 : Nat) (r2 : ByteArray), q = .pointer (some ⟨g, 0, none⟩) ∧ (y = SH.blocks SH.root (m ++ SH.padding m.length) ((m ++ SH.padding m.length).length / 64) ∧ IsH (m ++ SH.padding m.length) y b2 r2) ∧ Blk wx g 114 (hCells y b2 r2) ∧ w.heap.size ≤ g ∧ Below w.heap.size w wx)
  case first =>
    go_region_held3 (fun v => v.cell? ⟨w.heap.size, 0, none⟩ = some (.int .u32 x.a) ∧ v.cell? ⟨w.heap.size, 1, none⟩ = some (.int .u32 x.b) ∧ v.cell? ⟨w.heap.size, 2, none⟩ = some (.int .u32 x.c) ∧ v.cell? ⟨w.heap.size, 3, none⟩ = some (.int .u32 x.d) ∧ v.cell? ⟨w.heap.size, 4, none⟩ = some (.int .u32 x.e) ∧ v.cell? ⟨w.heap.size, 5, none⟩ = some (.int .u32 x.f) ∧ v.cell? ⟨w.heap.size, 6, none⟩ = some (.int .u32 x.g) ∧ v.cell? ⟨w.heap.size, 7, none⟩ = some (.int .u32 x.h) ∧ v.cell? ⟨w.heap.size, 8, none⟩ = some (.int .i64 b) ∧ v.cell? ⟨w.heap.size, 9, none⟩ = some (.string r)) (first | with_reducible exact sOf B4.out | with_reducible exact sOf (Blk.alloc B4.out _) | with_reducible exact sOf B3.out | with_reducible exact sOf (Blk.alloc B3.out _) | with_reducible exact sOf B2.out | with_reducible exact sOf (Blk.alloc B2.out _) | with_reducible exact sOf B1.out | with_reducible exact sOf (Blk.alloc B1.out _) | with_reducible exact sOf B0.out | with_reducible exact sOf (blk_drew B0.out) | with_reducible exact sOf (blk_drew (Blk.alloc B0.out _)) | with_reducible exact sOf (Blk.alloc (blk_drew B0.out) _) | with_reducible exact sOf (far10 B4.out (Nat.ne_of_lt Z4.out.lt) _ _ _ _ _ _ _ _ _ _)) (first
      | (go_at_call 26; refine (C46.out _).mono ?_; rintro e v1 ⟨rfl, hb1⟩; (first | (with_reducible have B1 := Lib.hid (keepBlk hb1 (blk_drew B0.out))) | (with_reducible have B1 := Lib.hid (keepBlk hb1 (blk_drew (Blk.alloc B0.out _))))); (first | (with_reducible have Z1 := Lib.hid ((Zed.drew (Zed.new B0.out.lt)).keep hb1)) | skip); (first | (with_reducible have N1 := Lib.hid (keepBelow (Below.drew N0.out) hb1)) | (with_reducible have N1 := Lib.hid (keepBelow (Below.drew ((N0.out).alloc (N0.out.size) _)) hb1))); have ne1 : ¬ w.heap.size = v1.heap.size := Nat.ne_of_lt B1.out.lt; clear hb1)
      | (go_at_call 64; refine (C15.out _).mono ?_; rintro e v2 ⟨rfl, hb2⟩; (first | (with_reducible have B2 := Lib.hid (keepBlk hb2 B1.out)) | (with_reducible have B2 := Lib.hid (keepBlk hb2 (Blk.alloc B1.out _)))); (first | (with_reducible have Z2 := Lib.hid (Zed.keep Z1.out hb2)) | (with_reducible have Z2 := Lib.hid ((Zed.new B1.out.lt).keep hb2)) | skip); (first | (with_reducible have N2 := Lib.hid (keepBelow N1.out hb2)) | (with_reducible have N2 := Lib.hid (keepBelow ((N1.out).alloc (N1.out.size) _) hb2))); have ne2 : ¬ w.heap.size = v2.heap.size := Nat.ne_of_lt B2.out.lt; clear hb2)
      | (go_at_call 52; refine (C47.out _).mono ?_; rintro e v3 ⟨rfl, hb3⟩; (first | (with_reducible have B3 := Lib.hid (keepBlk hb3 B2.out)) | (with_reducible have B3 := Lib.hid (keepBlk hb3 (Blk.alloc B2.out _)))); (first | (with_reducible have Z3 := Lib.hid (Zed.keep Z2.out hb3)) | (with_reducible have Z3 := Lib.hid ((Zed.new B2.out.lt).keep hb3)) | skip); (first | (with_reducible have N3 := Lib.hid (keepBelow N2.out hb3)) | (with_reducible have N3 := Lib.hid (keepBelow ((N2.out).alloc (N2.out.size) _) hb3))); have ne3 : ¬ w.heap.size = v3.heap.size := Nat.ne_of_lt B3.out.lt; clear hb3)
      | (go_at_call 54; refine (C12.out _ ?hB).mono ?_; (case hB => first | with_reducible exact N3.out | exact (N3.out).alloc (N3.out.size) _); rintro e v4 ⟨y, b2, r2, rfl, hy, hb4⟩; have HY := Lib.hid hy; clear hy; (first | (with_reducible have B4 := Lib.hid (keepBlk hb4 B3.out)) | (with_reducible have B4 := Lib.hid (keepBlk hb4 (Blk.alloc B3.out _)))); (first | (with_reducible have Z4 := Lib.hid (Zed.keep Z3.out hb4)) | (with_reducible have Z4 := Lib.hid ((Zed.new B3.out.lt).keep hb4)) | skip); (first | (with_reducible have N4 := Lib.hid (keepBelow N3.out hb4)) | (with_reducible have N4 := Lib.hid (keepBelow ((N3.out).alloc (N3.out.size) _) hb4))); (first | (have z0 : v4.cell? ⟨_, 0, none⟩ = some (.int .u32 0) := Z4.out.blk.cell 0; have zf0 : v4.frozen? ⟨_, 0, none⟩ = false := Z4.out.blk.frozen 0; have z1 : v4.cell? ⟨_, 1, none⟩ = some (.int .u32 0) := Z4.out.blk.cell 1; have zf1 : v4.frozen? ⟨_, 1, none⟩ = false := Z4.out.blk.frozen 1; have z2 : v4.cell? ⟨_, 2, none⟩ = some (.int .u32 0) := Z4.out.blk.cell 2; have zf2 : v4.frozen? ⟨_, 2, none⟩ = false := Z4.out.blk.frozen 2; have z3 : v4.cell? ⟨_, 3, none⟩ = some (.int .u32 0) := Z4.out.blk.cell 3; have zf3 : v4.frozen? ⟨_, 3, none⟩ = false := Z4.out.blk.frozen 3; have z4 : v4.cell? ⟨_, 4, none⟩ = some (.int .u32 0) := Z4.out.blk.cell 4; have zf4 : v4.frozen? ⟨_, 4, none⟩ = false := Z4.out.blk.frozen 4; have z5 : v4.cell? ⟨_, 5, none⟩ = some (.int .u32 0) := Z4.out.blk.cell 5; have zf5 : v4.frozen? ⟨_, 5, none⟩ = false := Z4.out.blk.frozen 5; have z6 : v4.cell? ⟨_, 6, none⟩ = some (.int .u32 0) := Z4.out.blk.cell 6; have zf6 : v4.frozen? ⟨_, 6, none⟩ = false := Z4.out.blk.frozen 6; have z7 : v4.cell? ⟨_, 7, none⟩ = some (.int .u32 0) := Z4.out.blk.cell 7; have zf7 : v4.frozen? ⟨_, 7, none⟩ = false := Z4.out.blk.frozen 7; have z8 : v4.cell? ⟨_, 8, none⟩ = some (.int .i64 0) := Z4.out.blk.cell 8; have zf8 : v4.frozen? ⟨_, 8, none⟩ = false := Z4.out.blk.frozen 8; have z9 : v4.cell? ⟨_, 9, none⟩ = some (.string ⟨#[]⟩) := Z4.out.blk.cell 9; have zf9 : v4.frozen? ⟨_, 9, none⟩ = false := Z4.out.blk.frozen 9) | skip); clear hb4))
    all_goals
      go_wp2_with fail
      go_meet
      case rel => first | (with_reducible exact ⟨_, y, b2, r2, rfl, HY.out, fresh_done N4.out y b2 r2⟩) | (with_reducible exact ⟨_, y, b2, r2, rfl, HY.out, zed_done Z4.out N4.out y b2 r2⟩)
  case rest =>
    obtain ⟨g, y, b2, r2, rfl, ⟨hy, hI2⟩, hG, hg, hN⟩ := hcut
    have hbig := hN.size
    have z0 : ¬ g = wc.heap.size := Nat.ne_of_lt hG.lt
    have HOK := Lib.hid hI2.ok
    have HSUM := Lib.hid (show SH.out y = SH.sum m by rw [hy]; rfl)
    clear hI2
    have HY := Lib.hid hy
    clear hy
    have d0 : wc.cell? ⟨g, 0, none⟩ = some (.int .u32 y.a) := hG.cell 0
    have d1 : wc.cell? ⟨g, 1, none⟩ = some (.int .u32 y.b) := hG.cell 1
    have d2 : wc.cell? ⟨g, 2, none⟩ = some (.int .u32 y.c) := hG.cell 2
    have d3 : wc.cell? ⟨g, 3, none⟩ = some (.int .u32 y.d) := hG.cell 3
    have d4 : wc.cell? ⟨g, 4, none⟩ = some (.int .u32 y.e) := hG.cell 4
    have d5 : wc.cell? ⟨g, 5, none⟩ = some (.int .u32 y.f) := hG.cell 5
    have d6 : wc.cell? ⟨g, 6, none⟩ = some (.int .u32 y.g) := hG.cell 6
    have d7 : wc.cell? ⟨g, 7, none⟩ = some (.int .u32 y.h) := hG.cell 7
    have z1 : g < wc.heap.size := hG.lt
    have hG2 := hG.alloc (.cells #[.pointer none, .slice none 0 0] 85)
    have e0 : (wc.alloc (.cells #[.pointer none, .slice none 0 0] 85)).cell? ⟨g, 0, none⟩ = some (.int .u32 y.a) := hG2.cell 0
    have e1 : (wc.alloc (.cells #[.pointer none, .slice none 0 0] 85)).cell? ⟨g, 1, none⟩ = some (.int .u32 y.b) := hG2.cell 1
    have e2 : (wc.alloc (.cells #[.pointer none, .slice none 0 0] 85)).cell? ⟨g, 2, none⟩ = some (.int .u32 y.c) := hG2.cell 2
    have e3 : (wc.alloc (.cells #[.pointer none, .slice none 0 0] 85)).cell? ⟨g, 3, none⟩ = some (.int .u32 y.d) := hG2.cell 3
    have e4 : (wc.alloc (.cells #[.pointer none, .slice none 0 0] 85)).cell? ⟨g, 4, none⟩ = some (.int .u32 y.e) := hG2.cell 4
    have e5 : (wc.alloc (.cells #[.pointer none, .slice none 0 0] 85)).cell? ⟨g, 5, none⟩ = some (.int .u32 y.f) := hG2.cell 5
    have e6 : (wc.alloc (.cells #[.pointer none, .slice none 0 0] 85)).cell? ⟨g, 6, none⟩ = some (.int .u32 y.g) := hG2.cell 6
    have e7 : (wc.alloc (.cells #[.pointer none, .slice none 0 0] 85)).cell? ⟨g, 7, none⟩ = some (.int .u32 y.h) := hG2.cell 7
    clear hG2
    have HN := Lib.hid hN
    have HG := Lib.hid hG
    clear hN hG f1 f2 f3 f4 f5 c1 c2 c3 c4 c5 c6 c7 C46 C15 C47 C12 HP HA ne0 B0 N0
    go_wp2_with fail
    have hix0 : (∀ u : Nat, u < 8 → ∀ W, (Instr.index 112 (.agg #[.int .u32 y.a, .int .u32 y.b, .int .u32 y.c, .int .u32 y.d, .int .u32 y.e, .int .u32 y.f, .int .u32 y.g, .int .u32 y.h]) (.int .i64 u)).run Tryd.prog W = .ok (.int .u32 ((nums y).getD u 0 : Nat)) W) := fun u hu W => idx_eight ((nums y).map u32c) u _ hu (nums_at y u hu) W
    have HIX := Lib.hid hix0
    clear hix0
    generalize (#[.int .u32 y.a, .int .u32 y.b, .int .u32 y.c, .int .u32 y.d, .int .u32 y.e, .int .u32 y.f, .int .u32 y.g, .int .u32 y.h] : Array Value) = ZA at *
    go_loopw [26] (fun i wr => ∃ u : Nat, u ≤ 8 ∧ i = .int .i64 u ∧ Lib.IsBuilderF 85 5 wc.heap.size wc.heap.size (Lib.byteCells (outU y u)) wr ∧ wc.heap.size ≤ wr.heap.size ∧ Below w.heap.size w wr) (fun i _ => 8 - (intOf i).toNat)
    case atStart => exact ⟨0, by omega, rfl, Lib.IsBuilderF.of (Lib.fresh_isBuilder 85 5 wc), by simp, (HN.out).alloc hbig _⟩
    case round =>
      obtain ⟨u, hu, rfl, hB, hsz, hN⟩ := hrel
      have HB := Lib.hid hB
      have HNN := Lib.hid hN
      have HSZ := Lib.hid hsz
      clear hB hN hsz
      by_cases hlu : u < 8
      · have hix := HIX.out u hlu
        have HST := Lib.hid (outU_step y u hlu)
        have hlt := nums_lt y HOK.out u
        have HLEN := Lib.hid (outU_len y u hu)
        generalize hz : (nums y).getD u 0 = z at *
        clear hz
        have q1 : IntKind.u64.wrap (z : Int) = (z : Int) := by rw [IntKind.wrap_u64]; omega
        obtain ⟨E8, hE⟩ : ∃ E8 : ByteArray, E8 = ⟨(SH.bytes8 z).toArray⟩ := ⟨_, rfl⟩
        have hEs : E8.size = 8 := by rw [← bytes_len, hE]; rfl
        have hE4 : (E8.extract 4 8).data.toList = SH.bytes4 z := by rw [← hEs, ex_drop, hE]; rfl
        have HE4 := Lib.hid hE4
        have hE4s : (E8.extract 4 8).size ≤ 8 := by rw [ByteArray.size_extract]; omega
        have HE4S := Lib.hid (show (Lib.byteCells (outU y u)).length + (E8.extract 4 8).size ≤ 140737488355328 by rw [Lib.byteCells_length]; have := HLEN.out; omega)
        have C47 := Lib.hid (fun W => (eight_any z W).mono (fun e w' h => by rw [← hE] at h; exact h))
        clear hE hE4 hE4s
        have q2 : (u : Int) < 8 := by omega
        go_wp2_with (first
          | (go_at_call 52; refine (C47.out _).mono ?_; rintro e v1 ⟨rfl, hb1⟩; have B1 := Lib.hid (isB_below HB.out hb1); have N1 := Lib.hid (keepBelow HNN.out hb1); have S1 := Lib.hid (Nat.le_trans HSZ.out hb1.size); clear hb1)
          | (go_at_call 36; refine (wstr _ _ _ _ _ B1.out HE4S.out S1.out).mono ?_; rintro e v2 ⟨rfl, hB2, hb2, _⟩; have B2 := Lib.hid hB2; have N2 := Lib.hid hb2; clear hB2 hb2))
        go_roundw
        case rel => exact ⟨u + 1, by omega, by go_num, by rw [HST.out, Lib.byteCells_append, ← HE4.out, ← Lib.strCells_eq]; exact Or.inr B2.out, Nat.le_trans S1.out N2.out.size, N1.out.trans (N2.out.mono hbig)⟩
        case measure => simp [intOf]; omega
      · obtain rfl : u = 8 := by omega
        go_wp2_with (go_at_call 37; refine (Tryd.Builder_String_any_k _ _ _ _ HB.out HSZ.out).mono ?_; rintro e v1 ⟨rfl, _, hb1, _⟩)
        go_ret
        exact ⟨by rw [outU_all, HSUM.out]; rfl, HNN.out.trans (hb1.mono hbig)⟩
end Go.Proofs.YtmblnacckboggaaDoor
