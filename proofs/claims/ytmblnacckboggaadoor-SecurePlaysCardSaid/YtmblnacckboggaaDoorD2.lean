/- The words of a block: the schedule, the rounds, in the numbers that the walk leaves. -/
import Derived.Test.YtmblnacckboggaaDoorD1
import Derived.StillTailTactics
import Derived.Deep.QuietTactic
import Derived.BigQuiet
import Derived.BigRegion
import Derived.Outline
import Derived.IntWalk
import Derived.Deep.RegionHeld3
import Derived.Deep.MidRow
namespace Go.Proofs.YtmblnacckboggaaDoor
open Go.RowKit
/-- Block g is just the cells cs, of element type t, none frozen. -/
def Blk (w : World) (g : Nat) (t : TypeId) (cs : List Value) : Prop := w.heap[g]? = some (.cells cs.toArray t (0, 0))
section
variable {w w' : World} {g : Nat} {t : TypeId} {cs : List Value}
theorem Blk.cell (h : Blk w g t cs) (i : Nat) : w.cell? ⟨g, i, none⟩ = cs[i]? := by
  rw [cell_of_row w g i cs.toArray t (0, 0) h]; simp
theorem Blk.frozen (h : Blk w g t cs) (i : Nat) : w.frozen? ⟨g, i, none⟩ = false := by
  unfold Blk at h; simp [World.frozen?, h]
theorem Blk.set_ (h : Blk w g t cs) (i : Nat) (u : Value) : Blk (w.setCell ⟨g, i, none⟩ u) g t (cs.set i u) := by
  unfold Blk at h ⊢
  simp [World.setCell, Array.getElem?_modify, h]
theorem Blk.far (h : Blk w g t cs) {p : Addr} (hp : g ≠ p.block) (u : Value) : Blk (w.setCell p u) g t cs := (Below.heap_setCell w p u g hp).trans h
theorem Blk.lt (h : Blk w g t cs) : g < w.heap.size := (Array.getElem?_eq_some_iff.1 h).1
theorem Blk.alloc (h : Blk w g t cs) (o : Obj) : Blk (w.alloc o) g t cs := (Below.heap_alloc w o g h.lt).trans h
theorem Blk.below {B : Nat} (h : Blk w g t cs) (hb : Below B w w') (hg : g < B) : Blk w' g t cs := (hb.block g hg).trans h
theorem Blk.new (w : World) (t : TypeId) (cs : List Value) : Blk (w.alloc (.cells cs.toArray t)) w.heap.size t cs := heap_alloc_new w _
end
theorem blk_at {W : World} {g : Nat} (h : W.heap.size = g) (t : TypeId) (cs : List Value) : Blk (W.alloc (.cells cs.toArray t)) g t cs := by subst h; exact Blk.new W t cs
theorem blk_drew {w : World} {g : Nat} {t : TypeId} {cs : List Value} (h : Blk w g t cs) : Blk w.drew g t cs := h

def u32c (x : Nat) : Value := .int .u32 (x : Int)
def schedC (s : List UInt8) (t : Nat) : List Value := (SH.sched s t).map u32c ++ List.replicate (64 - t) (u32c 0)
theorem sched_len (s : List UInt8) (t : Nat) : (SH.sched s t).length = t := by induction t with | zero => rfl | succ t ih => simp [SH.sched, ih]
theorem schedC_step (s : List UInt8) (t : Nat) (ht : t < 64) (v : Nat) (hv : SH.sched s (t + 1) = SH.sched s t ++ [v]) : (schedC s t).set t (u32c v) = schedC s (t + 1) := by
  unfold schedC
  rw [hv, List.set_append_right _ _ (by rw [List.length_map, sched_len]; exact Nat.le_refl _), List.length_map, sched_len, Nat.sub_self]
  obtain ⟨k, hk⟩ : ∃ k, 64 - t = k + 1 := ⟨63 - t, by omega⟩
  rw [hk, List.replicate_succ, List.set_cons_zero, show 64 - (t + 1) = k by omega]
  simp
theorem schedC_at (s : List UInt8) (t j : Nat) (hj : j < t) : (schedC s t)[j]? = some (u32c ((SH.sched s t).getD j 0)) := by
  unfold schedC
  rw [List.getElem?_append_left (by rw [List.length_map, sched_len]; exact hj), List.getElem?_map]
  rw [List.getD_eq_getElem?_getD, List.getElem?_eq_getElem (by rw [sched_len]; exact hj)]
  rfl
theorem schedC_new (s : List UInt8) (t : Nat) (ht : t < 64) : (schedC s t)[t]? = some (u32c 0) := by
  unfold schedC
  rw [List.getElem?_append_right (by rw [List.length_map, sched_len]; exact Nat.le_refl _), List.length_map, sched_len, Nat.sub_self, List.getElem?_replicate]
  simp; omega
theorem getD_str (s : ByteArray) (k : Nat) (h : k < s.size) : s.data.toList.getD k 0 = s[k] := by
  rw [List.getD_eq_getElem?_getD, List.getElem?_eq_getElem (by simpa using h)]; rfl
theorem word_eq (s : ByteArray) (t : Nat) (h : 4 * t + 3 < s.size) :
    bits .or .u32 (bits .or .u32 (bits .or .u32 ((s[4 * t].toNat : Int) % 4294967296 * 16777216 % 4294967296) ((s[4 * t + 1].toNat : Int) % 4294967296 * 65536 % 4294967296)) ((s[4 * t + 2].toNat : Int) % 4294967296 * 256 % 4294967296)) ((s[4 * t + 3].toNat : Int) % 4294967296) = (SH.word s.data.toList t : Nat) := by
  unfold SH.word
  rw [getD_str s _ (by omega), getD_str s _ (by omega), getD_str s _ (by omega), getD_str s _ (by omega)]
  have b0 := s[4 * t].toNat_lt
  have b1 := s[4 * t + 1].toNat_lt
  have b2 := s[4 * t + 2].toNat_lt
  have b3 := s[4 * t + 3].toNat_lt
  generalize s[4 * t].toNat = a at *
  generalize s[4 * t + 1].toNat = b at *
  generalize s[4 * t + 2].toNat = c at *
  generalize s[4 * t + 3].toNat = d at *
  have e0 : (a : Int) % 4294967296 * 16777216 % 4294967296 = ((a * 16777216 : Nat) : Int) := by omega
  have e1 : (b : Int) % 4294967296 * 65536 % 4294967296 = ((b * 65536 : Nat) : Int) := by omega
  have e2 : (c : Int) % 4294967296 * 256 % 4294967296 = ((c * 256 : Nat) : Int) := by omega
  have e3 : (d : Int) % 4294967296 = (d : Nat) := by omega
  rw [e0, e1, e2, e3, u32_or_nat _ _ (by omega) (by omega), nat_join 24 _ _ (by omega) (by omega)]
  rw [u32_or_nat _ _ (by omega) (by omega), nat_join 16 _ _ (by omega) (by omega)]
  rw [u32_or_nat _ _ (by omega) (by omega), nat_join 8 _ _ (by omega) (by omega)]
  omega
theorem below_setd {B : Nat} {w W : World} {p : Addr} (h : Below B w W) (hp : B ≤ p.block) (n : Nat) (v : Value) : Below B w ((W.drewN n).setCell p v) := Below.setCell (w := W.drewN n) ⟨h.os, h.tape, h.output, h.size, h.block⟩ hp v
theorem word_lt (s : List UInt8) (t : Nat) : SH.word s t < 4294967296 := by
  unfold SH.word
  have h0 := (s.getD (4 * t) 0).toNat_lt
  have h1 := (s.getD (4 * t + 1) 0).toNat_lt
  have h2 := (s.getD (4 * t + 2) 0).toNat_lt
  have h3 := (s.getD (4 * t + 3) 0).toNat_lt
  omega
theorem sched_all (s : List UInt8) (t : Nat) : ∀ x ∈ SH.sched s t, x < 4294967296 := by
  induction t with
  | zero => intro x h; cases h
  | succ t ih =>
    intro x h
    rw [SH.sched, List.mem_append] at h
    rcases h with h | h
    · exact ih x h
    · rw [List.mem_singleton] at h
      rw [h]
      split
      · exact word_lt s t
      · exact Nat.mod_lt _ (by decide)
theorem sched_lt (s : List UInt8) (t j : Nat) : (SH.sched s t).getD j 0 < 4294967296 := by
  rw [List.getD_eq_getElem?_getD]
  cases h : (SH.sched s t)[j]? with
  | none => exact (by decide : (0 : Nat) < 4294967296)
  | some x => exact sched_all s t x (List.mem_of_getElem? h)
theorem shr_lt {a : Nat} (n : Nat) (ha : a < 4294967296) : a >>> n < 4294967296 := Nat.lt_of_le_of_lt (Nat.shiftRight_le a n) ha
theorem xor_lt {a b : Nat} (ha : a < 4294967296) (hb : b < 4294967296) : a ^^^ b < 4294967296 := Nat.xor_lt_two_pow (n := 32) ha hb
theorem xor3 {a b c : Nat} (ha : a < 4294967296) (hb : b < 4294967296) (hc : c < 4294967296) : bits .xor .u32 (bits .xor .u32 (a : Int) (b : Int)) (c : Int) = (((a ^^^ b) ^^^ c : Nat) : Int) := by
  rw [u32_xor_nat _ _ ha hb, u32_xor_nat _ _ (xor_lt ha hb) hc]
theorem wrap_add (a b : Nat) : ((a : Int) + (b : Int)) % 4294967296 = (((a + b) % 4294967296 : Nat) : Int) := by omega
theorem and_lt {a b : Nat} (hb : b < 4294967296) : a &&& b < 4294967296 := Nat.and_lt_two_pow (n := 32) a hb
theorem not32 (e : Nat) (he : e < 4294967296) : bits .xor .u32 IntKind.u32.max (e : Int) = ((4294967295 - e : Nat) : Int) := by
  have h : IntKind.u32.max = ((4294967295 : Nat) : Int) := by rfl
  rw [h, u32_xor_nat _ _ (by decide) he]
  have : (BitVec.allOnes 32 ^^^ BitVec.ofNat 32 e).toNat = (~~~ BitVec.ofNat 32 e).toNat := by rw [BitVec.allOnes_xor]
  rw [BitVec.toNat_xor, BitVec.toNat_not, BitVec.toNat_allOnes, BitVec.toNat_ofNat, Nat.mod_eq_of_lt he] at this
  exact congrArg (fun n : Nat => (n : Int)) (by simpa using this)
theorem ch_eq (e f g : Nat) (he : e < 4294967296) (hf : f < 4294967296) (hg : g < 4294967296) :
    bits .xor .u32 (bits .and .u32 (e : Int) f) (bits .and .u32 (bits .xor .u32 IntKind.u32.max (e : Int)) g) = ((SH.ch e f g : Nat) : Int) := by
  rw [not32 e he, u32_and_nat _ _ he hf, u32_and_nat _ _ (by omega) hg, u32_xor_nat _ _ (and_lt hf) (and_lt hg)]
  rfl
theorem maj_eq (a b c : Nat) (ha : a < 4294967296) (hb : b < 4294967296) (hc : c < 4294967296) :
    bits .xor .u32 (bits .xor .u32 (bits .and .u32 (a : Int) b) (bits .and .u32 (a : Int) c)) (bits .and .u32 (b : Int) c) = ((SH.maj a b c : Nat) : Int) := by
  rw [u32_and_nat _ _ ha hb, u32_and_nat _ _ ha hc, u32_and_nat _ _ hb hc, xor3 (and_lt hb) (and_lt hc) (and_lt hc)]
  rfl
theorem big1_eq (e : Nat) (he : e < 4294967296) : bits .xor .u32 (bits .xor .u32 (SH.rotr e 6 : Nat) (SH.rotr e 11 : Nat)) (SH.rotr e 25 : Nat) = ((SH.b1 e : Nat) : Int) := by
  rw [xor3 (rotr_lt he) (rotr_lt he) (rotr_lt he)]; rfl
theorem big0_eq (e : Nat) (he : e < 4294967296) : bits .xor .u32 (bits .xor .u32 (SH.rotr e 2 : Nat) (SH.rotr e 13 : Nat)) (SH.rotr e 22 : Nat) = ((SH.b0 e : Nat) : Int) := by
  rw [xor3 (rotr_lt he) (rotr_lt he) (rotr_lt he)]; rfl
theorem one_eq (h e f g k w : Nat) (he : e < 4294967296) (hf : f < 4294967296) (hg : g < 4294967296) :
    ((((((h : Int) + bits .xor .u32 (bits .xor .u32 (SH.rotr e 6 : Nat) (SH.rotr e 11 : Nat)) (SH.rotr e 25 : Nat)) % 4294967296 + bits .xor .u32 (bits .and .u32 (e : Int) f) (bits .and .u32 (bits .xor .u32 IntKind.u32.max (e : Int)) g)) % 4294967296 + (k : Int)) % 4294967296 + (w : Int)) % 4294967296)
      = ((((((h + SH.b1 e) % 4294967296 + SH.ch e f g) % 4294967296 + k) % 4294967296 + w) % 4294967296 : Nat) : Int) := by
  rw [big1_eq e he, ch_eq e f g he hf hg, wrap_add, wrap_add, wrap_add, wrap_add]
theorem two_eq (a b c : Nat) (ha : a < 4294967296) (hb : b < 4294967296) (hc : c < 4294967296) :
    (bits .xor .u32 (bits .xor .u32 (SH.rotr a 2 : Nat) (SH.rotr a 13 : Nat)) (SH.rotr a 22 : Nat) + bits .xor .u32 (bits .xor .u32 (bits .and .u32 (a : Int) b) (bits .and .u32 (a : Int) c)) (bits .and .u32 (b : Int) c)) % 4294967296
      = (((SH.b0 a + SH.maj a b c) % 4294967296 : Nat) : Int) := by
  rw [big0_eq a ha, maj_eq a b c ha hb hc, wrap_add]
theorem next_eq (y2 y7 y15 y16 : Nat) (h2 : y2 < 4294967296) (h15 : y15 < 4294967296) :
    (((bits .xor .u32 (bits .xor .u32 (SH.rotr y2 17 : Nat) (SH.rotr y2 19 : Nat)) ((y2 : Int) / (1024 : Int)) + (y7 : Int)) % 4294967296 + bits .xor .u32 (bits .xor .u32 (SH.rotr y15 7 : Nat) (SH.rotr y15 18 : Nat)) ((y15 : Int) / (8 : Int))) % 4294967296 + (y16 : Int)) % 4294967296
      = (((((SH.s1 y2 + y7) % 4294967296 + SH.s0 y15) % 4294967296 + y16) % 4294967296 : Nat) : Int) := by
  have e1 : (y2 : Int) / (1024 : Int) = ((y2 >>> 10 : Nat) : Int) := by rw [Nat.shiftRight_eq_div_pow]; omega
  have e2 : (y15 : Int) / (8 : Int) = ((y15 >>> 3 : Nat) : Int) := by rw [Nat.shiftRight_eq_div_pow]; omega
  rw [e1, e2, xor3 (rotr_lt h2) (rotr_lt h2) (shr_lt 10 h2), xor3 (rotr_lt h15) (rotr_lt h15) (shr_lt 3 h15), wrap_add, wrap_add, wrap_add]
  rfl
def cubesC : List Value := SH.cubes.map u32c
theorem cubesC_len : cubesC.length = 64 := by decide
theorem cubes_info : (Tryd.prog.info? 125).map (·.size) = some cubesC.length := by kernel_rfl
theorem below_less {B C : Nat} {a w : World} (h : Below B a w) (hc : C ≤ B) : Below C a w := ⟨h.os, h.tape, h.output, h.size, fun b hb => h.block b (by omega)⟩
theorem below_drewNd {B : Nat} {a w : World} (h : Below B a w) (q : Nat) : Below B a (w.drewN q) := ⟨h.os, h.tape, h.output, h.size, h.block⟩
def SH.St.ok (x : SH.St) : Prop := x.a < 4294967296 ∧ x.b < 4294967296 ∧ x.c < 4294967296 ∧ x.d < 4294967296 ∧ x.e < 4294967296 ∧ x.f < 4294967296 ∧ x.g < 4294967296 ∧ x.h < 4294967296
theorem SH.step_ok (x : SH.St) (k w : Nat) (h : x.ok) : (SH.step x k w).ok := by
  obtain ⟨h1, h2, h3, h4, h5, h6, h7, h8⟩ := h
  exact ⟨Nat.mod_lt _ (by decide), h1, h2, h3, Nat.mod_lt _ (by decide), h5, h6, h7⟩
theorem SH.rounds_ok (ws : List Nat) (x : SH.St) (h : x.ok) (t : Nat) : (SH.rounds ws x t).ok := by
  induction t with
  | zero => exact h
  | succ t ih => exact SH.step_ok _ _ _ ih
theorem cubes_lt (t : Nat) : SH.cubes.getD t 0 < 4294967296 := by
  by_cases h : t < 64
  · exact (by decide +kernel : ∀ t, t < 64 → SH.cubes.getD t 0 < 4294967296) t h
  · rw [List.getD_eq_getElem?_getD, List.getElem?_eq_none (by show 64 ≤ t; omega)]; decide
theorem idx_cubes (l : List Value) (i : Nat) (v : Value) (hi : i < 64) (h : l[i]? = some v) (w : World) : (Instr.index 125 (.agg l.toArray) (.int .i64 i)).run Tryd.prog w = .ok v w := by
  have hp : (part 105 l.toArray i).run Tryd.prog w = .ok v w := by
    simp [part, isAgg, run_underlying Tryd.underlying105, Sem.run_bind, h]
  have hz : (sizeOf 105).run Tryd.prog w = .ok 1 w := by kernel_rfl
  simp [Instr.index, run_underlying Tryd.underlying125, asIntOf, Sem.run_bind, hi, hz, hp]
def nums (x : SH.St) : List Nat := [x.a, x.b, x.c, x.d, x.e, x.f, x.g, x.h]
def mixC (x z : SH.St) (u : Nat) : List Value := ((nums (SH.addS x z)).take u ++ (nums x).drop u).map u32c
theorem mix_step (x z : SH.St) (u : Nat) (hu : u < 8) : (mixC x z u).set u (u32c (((nums x).getD u 0 + (nums z).getD u 0) % 4294967296)) = mixC x z (u + 1) := by
  have : u = 0 ∨ u = 1 ∨ u = 2 ∨ u = 3 ∨ u = 4 ∨ u = 5 ∨ u = 6 ∨ u = 7 := by omega
  rcases this with rfl | rfl | rfl | rfl | rfl | rfl | rfl | rfl <;> rfl
theorem mix_at (x z : SH.St) (u : Nat) (hu : u < 8) : (mixC x z u)[u]? = some (u32c ((nums x).getD u 0)) := by
  have : u = 0 ∨ u = 1 ∨ u = 2 ∨ u = 3 ∨ u = 4 ∨ u = 5 ∨ u = 6 ∨ u = 7 := by omega
  rcases this with rfl | rfl | rfl | rfl | rfl | rfl | rfl | rfl <;> rfl
theorem nums_at (z : SH.St) (u : Nat) (hu : u < 8) : ((nums z).map u32c)[u]? = some (u32c ((nums z).getD u 0)) := by
  have : u = 0 ∨ u = 1 ∨ u = 2 ∨ u = 3 ∨ u = 4 ∨ u = 5 ∨ u = 6 ∨ u = 7 := by omega
  rcases this with rfl | rfl | rfl | rfl | rfl | rfl | rfl | rfl <;> rfl
theorem idx_eight (l : List Value) (i : Nat) (v : Value) (hi : i < 8) (h : l[i]? = some v) (w : World) : (Instr.index 112 (.agg l.toArray) (.int .i64 i)).run Tryd.prog w = .ok v w := by
  have hp : (part 105 l.toArray i).run Tryd.prog w = .ok v w := by
    simp [part, isAgg, run_underlying Tryd.underlying105, Sem.run_bind, h]
  have hz : (sizeOf 105).run Tryd.prog w = .ok 1 w := by kernel_rfl
  simp [Instr.index, run_underlying Tryd.underlying112, asIntOf, Sem.run_bind, hi, hz, hp]
/-- The eight words as a value. -/
def stV (x : SH.St) : Value := .agg #[.int .u32 x.a, .int .u32 x.b, .int .u32 x.c, .int .u32 x.d, .int .u32 x.e, .int .u32 x.f, .int .u32 x.g, .int .u32 x.h]
end Go.Proofs.YtmblnacckboggaaDoor
