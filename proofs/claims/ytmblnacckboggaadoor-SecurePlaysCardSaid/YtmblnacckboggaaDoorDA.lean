/- Sum (func 14) and Mac (func 17). -/
import Derived.Test.YtmblnacckboggaaDoorD9
import Derived.Test.YtmblnacckboggaaDoorD6
namespace Go.Proofs.YtmblnacckboggaaDoor
open Go.RowKit
/-- The two tables lie as they were laid. -/
structure Tabs (w : World) : Prop where
  roots : w.rangeAt 0 0 rootsC
  cubes : w.rangeAt 2 0 cubesC
  big : 2 < w.heap.size
theorem Tabs.keep {a w : World} (h : Tabs a) (hb : Below a.heap.size a w) : Tabs w :=
  ⟨keepRange hb h.roots (by have := h.big; omega), keepRange hb h.cubes h.big, Nat.lt_of_lt_of_le h.big hb.size⟩
theorem Tabs.drew {a : World} (h : Tabs a) : Tabs a.drew := ⟨h.roots, h.cubes, h.big⟩
theorem Tabs.alloc {a : World} (h : Tabs a) (o : Obj) : Tabs (a.alloc o) := h.keep ((Below.refl _ _).alloc (Nat.le_refl _) _)
/-- The cells of a hash, written out. -/
theorem isH_zero : IsH [] ⟨0, 0, 0, 0, 0, 0, 0, 0⟩ 0 ⟨#[]⟩ := ⟨⟨by decide, by decide, by decide, by decide, by decide, by decide, by decide, by decide⟩, rfl, rfl, fun h => absurd rfl h⟩
theorem hadd (m : List UInt8) (x : SH.St) (b : Nat) (r P : ByteArray) (hI : IsH m x b r) (hl : m.length + P.size < 1152921504606846976) (w : World) (hT : Tabs w) :
    Calls Tryd.prog 54 #[.agg #[.int .u32 x.a, .int .u32 x.b, .int .u32 x.c, .int .u32 x.d, .int .u32 x.e, .int .u32 x.f, .int .u32 x.g, .int .u32 x.h, .int .i64 b, .string r], .string P] w fun e w' => ∃ (y : SH.St) (b' : Nat) (r' : ByteArray), e = .returned (.agg #[.int .u32 y.a, .int .u32 y.b, .int .u32 y.c, .int .u32 y.d, .int .u32 y.e, .int .u32 y.f, .int .u32 y.g, .int .u32 y.h, .int .i64 b', .string r']) ∧ IsH (m ++ P.data.toList) y b' r' ∧ Below w.heap.size w w' := by
  refine (add_any m x b r P hI hl w hT.roots hT.cubes hT.big).mono ?_
  rintro e w' ⟨y, b', r', rfl, hI', _, hb⟩
  exact ⟨y, b', r', rfl, hI', hb⟩
theorem hadd0 (P : ByteArray) (hl : P.size < 1152921504606846976) (w : World) (hT : Tabs w) :
    Calls Tryd.prog 54 #[.agg #[.int .u32 0, .int .u32 0, .int .u32 0, .int .u32 0, .int .u32 0, .int .u32 0, .int .u32 0, .int .u32 0, .int .i64 0, .string ⟨#[]⟩], .string P] w fun e w' => ∃ (y : SH.St) (b' : Nat) (r' : ByteArray), e = .returned (.agg #[.int .u32 y.a, .int .u32 y.b, .int .u32 y.c, .int .u32 y.d, .int .u32 y.e, .int .u32 y.f, .int .u32 y.g, .int .u32 y.h, .int .i64 b', .string r']) ∧ IsH P.data.toList y b' r' ∧ Below w.heap.size w w' :=
  hadd [] ⟨0, 0, 0, 0, 0, 0, 0, 0⟩ 0 ⟨#[]⟩ P isH_zero (by simpa using hl) w hT
theorem hsum (m : List UInt8) (x : SH.St) (b : Nat) (r : ByteArray) (hI : IsH m x b r) (hl : m.length < 576460752303423488) (w : World) (hT : Tabs w) :
    Calls Tryd.prog 56 #[.agg #[.int .u32 x.a, .int .u32 x.b, .int .u32 x.c, .int .u32 x.d, .int .u32 x.e, .int .u32 x.f, .int .u32 x.g, .int .u32 x.h, .int .i64 b, .string r]] w fun e w' => e = .returned (.string ⟨(SH.sum m).toArray⟩) ∧ Below w.heap.size w w' := hsum_any m x b r hI hl w hT.roots hT.cubes hT.big
theorem sum_len (m : List UInt8) : (SH.sum m).length = 32 := rfl
theorem str_list (l : List UInt8) : (⟨l.toArray⟩ : ByteArray).data.toList = l := rfl
theorem str_size (l : List UInt8) : (⟨l.toArray⟩ : ByteArray).size = l.length := by rw [← bytes_len]
theorem sum_any (s : ByteArray) (hs : s.size < 576460752303423488) (w : World) (hT : Tabs w) :
    Calls Tryd.prog 53 #[.string s] w fun e w' => e = .returned (.string ⟨(SH.sum s.data.toList).toArray⟩) ∧ Below w.heap.size w w' := by
  have HT := Lib.hid hT
  have HS := Lib.hid hs
  clear hT hs
  go_enter Tryd.func53, Tryd.ntmps53
  go_wp2_with (first
    | (go_at_call 54; refine (hadd0 s (Nat.lt_of_lt_of_le HS.out (by decide)) _ HT.out).mono ?_; rintro e v1 ⟨y, b, r, rfl, hI, hb1⟩; have HI := Lib.hid hI; have B1 := Lib.hid hb1; clear hI hb1)
    | (go_at_call 56; refine (hsum _ y b r HI.out (by rw [bytes_len]; exact HS.out) _ (HT.out.keep B1.out)).mono ?_; rintro e v2 ⟨rfl, hb2⟩; have B2 := Lib.hid (keepBelow B1.out hb2); clear hb2))
  go_ret
  exact ⟨rfl, B2.out⟩
theorem key_size (key : List UInt8) : (SH.keyOf key).length = 64 ∨ 64 < (SH.keyOf key).length := by
  unfold SH.keyOf
  simp only [List.length_append, List.length_replicate]
  omega
end Go.Proofs.YtmblnacckboggaaDoor
