/- The law's refer of one item, and Few: the reference gives the same error and bytes. For strings and bools of at most 3000. -/
import Derived.Test.YteendimoopmakaaT15
namespace Go.Proofs.Yteendimoopmakaa
open Go.RowKit

theorem refPost_below {w w1 w' : World} {ns : List UInt8} {E : Int} {e : Ending} (hb : Below w.heap.size w w1) (h : RefPost w1 ns E e w') : RefPost w ns E e w' := ⟨h.1, hb.trans (h.2.mono hb.size)⟩
section
variable {w : World} {B : Nat}

set_option maxRecDepth 100000 in
set_option maxHeartbeats 1600000 in
theorem refer_k0 (size n : Int) (s : ByteArray) (so : Option Addr) (ls cs : Nat) (h0 : -9223372036854775808 ≤ n) (h1 : n ≤ 9223372036854775807) : Calls Try.prog 18 #[.agg #[.int .i64 0, .int .i64 size, .int .i64 n, .string s, .slice so ls cs]] w (RefPost w (if litE n size = 0 then litB n size.toNat else []) (litE n size)) := by
  have hb0 : Below w.heap.size w (w.alloc (.cells #[.int .i64 0, .int .i64 size, .int .i64 n, .string s, .slice so ls cs] 35)) := (Below.refl _ _).alloc (Nat.le_refl _) _
  generalize hN : (if litE n size = 0 then litB n size.toNat else []) = N
  have HN := Lib.hid hN
  clear hN
  go_enter Try.func18, Try.ntmps18
  go_wp2_with fail
  refine (refLittle_any n size _ h0 h1).mono ?_
  rintro e w1 ⟨rfl, hq⟩
  rw [HN.out]
  have HQ := Lib.hid (hb0.trans (hq.mono hb0.size))
  clear hq
  go_wp2
  go_ret2
  exact ⟨rfl, HQ.out⟩

set_option maxRecDepth 100000 in
set_option maxHeartbeats 1600000 in
theorem refer_k1 (size n : Int) (s : ByteArray) (so : Option Addr) (ls cs : Nat) (h0 : -9223372036854775808 ≤ n) (h1 : n ≤ 9223372036854775807) : Calls Try.prog 18 #[.agg #[.int .i64 1, .int .i64 size, .int .i64 n, .string s, .slice so ls cs]] w (RefPost w (if sgnE n size = 0 then litB n size.toNat else []) (sgnE n size)) := by
  have hb0 : Below w.heap.size w (w.alloc (.cells #[.int .i64 1, .int .i64 size, .int .i64 n, .string s, .slice so ls cs] 35)) := (Below.refl _ _).alloc (Nat.le_refl _) _
  generalize hN : (if sgnE n size = 0 then litB n size.toNat else []) = N
  have HN := Lib.hid hN
  clear hN
  go_enter Try.func18, Try.ntmps18
  go_wp2_with fail
  refine (refSigned_any n size _ h0 h1).mono ?_
  rintro e w1 ⟨rfl, hq⟩
  rw [HN.out]
  have HQ := Lib.hid (hb0.trans (hq.mono hb0.size))
  clear hq
  go_wp2
  go_ret2
  exact ⟨rfl, HQ.out⟩

set_option maxRecDepth 100000 in
set_option maxHeartbeats 1600000 in
theorem refer_k2 (size n : Int) (s : ByteArray) (so : Option Addr) (ls cs : Nat) : Calls Try.prog 18 #[.agg #[.int .i64 2, .int .i64 size, .int .i64 n, .string s, .slice so ls cs]] w (RefPost w (numB n) (0)) := by
  have hb0 : Below w.heap.size w (w.alloc (.cells #[.int .i64 2, .int .i64 size, .int .i64 n, .string s, .slice so ls cs] 35)) := (Below.refl _ _).alloc (Nat.le_refl _) _
  go_enter Try.func18, Try.ntmps18
  go_wp2_with fail
  refine (refNumber_any n _).mono ?_
  rintro e w1 ⟨rfl, hq⟩
  have HQ := Lib.hid (hb0.trans (hq.mono hb0.size))
  clear hq
  go_wp2
  go_ret2
  exact ⟨rfl, HQ.out⟩

set_option maxRecDepth 100000 in
set_option maxHeartbeats 1600000 in
theorem refer_k6 (size n : Int) (s : ByteArray) (so : Option Addr) (ls cs : Nat) : Calls Try.prog 18 #[.agg #[.int .i64 6, .int .i64 size, .int .i64 n, .string s, .slice so ls cs]] w (RefPost w (numB n) (0)) := by
  have hb0 : Below w.heap.size w (w.alloc (.cells #[.int .i64 6, .int .i64 size, .int .i64 n, .string s, .slice so ls cs] 35)) := (Below.refl _ _).alloc (Nat.le_refl _) _
  go_enter Try.func18, Try.ntmps18
  go_wp2_with fail
  refine (refNumber_any n _).mono ?_
  rintro e w1 ⟨rfl, hq⟩
  have HQ := Lib.hid (hb0.trans (hq.mono hb0.size))
  clear hq
  go_wp2
  go_ret2
  exact ⟨rfl, HQ.out⟩

set_option maxRecDepth 100000 in
set_option maxHeartbeats 1600000 in
theorem refer_k3 (size n : Int) (s : ByteArray) (so : Option Addr) (ls cs : Nat) (hs : s.size ≤ 3000) : Calls Try.prog 18 #[.agg #[.int .i64 3, .int .i64 size, .int .i64 n, .string s, .slice so ls cs]] w (RefPost w (numB s.size ++ s.data.toList) (0)) := by
  have hb0 : Below w.heap.size w (w.alloc (.cells #[.int .i64 3, .int .i64 size, .int .i64 n, .string s, .slice so ls cs] 35)) := (Below.refl _ _).alloc (Nat.le_refl _) _
  go_enter Try.func18, Try.ntmps18
  go_wp2_with fail
  refine (refString_any s _ (by omega)).mono ?_
  rintro e w1 ⟨rfl, hq⟩
  have HQ := Lib.hid (hb0.trans (hq.mono hb0.size))
  clear hq
  go_wp2
  go_ret2
  exact ⟨rfl, HQ.out⟩

set_option maxRecDepth 100000 in
set_option maxHeartbeats 1600000 in
theorem refer_k4n (size n : Int) (s : ByteArray) (ao : Option Addr) (cp : Nat) : Calls Try.prog 18 #[.agg #[.int .i64 4, .int .i64 size, .int .i64 n, .string s, .slice ao 0 cp]] w (RefPost w (bitB []) (0)) := by
  have hb0 : Below w.heap.size w (w.alloc (.cells #[.int .i64 4, .int .i64 size, .int .i64 n, .string s, .slice ao 0 cp] 35)) := (Below.refl _ _).alloc (Nat.le_refl _) _
  go_enter Try.func18, Try.ntmps18
  go_wp2_with fail
  refine (refBits_none ao cp _).mono ?_
  rintro e w1 ⟨rfl, hq⟩
  have HQ := Lib.hid (hb0.trans (hq.mono hb0.size))
  clear hq
  go_wp2
  go_ret2
  exact ⟨rfl, HQ.out⟩

set_option maxRecDepth 100000 in
set_option maxHeartbeats 1600000 in
theorem refer_k4 (size n : Int) (s : ByteArray) (bb off cap : Nat) (L : List Bool) (hL : L.length ≤ 3000) (hcap : L.length ≤ cap) (hcap2 : cap ≤ 140737488351232) (hbb : bb < w.heap.size) (hc : ∀ j, j < L.length → w.cell? ⟨bb, off + j, none⟩ = some (.bool (L.getD j false))) : Calls Try.prog 18 #[.agg #[.int .i64 4, .int .i64 size, .int .i64 n, .string s, .slice (some ⟨bb, off, none⟩) L.length cap]] w (RefPost w (bitB L) (0)) := by
  have hb0 : Below w.heap.size w (w.alloc (.cells #[.int .i64 4, .int .i64 size, .int .i64 n, .string s, .slice (some ⟨bb, off, none⟩) L.length cap] 35)) := (Below.refl _ _).alloc (Nat.le_refl _) _
  have hc' := fun j (hj : j < L.length) => (hb0.cell (p := ⟨bb, off + j, none⟩) hbb).trans (hc j hj)
  have HC := Lib.hid hc'
  clear hc hc'
  go_enter Try.func18, Try.ntmps18
  go_wp2_with fail
  refine (refBits_any bb off cap L _ (by omega) hcap hcap2 (by simp; omega) (by exact HC.out)).mono ?_
  rintro e w1 ⟨rfl, hq⟩
  have HQ := Lib.hid (hb0.trans (hq.mono hb0.size))
  clear hq
  go_wp2
  go_ret2
  exact ⟨rfl, HQ.out⟩

set_option maxRecDepth 100000 in
set_option maxHeartbeats 1600000 in
theorem refer_raw (kind size n : Int) (s : ByteArray) (so : Option Addr) (ls cs : Nat) (hk : kind ≠ 0 ∧ kind ≠ 1 ∧ kind ≠ 2 ∧ kind ≠ 6 ∧ kind ≠ 3 ∧ kind ≠ 4) :
    Calls Try.prog 18 #[.agg #[.int .i64 kind, .int .i64 size, .int .i64 n, .string s, .slice so ls cs]] w (RefPost w s.data.toList 0) := by
  have hb0 : Below w.heap.size w (w.alloc (.cells #[.int .i64 kind, .int .i64 size, .int .i64 n, .string s, .slice so ls cs] 35)) := (Below.refl _ _).alloc (Nat.le_refl _) _
  obtain ⟨k0, k1, k2, k6, k3, k4⟩ := hk
  have e0 : (kind == 0) = false := by rw [beq_eq_false_iff_ne]; exact k0
  have e1 : (kind == 1) = false := by rw [beq_eq_false_iff_ne]; exact k1
  have e2 : (kind == 2) = false := by rw [beq_eq_false_iff_ne]; exact k2
  have e6 : (kind == 6) = false := by rw [beq_eq_false_iff_ne]; exact k6
  have e3 : (kind == 3) = false := by rw [beq_eq_false_iff_ne]; exact k3
  have e4 : (kind == 4) = false := by rw [beq_eq_false_iff_ne]; exact k4
  clear k0 k1 k2 k6 k3 k4
  go_enter Try.func18, Try.ntmps18
  go_wp2
  go_ret2
  exact ⟨by first | rfl | (rw [str_eta]; rfl), hb0⟩

/-- The reference's side of an item. -/
theorem refer_any (x : It) (hx : x.ok w B) (hsm : x.small) (hB : B ≤ w.heap.size) : Calls Try.prog 18 #[x.val] w (RefPost w (wrB x) (wrE x)) := by
  obtain ⟨kind, size, n, s, sl, L⟩ := x
  obtain ⟨⟨h0, h1⟩, hbl⟩ := hx
  obtain ⟨hs, hL⟩ := hsm
  dsimp only at h0 h1 hbl hs hL
  have hsl : ∃ so ls cs, sl = .slice so ls cs := by
    rcases hbl with ⟨⟨ao, cp, rfl⟩, _⟩ | ⟨bb, off, cap, rfl, _⟩
    · exact ⟨_, _, _, rfl⟩
    · exact ⟨_, _, _, rfl⟩
  unfold wrE wrB It.val
  dsimp only
  by_cases k0 : kind = 0
  · obtain ⟨so, ls, cs, rfl⟩ := hsl
    subst k0
    exact refer_k0 size n s so ls cs h0 h1
  rw [if_neg k0, if_neg k0]
  by_cases k1 : kind = 1
  · obtain ⟨so, ls, cs, rfl⟩ := hsl
    subst k1
    exact refer_k1 size n s so ls cs h0 h1
  rw [if_neg k1, if_neg k1]
  by_cases k2 : kind = 2
  · obtain ⟨so, ls, cs, rfl⟩ := hsl
    subst k2
    exact refer_k2 size n s so ls cs
  by_cases k6 : kind = 6
  · obtain ⟨so, ls, cs, rfl⟩ := hsl
    subst k6
    exact refer_k6 size n s so ls cs
  rw [if_neg (by rintro (h | h); exact k2 h; exact k6 h)]
  by_cases k3 : kind = 3
  · obtain ⟨so, ls, cs, rfl⟩ := hsl
    subst k3
    exact refer_k3 size n s so ls cs hs
  rw [if_neg k3]
  by_cases k4 : kind = 4
  · subst k4
    rw [if_pos rfl]
    rcases hbl with ⟨⟨ao, cp, rfl⟩, rfl⟩ | ⟨bb, off, cap, rfl, hb1, hc1, hc2, hc⟩
    · exact refer_k4n size n s ao cp
    · exact refer_k4 size n s bb off cap L hL hc1 hc2 (by omega) hc
  · obtain ⟨so, ls, cs, rfl⟩ := hsl
    rw [if_neg k4]
    exact refer_raw kind size n s so ls cs ⟨k0, k1, k2, k6, k3, k4⟩
end
end Go.Proofs.Yteendimoopmakaa
