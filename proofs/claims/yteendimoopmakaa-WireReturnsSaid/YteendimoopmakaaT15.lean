/- The law's write and refer of one item: the error and the bytes are the same on both sides. For strings and bools of at most 3000, a writer with fewer than 100,000 bytes. -/
import Derived.Test.YteendimoopmakaaT14
import Derived.Test.YteendimoopmakaaT11
namespace Go.Proofs.Yteendimoopmakaa
open Go.RowKit

structure It where
  kind : Int
  size : Int
  n : Int
  s : ByteArray
  sl : Value
  L : List Bool
def It.val (x : It) : Value := .agg #[.int .i64 x.kind, .int .i64 x.size, .int .i64 x.n, .string x.s, x.sl]
/-- an item that is read: its number fits, its bools lie below block B -/
def It.ok (w : World) (B : Nat) (x : It) : Prop := (-9223372036854775808 ≤ x.n ∧ x.n ≤ 9223372036854775807) ∧ Bools w B x.sl x.L
def It.small (x : It) : Prop := x.s.size ≤ 3000 ∧ x.L.length ≤ 3000
def wrE (x : It) : Int := if x.kind = 0 then litE x.n x.size else if x.kind = 1 then sgnE x.n x.size else 0
def wrB (x : It) : List UInt8 :=
  if x.kind = 0 then (if litE x.n x.size = 0 then litB x.n x.size.toNat else [])
  else if x.kind = 1 then (if sgnE x.n x.size = 0 then litB x.n x.size.toNat else [])
  else if x.kind = 2 ∨ x.kind = 6 then numB x.n
  else if x.kind = 3 then numB x.s.size ++ x.s.data.toList
  else if x.kind = 4 then bitB x.L
  else x.s.data.toList
theorem It.ok.below {w w' : World} {B : Nat} {x : It} (h : x.ok w B) (hb : Below B w w') : x.ok w' B := ⟨h.1, h.2.below hb⟩

def WritePost (w : World) (base b : Nat) (v : Value) (bs : List UInt8) (E : Int) (ns : List UInt8) (e : Ending) (w' : World) : Prop := e = .returned (.int .i64 E) ∧ Wrote w w' base b v (bs ++ ns)
theorem str_eta (s : ByteArray) : (⟨s.data.toList.toArray⟩ : ByteArray) = s := by cases s; simp

section
variable {w : World} {base b B : Nat} {v : Value} {bs : List UInt8}

set_option maxRecDepth 100000 in
set_option maxHeartbeats 1600000 in
theorem write_k0 (size n : Int) (s : ByteArray) (so : Option Addr) (ls cs : Nat) (h0 : -9223372036854775808 ≤ n) (h1 : n ≤ 9223372036854775807) (hlen : bs.length ≤ 100000) (hw : WrAt w base b v bs) (hbase : base ≤ w.heap.size) :
    Calls Try.prog 19 #[.pointer (some ⟨b, 0, none⟩), .agg #[.int .i64 0, .int .i64 size, .int .i64 n, .string s, .slice so ls cs]] w (WritePost w base b v bs (litE n size) (if litE n size = 0 then litB n size.toNat else [])) := by
  have hb0 : Below w.heap.size w (w.alloc (.cells #[.int .i64 0, .int .i64 size, .int .i64 n, .string s, .slice so ls cs] 35)) := (Below.refl _ _).alloc (Nat.le_refl _) _
  have hw0 := hw.below hb0
  generalize hN : (if litE n size = 0 then litB n size.toNat else []) = N
  have HN := Lib.hid hN
  clear hN
  go_enter Try.func19, Try.ntmps19
  go_wp2_with fail
  refine (Little_any n size base b v bs _ h0 h1 (by omega) (by exact hw0) (by simp; omega)).mono ?_
  rintro e w1 ⟨rfl, hq⟩
  rw [HN.out] at hq
  have HQ := Lib.hid hq
  clear hq
  go_wp2
  go_ret
  exact ⟨rfl, Wrote.below hb0 HQ.out⟩

set_option maxRecDepth 100000 in
set_option maxHeartbeats 1600000 in
theorem write_k1 (size n : Int) (s : ByteArray) (so : Option Addr) (ls cs : Nat) (h0 : -9223372036854775808 ≤ n) (h1 : n ≤ 9223372036854775807) (hlen : bs.length ≤ 100000) (hw : WrAt w base b v bs) (hbase : base ≤ w.heap.size) :
    Calls Try.prog 19 #[.pointer (some ⟨b, 0, none⟩), .agg #[.int .i64 1, .int .i64 size, .int .i64 n, .string s, .slice so ls cs]] w (WritePost w base b v bs (sgnE n size) (if sgnE n size = 0 then litB n size.toNat else [])) := by
  have hb0 : Below w.heap.size w (w.alloc (.cells #[.int .i64 1, .int .i64 size, .int .i64 n, .string s, .slice so ls cs] 35)) := (Below.refl _ _).alloc (Nat.le_refl _) _
  have hw0 := hw.below hb0
  generalize hN : (if sgnE n size = 0 then litB n size.toNat else []) = N
  have HN := Lib.hid hN
  clear hN
  go_enter Try.func19, Try.ntmps19
  go_wp2_with fail
  refine (Signed_any n size base b v bs _ h0 h1 (by omega) (by exact hw0) (by simp; omega)).mono ?_
  rintro e w1 ⟨rfl, hq⟩
  rw [HN.out] at hq
  have HQ := Lib.hid hq
  clear hq
  go_wp2
  go_ret
  exact ⟨rfl, Wrote.below hb0 HQ.out⟩

set_option maxRecDepth 100000 in
set_option maxHeartbeats 1600000 in
theorem write_k2 (size n : Int) (s : ByteArray) (so : Option Addr) (ls cs : Nat) (h0 : -9223372036854775808 ≤ n) (h1 : n ≤ 9223372036854775807) (hlen : bs.length ≤ 100000) (hw : WrAt w base b v bs) (hbase : base ≤ w.heap.size) :
    Calls Try.prog 19 #[.pointer (some ⟨b, 0, none⟩), .agg #[.int .i64 2, .int .i64 size, .int .i64 n, .string s, .slice so ls cs]] w (WritePost w base b v bs (0) (numB n)) := by
  have hb0 : Below w.heap.size w (w.alloc (.cells #[.int .i64 2, .int .i64 size, .int .i64 n, .string s, .slice so ls cs] 35)) := (Below.refl _ _).alloc (Nat.le_refl _) _
  have hw0 := hw.below hb0
  go_enter Try.func19, Try.ntmps19
  go_wp2_with fail
  refine (Number_any n base b v bs _ h0 h1 (by omega) (by exact hw0) (by simp; omega)).mono ?_
  rintro e w1 ⟨rfl, hq⟩
  have HQ := Lib.hid hq
  clear hq
  go_wp2
  go_ret
  exact ⟨rfl, Wrote.below hb0 HQ.out⟩

set_option maxRecDepth 100000 in
set_option maxHeartbeats 1600000 in
theorem write_k6 (size n : Int) (s : ByteArray) (so : Option Addr) (ls cs : Nat) (h0 : -9223372036854775808 ≤ n) (h1 : n ≤ 9223372036854775807) (hlen : bs.length ≤ 100000) (hw : WrAt w base b v bs) (hbase : base ≤ w.heap.size) :
    Calls Try.prog 19 #[.pointer (some ⟨b, 0, none⟩), .agg #[.int .i64 6, .int .i64 size, .int .i64 n, .string s, .slice so ls cs]] w (WritePost w base b v bs (0) (numB n)) := by
  have hb0 : Below w.heap.size w (w.alloc (.cells #[.int .i64 6, .int .i64 size, .int .i64 n, .string s, .slice so ls cs] 35)) := (Below.refl _ _).alloc (Nat.le_refl _) _
  have hw0 := hw.below hb0
  go_enter Try.func19, Try.ntmps19
  go_wp2_with fail
  refine (Number_any n base b v bs _ h0 h1 (by omega) (by exact hw0) (by simp; omega)).mono ?_
  rintro e w1 ⟨rfl, hq⟩
  have HQ := Lib.hid hq
  clear hq
  go_wp2
  go_ret
  exact ⟨rfl, Wrote.below hb0 HQ.out⟩

set_option maxRecDepth 100000 in
set_option maxHeartbeats 1600000 in
theorem write_k3 (size n : Int) (s : ByteArray) (so : Option Addr) (ls cs : Nat) (hs : s.size ≤ 3000) (hlen : bs.length ≤ 100000) (hw : WrAt w base b v bs) (hbase : base ≤ w.heap.size) :
    Calls Try.prog 19 #[.pointer (some ⟨b, 0, none⟩), .agg #[.int .i64 3, .int .i64 size, .int .i64 n, .string s, .slice so ls cs]] w (WritePost w base b v bs (0) (numB s.size ++ s.data.toList)) := by
  have hb0 : Below w.heap.size w (w.alloc (.cells #[.int .i64 3, .int .i64 size, .int .i64 n, .string s, .slice so ls cs] 35)) := (Below.refl _ _).alloc (Nat.le_refl _) _
  have hw0 := hw.below hb0
  go_enter Try.func19, Try.ntmps19
  go_wp2_with fail
  refine (String_any s base b v bs _ (by omega) hlen (by exact hw0) (by simp; omega)).mono ?_
  rintro e w1 ⟨rfl, hq⟩
  have HQ := Lib.hid hq
  clear hq
  go_wp2
  go_ret
  exact ⟨rfl, Wrote.below hb0 HQ.out⟩

set_option maxRecDepth 100000 in
set_option maxHeartbeats 1600000 in
theorem write_k4n (size n : Int) (s : ByteArray) (ao : Option Addr) (cp : Nat) (hlen : bs.length ≤ 100000) (hw : WrAt w base b v bs) (hbase : base ≤ w.heap.size) :
    Calls Try.prog 19 #[.pointer (some ⟨b, 0, none⟩), .agg #[.int .i64 4, .int .i64 size, .int .i64 n, .string s, .slice ao 0 cp]] w (WritePost w base b v bs (0) (bitB [])) := by
  have hb0 : Below w.heap.size w (w.alloc (.cells #[.int .i64 4, .int .i64 size, .int .i64 n, .string s, .slice ao 0 cp] 35)) := (Below.refl _ _).alloc (Nat.le_refl _) _
  have hw0 := hw.below hb0
  go_enter Try.func19, Try.ntmps19
  go_wp2_with fail
  refine (Bits_none ao cp base b v bs _ (by omega) (by exact hw0) (by simp; omega)).mono ?_
  rintro e w1 ⟨rfl, hq⟩
  have HQ := Lib.hid hq
  clear hq
  go_wp2
  go_ret
  exact ⟨rfl, Wrote.below hb0 HQ.out⟩

set_option maxRecDepth 100000 in
set_option maxHeartbeats 1600000 in
theorem write_k4 (size n : Int) (s : ByteArray) (bb off cap : Nat) (L : List Bool) (hL : L.length ≤ 3000) (hcap : L.length ≤ cap) (hcap2 : cap ≤ 140737488351232) (hbb : bb < w.heap.size) (hbb1 : bb ≠ b) (hbb2 : v.ownBlock ≠ some bb) (hc : ∀ j, j < L.length → w.cell? ⟨bb, off + j, none⟩ = some (.bool (L.getD j false))) (hlen : bs.length ≤ 100000) (hw : WrAt w base b v bs) (hbase : base ≤ w.heap.size) :
    Calls Try.prog 19 #[.pointer (some ⟨b, 0, none⟩), .agg #[.int .i64 4, .int .i64 size, .int .i64 n, .string s, .slice (some ⟨bb, off, none⟩) L.length cap]] w (WritePost w base b v bs (0) (bitB L)) := by
  have hb0 : Below w.heap.size w (w.alloc (.cells #[.int .i64 4, .int .i64 size, .int .i64 n, .string s, .slice (some ⟨bb, off, none⟩) L.length cap] 35)) := (Below.refl _ _).alloc (Nat.le_refl _) _
  have hw0 := hw.below hb0
  have hc' := fun j (hj : j < L.length) => (hb0.cell (p := ⟨bb, off + j, none⟩) hbb).trans (hc j hj)
  have HC := Lib.hid hc'
  clear hc hc'
  go_enter Try.func19, Try.ntmps19
  go_wp2_with fail
  refine (Bits_any base b v bs bb off cap L _ (by omega) (by exact hw0) (by simp; omega) (by omega) hcap hcap2 (by simp; omega) hbb1 hbb2 (by exact HC.out)).mono ?_
  rintro e w1 ⟨rfl, hq⟩
  have HQ := Lib.hid hq
  clear hq
  go_wp2
  go_ret
  exact ⟨rfl, Wrote.below hb0 HQ.out⟩

set_option maxRecDepth 100000 in
set_option maxHeartbeats 1600000 in
theorem write_raw (kind size n : Int) (s : ByteArray) (so : Option Addr) (ls cs : Nat) (hk : kind ≠ 0 ∧ kind ≠ 1 ∧ kind ≠ 2 ∧ kind ≠ 6 ∧ kind ≠ 3 ∧ kind ≠ 4) (hs : s.size ≤ 3000) (hlen : bs.length ≤ 100000) (hw : WrAt w base b v bs) (hbase : base ≤ w.heap.size) :
    Calls Try.prog 19 #[.pointer (some ⟨b, 0, none⟩), .agg #[.int .i64 kind, .int .i64 size, .int .i64 n, .string s, .slice so ls cs]] w (WritePost w base b v bs 0 s.data.toList) := by
  have hb0 : Below w.heap.size w (w.alloc (.cells #[.int .i64 kind, .int .i64 size, .int .i64 n, .string s, .slice so ls cs] 35)) := (Below.refl _ _).alloc (Nat.le_refl _) _
  have hw0 := hw.below hb0
  obtain ⟨k0, k1, k2, k6, k3, k4⟩ := hk
  have e0 : (kind == 0) = false := by rw [beq_eq_false_iff_ne]; exact k0
  have e1 : (kind == 1) = false := by rw [beq_eq_false_iff_ne]; exact k1
  have e2 : (kind == 2) = false := by rw [beq_eq_false_iff_ne]; exact k2
  have e6 : (kind == 6) = false := by rw [beq_eq_false_iff_ne]; exact k6
  have e3 : (kind == 3) = false := by rw [beq_eq_false_iff_ne]; exact k3
  have e4 : (kind == 4) = false := by rw [beq_eq_false_iff_ne]; exact k4
  clear k0 k1 k2 k6 k3 k4
  go_enter Try.func19, Try.ntmps19
  go_wp2_with fail
  refine (Raw_any s base b v bs _ (by omega) hlen (by exact hw0) (by simp; omega)).mono ?_
  rintro e w1 ⟨rfl, hq⟩
  have HQ := Lib.hid hq
  clear hq
  go_wp2
  go_ret
  exact ⟨rfl, Wrote.below hb0 HQ.out⟩

/-- The writer's side of an item. -/
theorem write_any (x : It) (hx : x.ok w B) (hsm : x.small) (hB : B ≤ base) (hbb : base ≤ b) (hlen : bs.length ≤ 100000) (hw : WrAt w base b v bs) (hbase : base ≤ w.heap.size) :
    Calls Try.prog 19 #[.pointer (some ⟨b, 0, none⟩), x.val] w (WritePost w base b v bs (wrE x) (wrB x)) := by
  obtain ⟨kind, size, n, s, sl, L⟩ := x
  obtain ⟨⟨h0, h1⟩, hbl⟩ := hx
  obtain ⟨hs, hL⟩ := hsm
  dsimp only at h0 h1 hbl hs hL
  have hsl : ∃ so ls cs, sl = .slice so ls cs := by
    rcases hbl with ⟨⟨ao, cp, rfl⟩, _⟩ | ⟨bb, off, cap, rfl, _⟩
    · exact ⟨_, _, _, rfl⟩
    · exact ⟨_, _, _, rfl⟩
  unfold wrE wrB It.val
  dsimp only
  by_cases k0 : kind = 0
  · obtain ⟨so, ls, cs, rfl⟩ := hsl
    subst k0
    exact write_k0 size n s so ls cs h0 h1 hlen hw hbase
  rw [if_neg k0, if_neg k0]
  by_cases k1 : kind = 1
  · obtain ⟨so, ls, cs, rfl⟩ := hsl
    subst k1
    exact write_k1 size n s so ls cs h0 h1 hlen hw hbase
  rw [if_neg k1, if_neg k1]
  by_cases k2 : kind = 2
  · obtain ⟨so, ls, cs, rfl⟩ := hsl
    subst k2
    exact write_k2 size n s so ls cs h0 h1 hlen hw hbase
  by_cases k6 : kind = 6
  · obtain ⟨so, ls, cs, rfl⟩ := hsl
    subst k6
    exact write_k6 size n s so ls cs h0 h1 hlen hw hbase
  rw [if_neg (by rintro (h | h); exact k2 h; exact k6 h)]
  by_cases k3 : kind = 3
  · obtain ⟨so, ls, cs, rfl⟩ := hsl
    subst k3
    exact write_k3 size n s so ls cs hs hlen hw hbase
  rw [if_neg k3]
  by_cases k4 : kind = 4
  · subst k4
    rw [if_pos rfl]
    rcases hbl with ⟨⟨ao, cp, rfl⟩, rfl⟩ | ⟨bb, off, cap, rfl, hb1, hc1, hc2, hc⟩
    · exact write_k4n size n s ao cp hlen hw hbase
    · exact write_k4 size n s bb off cap L hL hc1 hc2 (by omega) (by omega) (fun e => by have := (hw.2.lt _ e).1; omega) hc hlen hw hbase
  · obtain ⟨so, ls, cs, rfl⟩ := hsl
    rw [if_neg k4]
    exact write_raw kind size n s so ls cs ⟨k0, k1, k2, k6, k3, k4⟩ hs hlen hw hbase
end
end Go.Proofs.Yteendimoopmakaa
