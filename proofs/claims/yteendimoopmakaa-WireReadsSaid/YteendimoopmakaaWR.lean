/- WireReads: every call of a reader returns what the reference returns, for any bytes, and so do At, Left, Err and End. No condition of its own. -/
import Derived.Test.YteendimoopmakaaT33
import Derived.Test.YteendimoopmakaaT34
import Derived.Test.YteendimoopmakaaWS
import Derived.Deep.RegionHeld3
import Derived.Deep.DrawnRows
namespace Go.Proofs.Yteendimoopmakaa
open Go.RowKit
namespace wireReads
attribute [local go_sem ↓] Go.wp_at_zero Go.wp_at_succ

theorem btX_len (s : ByteArray) (a : Nat) (most : Int) : (btX s a most).2.1.length ≤ 65536 := by
  have hneg := rdCount_neg s a (min most 65536)
  have hle := rdCount_le s a (min most 65536)
  have hnn := rdCount_nn s a (min most 65536)
  generalize hx : rdCount s a (min most 65536) = x at *
  obtain ⟨n, c, k⟩ := x
  dsimp only at *
  obtain ⟨m, rfl⟩ := Int.eq_ofNat_of_zero_le hnn
  rw [btX_of hx]
  by_cases hc : c = 0
  · have hm : 0 ≤ min most 65536 := by
      rcases (show min most 65536 < 0 ∨ 0 ≤ min most 65536 by omega) with h | h
      · exact absurd hc (hneg h)
      · exact h
    have := hle hm
    rw [if_neg (fun h => h hc)]
    split
    · simp
    · split
      · rw [bitsOf_length]; omega
      · simp
  · rw [if_pos hc]; simp
theorem rdO_len (s : ByteArray) (a : Nat) (kind n : Int) : (rdO s a kind n).l.length ≤ 65536 := by
  have := btX_len s a n
  unfold rdO
  repeat' split
  all_goals first | exact this | simp
theorem undrew {W w7 : World} (h : Below W.drew.heap.size W.drew w7) : Below W.heap.size W w7 := ⟨h.os, h.tape, h.output, h.size, h.block⟩
theorem rd_undrew {W w7 : World} {r : Nat} {s : ByteArray} {a : Nat} {c : Int} (h : Rd W.drew w7 r s a c) : Rd W w7 r s a c := ⟨h.1, h.2.os, h.2.tape, h.2.output, h.2.size, h.2.block⟩
theorem End_any (r : Nat) (s : ByteArray) (a : Nat) (c EC : Int) (w : World) (h : RdAt w r s a c) (ha : a ≤ s.size) (hs : s.size ≤ 140737488351232) (hE : EC = (if c = 0 then (if a < s.size then 2 else 0) else c)) :
    Calls Try.prog 28 #[.pointer (some ⟨r, 0, none⟩)] w fun e w' => e = .returned (.int .i64 EC) ∧ Rd w w' r s a EC := by
  subst hE
  by_cases hc : c = 0
  · subst hc
    rw [if_pos rfl]
    exact End_live r s a w h ha hs
  · rw [if_neg hc]
    exact End_stopped r s a c w h hc
theorem Left_q (r : Nat) (s : ByteArray) (a : Nat) (c : Int) (w : World) (h : RdAt w r s a c) (ha : a ≤ s.size) (hs : s.size ≤ 140737488351232) : Calls Try.prog 25 #[.pointer (some ⟨r, 0, none⟩)] w fun e w' => e = .returned (.int .i64 ((s.size : Int) - a)) ∧ ∃ n, w.drewN n = w' := by
  have h0 : w.cell? ⟨r, 0, none⟩ = some (.string s) := h.cell 0
  have h1 : w.cell? ⟨r, 1, none⟩ = some (.int .i64 a) := h.cell 1
  go_enter Try.func25, Try.ntmps25
  go_wp2_with fail
  go_quiet (fail)
  go_wp2
  go_ret
  exact ⟨rfl, _, rfl⟩
/-- One reading by both: the same outcome. -/
structure Both (s : ByteArray) (r : Nat) (a : Nat) (c kind n : Int) (o : Out) : Prop where
  read : ∀ W, RdAt W r s a c → Calls Try.prog 21 #[.pointer (some ⟨r, 0, none⟩), .agg #[.int .i64 kind, .int .i64 n]] W (ReadFull W r s o)
  ref : ∀ W, Calls Try.prog 22 #[.agg #[.string s, .int .i64 a, .int .i64 c], .agg #[.int .i64 kind, .int .i64 n]] W (RefItem W s o.n o.s o.l (o.k : Nat) o.c)
  le : o.k ≤ s.size
  len : o.l.length ≤ 65536
theorem both_any (s : ByteArray) (r a : Nat) (c kind n : Int) (ha : a ≤ s.size) (hs : s.size ≤ 140737488351232) : ∃ o, Both s r a c kind n o := by
  by_cases hc : c = 0
  · subst hc
    exact ⟨rdO s a kind n, fun W h => read_full kind n r s a W h ha hs, fun W => rref_live kind n s a W ha hs, (rdO_le s a kind n ha).2, rdO_len s a kind n⟩
  · exact ⟨⟨c, a, 0, ⟨#[]⟩, []⟩, fun W h => full_stopped kind n r s a c W h hc, fun W => rref_stopped kind n s a c W hc, ha, by simp⟩

set_option maxRecDepth 100000 in
set_option maxHeartbeats 3200000 in
theorem walk (s : ByteArray) (so1 : Option Addr) (cs1 : Nat) (l1 : List (Int × Int)) (w : World) (hs : s.size ≤ 140737488351232) (_hl1 : l1.length ≤ cs1) (_hc1 : cs1 ≤ 140737488351232) (h1 : Asks w w.heap.size so1 l1) :
    Calls Try.prog 5 #[.string s, .slice so1 l1.length cs1] w fun e w' => e = .returned (.bool true) ∧ Below w.heap.size w w' := by
  have H1 := Lib.hid h1
  clear h1
  by_cases hz1 : 5000 < s.size
  · go_enter Try.func5, Try.ntmps5
    go_wp2_with fail
    refine (awake_any _).mono ?_
    rintro e w0 ⟨rfl, hb0⟩
    go_wp2
    go_ret
    exact ⟨rfl, hb0⟩
  by_cases hz2 : 40 < l1.length
  · go_enter Try.func5, Try.ntmps5
    go_wp2_with fail
    refine (awake_any _).mono ?_
    rintro e w0 ⟨rfl, hb0⟩
    go_wp2
    go_ret
    exact ⟨rfl, hb0⟩
  go_enter Try.func5, Try.ntmps5
  go_wp2_with fail
  refine (awake_any _).mono ?_
  rintro e w0 ⟨rfl, hb0⟩
  have hs0 := hb0.size
  go_wp2_with fail
  refine (newReader_any s _).mono ?_
  rintro e w1 ⟨rfl, hw1⟩
  have hr1 := rd_new s w0
  rw [hw1] at hr1
  have hb1 : Below w.heap.size w w1 := by rw [← hw1]; exact hb0.alloc hs0 _
  have hsz1 : w1.heap.size = w0.heap.size + 1 := by rw [← hw1]; simp
  have HS1 := Lib.hid hsz1
  have HR1 := Lib.hid hr1
  have HB1 := Lib.hid hb1
  clear hw1 hsz1 hr1 hb1
  go_wp2_with fail
  go_loopw [30] (fun i wr => ∃ k : Nat, k ≤ l1.length ∧ i = .int .i64 k ∧ ∃ (a : Nat) (c : Int), RdAt wr w0.heap.size s a c ∧ Blk wr w1.heap.size 43 [.string s, .int .i64 a, .int .i64 c] ∧ a ≤ s.size ∧ Below w.heap.size w wr) (fun i _ => l1.length - (intOf i).toNat)
  case atStart =>
    refine ⟨0, by omega, rfl, 0, 0, Blk.alloc HR1.out _, Blk.new w1 43 [_, _, _], by omega, HB1.out.alloc (by rw [HS1.out]; omega) _⟩
  case round =>
    obtain ⟨k, hk, rfl, a, c, hr, hkb, ha, hb⟩ := hrel
    have hbs := hb.size
    by_cases hlt : k < l1.length
    · obtain ⟨ib, io, rfl, hib, q0, q1⟩ := H1.out k hlt
      have q0' := (hb.cell (p := ⟨ib, io + k * 2, none⟩) hib).trans q0
      have q1' := (hb.cell (p := ⟨ib, io + k * 2 + 1, none⟩) hib).trans q1
      generalize l1[k]!.1 = kd at q0 q0'
      generalize l1[k]!.2 = an at q1 q1'
      clear q0 q1
      obtain ⟨o, ho⟩ := both_any s w0.heap.size a c kd an ha hs
      obtain ⟨ok, oc⟩ : ∃ p : Nat × Int, p = (o.k, o.c) := ⟨_, rfl⟩
      have HOR := Lib.hid ho.read
      have HOF := Lib.hid ho.ref
      have HOL := Lib.hid ho.le
      have HON := Lib.hid ho.len
      clear ho
      have hlr := Blk.lt hr
      have hlk := Blk.lt hkb
      have HRA := Lib.hid (Blk.below hr ((Below.refl _ _).alloc (Nat.le_refl _) (.cells #[.int .i64 kd, .int .i64 an] 45)) hlr)
      have HKA := Lib.hid (Blk.below hkb ((Below.refl _ _).alloc (Nat.le_refl _) (.cells #[.int .i64 kd, .int .i64 an] 45)) hlk)
      have HBA := Lib.hid (hb.alloc hbs (.cells #[.int .i64 kd, .int .i64 an] 45))
      clear hr hkb hb
      go_wp2_with fail
      refine (HOR.out _ (by exact HRA.out)).mono ?_
      rintro e w4 ⟨v, rfl, ⟨b, _, hown⟩, hr4⟩
      have HS4 := Lib.hid hown
      obtain ⟨so, ls, cs, rfl⟩ := own_shape hown
      clear hown
      have hne : w1.heap.size ≠ w0.heap.size := by rw [HS1.out]; omega
      have hwne : wr.heap.size ≠ w0.heap.size := by omega
      have hk4 : Blk w4 w1.heap.size 43 [.string s, .int .i64 a, .int .i64 c] := blk_kept HKA.out hr4.2 hne
      have hx4 : Blk w4 wr.heap.size 45 [.int .i64 kd, .int .i64 an] := blk_kept (Blk.new wr 45 [.int .i64 kd, .int .i64 an]) hr4.2 hwne
      have hz4 : wr.heap.size < w4.heap.size := Blk.lt hx4
      have hzk : w1.heap.size < w4.heap.size := Blk.lt hk4
      have hzk2 : w1.heap.size < w4.heap.size + 1 := by omega
      have hz42 : wr.heap.size < w4.heap.size + 1 := by omega
      obtain ⟨f0, f1, f2, f3, f4, f5⟩ := cells3 hk4
      have x0 : w4.cell? ⟨wr.heap.size, 0, none⟩ = some (.int .i64 kd) := hx4.cell 0
      have x1 : w4.cell? ⟨wr.heap.size, 1, none⟩ = some (.int .i64 an) := hx4.cell 1
      have hb4 : Below w.heap.size w w4 := wireStops.rd_below0 (by exact HBA.out) hr4 hs0
      have HB4 := Lib.hid hb4
      have HR4 := Lib.hid hr4.1
      have HK4 := Lib.hid hk4
      clear hr4 hk4 hx4 hb4 hne hwne
      go_wp2_with fail
      refine (HOF.out _).mono ?_
      rintro e w5 ⟨v2, rfl, ⟨b2, _, hown2⟩, hb5⟩
      have HS5 := Lib.hid hown2
      obtain ⟨so2, ls2, cs2, rfl⟩ := own_shape hown2
      clear hown2
      obtain ⟨W5, hW5⟩ : ∃ W5 : World, W5 = (w4.alloc (.cells #[.int .i64 0, .int .i64 0, .int .i64 o.n, .string o.s, .slice so ls cs] 35)).alloc zero35 := ⟨_, rfl⟩
      have hs5 : W5.heap.size = w4.heap.size + 2 := by rw [hW5]; simp
      have hb45 : Below w4.heap.size w4 W5 := by rw [hW5]; exact ((Below.refl _ _).alloc (Nat.le_refl _) _).alloc (by simp) _
      have hA5 : Blk W5 w4.heap.size 35 [.int .i64 0, .int .i64 0, .int .i64 o.n, .string o.s, .slice so ls cs] := by rw [hW5]; exact (Blk.new w4 35 [_, _, _, _, _]).alloc _
      have hZ5 : Blk W5 (w4.heap.size + 1) 35 zcells := by rw [hW5]; exact blk_at (W := w4.alloc _) (by simp) 35 zcells
      have hb5' : Below W5.heap.size W5 w5 := by rw [hW5]; exact hb5
      have hA := Blk.below hA5 hb5' (by omega)
      have hZ := Blk.below hZ5 hb5' (by omega)
      have hsz5 := hb5'.size
      have hB45 : Below w4.heap.size w4 w5 := hb45.trans (hb5'.mono (by omega))
      have hK := Blk.below HK4.out hB45 (by omega)
      obtain ⟨f0, f1, f2, f3, f4, f5⟩ := cells3 hK
      have z0 : w5.frozen? ⟨w4.heap.size + 1, 0, none⟩ = false := hZ.frozen 0
      have z1 : w5.frozen? ⟨w4.heap.size + 1, 1, none⟩ = false := hZ.frozen 1
      have z2 : w5.frozen? ⟨w4.heap.size + 1, 2, none⟩ = false := hZ.frozen 2
      have z3 : w5.frozen? ⟨w4.heap.size + 1, 3, none⟩ = false := hZ.frozen 3
      have z4 : w5.frozen? ⟨w4.heap.size + 1, 4, none⟩ = false := hZ.frozen 4
      have y0 : w5.cell? ⟨w4.heap.size + 1, 0, none⟩ = some (.int .i64 0) := hZ.cell 0
      have y1 : w5.cell? ⟨w4.heap.size + 1, 1, none⟩ = some (.int .i64 0) := hZ.cell 1
      have y2 : w5.cell? ⟨w4.heap.size + 1, 2, none⟩ = some (.int .i64 0) := hZ.cell 2
      have y3 : w5.cell? ⟨w4.heap.size + 1, 3, none⟩ = some (.string ⟨#[]⟩) := hZ.cell 3
      have y4 : w5.cell? ⟨w4.heap.size + 1, 4, none⟩ = some (.slice none 0 0) := hZ.cell 4
      go_wp2_with fail
      obtain ⟨W6, hW6⟩ : ∃ W6 : World, W6 = ((((((((w5.setCell ⟨w4.heap.size + 1, 0, none⟩ (.int .i64 0)).setCell ⟨w4.heap.size + 1, 1, none⟩ (.int .i64 0)).setCell ⟨w4.heap.size + 1, 2, none⟩ (.int .i64 o.n)).setCell ⟨w4.heap.size + 1, 3, none⟩ (.string o.s)).setCell ⟨w4.heap.size + 1, 4, none⟩ (.slice so2 ls2 cs2)).setCell ⟨w1.heap.size, 0, none⟩ (.string s)).setCell ⟨w1.heap.size, 1, none⟩ (.int .i64 (o.k : Nat))).setCell ⟨w1.heap.size, 2, none⟩ (.int .i64 o.c)) := ⟨_, rfl⟩
      have hK6 : Blk W6 w1.heap.size 43 [.string s, .int .i64 (o.k : Nat), .int .i64 o.c] := by rw [hW6]; exact ((((((((hK.far (p := ⟨w4.heap.size + 1, 0, none⟩) (by simp; omega) _).far (p := ⟨w4.heap.size + 1, 1, none⟩) (by simp; omega) _).far (p := ⟨w4.heap.size + 1, 2, none⟩) (by simp; omega) _).far (p := ⟨w4.heap.size + 1, 3, none⟩) (by simp; omega) _).far (p := ⟨w4.heap.size + 1, 4, none⟩) (by simp; omega) _).set_ 0 _).set_ 1 _).set_ 2 _)
      have hA6 : Blk W6 w4.heap.size 35 [.int .i64 0, .int .i64 0, .int .i64 o.n, .string o.s, .slice so ls cs] := by rw [hW6]; exact ((((((((hA.far (p := ⟨w4.heap.size + 1, 0, none⟩) (by simp) _).far (p := ⟨w4.heap.size + 1, 1, none⟩) (by simp) _).far (p := ⟨w4.heap.size + 1, 2, none⟩) (by simp) _).far (p := ⟨w4.heap.size + 1, 3, none⟩) (by simp) _).far (p := ⟨w4.heap.size + 1, 4, none⟩) (by simp) _).far (p := ⟨w1.heap.size, 0, none⟩) (by simp; omega) _).far (p := ⟨w1.heap.size, 1, none⟩) (by simp; omega) _).far (p := ⟨w1.heap.size, 2, none⟩) (by simp; omega) _)
      have hZ6 : Blk W6 (w4.heap.size + 1) 35 [.int .i64 0, .int .i64 0, .int .i64 o.n, .string o.s, .slice so2 ls2 cs2] := by rw [hW6]; exact ((((((((hZ.set_ 0 _).set_ 1 _).set_ 2 _).set_ 3 _).set_ 4 _).far (p := ⟨w1.heap.size, 0, none⟩) (by simp; omega) _).far (p := ⟨w1.heap.size, 1, none⟩) (by simp; omega) _).far (p := ⟨w1.heap.size, 2, none⟩) (by simp; omega) _)
      have hsz6 : W6.heap.size = w5.heap.size := by rw [hW6]; simp [World.setCell]
      have hlr : w0.heap.size < w4.heap.size := Blk.lt HR4.out
      have hne : w0.heap.size ≠ w1.heap.size := by rw [HS1.out]; omega
      have hw1 : w.heap.size ≤ w1.heap.size := by rw [HS1.out]; omega
      have hR5 : Blk w5 w0.heap.size 76 [.string s, .int .i64 o.k, .int .i64 o.c] := Blk.below HR4.out hB45 hlr
      have hown4 := own_below HS4.out hB45
      have n1 := own_ne hown4 hZ (by decide)
      have n2 := own_ne hown4 hK (by decide)
      have n3 := own_ne HS5.out hZ (by decide)
      have n4 := own_ne HS5.out hK (by decide)
      have hb4s := HB4.out.size
      have hb5w : Below w.heap.size w w5 := HB4.out.trans (hB45.mono hb4s)
      have HO1 := Lib.hid (own_boo (show W6.ownsRow _ 4 1 (.slice so ls cs) o.l.length (bools o.l) by rw [hW6]; exact (own_set (own_set (own_set (own_set (own_set (own_set (own_set (own_set hown4 (p := ⟨w4.heap.size + 1, 0, none⟩) n1 _) (p := ⟨w4.heap.size + 1, 1, none⟩) n1 _) (p := ⟨w4.heap.size + 1, 2, none⟩) n1 _) (p := ⟨w4.heap.size + 1, 3, none⟩) n1 _) (p := ⟨w4.heap.size + 1, 4, none⟩) n1 _) (p := ⟨w1.heap.size, 0, none⟩) n2 _) (p := ⟨w1.heap.size, 1, none⟩) n2 _) (p := ⟨w1.heap.size, 2, none⟩) n2 _)))
      have HO2 := Lib.hid (own_boo (show W6.ownsRow _ 4 1 (.slice so2 ls2 cs2) o.l.length (bools o.l) by rw [hW6]; exact (own_set (own_set (own_set (own_set (own_set (own_set (own_set (own_set HS5.out (p := ⟨w4.heap.size + 1, 0, none⟩) n3 _) (p := ⟨w4.heap.size + 1, 1, none⟩) n3 _) (p := ⟨w4.heap.size + 1, 2, none⟩) n3 _) (p := ⟨w4.heap.size + 1, 3, none⟩) n3 _) (p := ⟨w4.heap.size + 1, 4, none⟩) n3 _) (p := ⟨w1.heap.size, 0, none⟩) n4 _) (p := ⟨w1.heap.size, 1, none⟩) n4 _) (p := ⟨w1.heap.size, 2, none⟩) n4 _)))
      have HR6 := Lib.hid (show RdAt W6 w0.heap.size s o.k o.c by rw [hW6]; exact ((((((((hR5.far (p := ⟨w4.heap.size + 1, 0, none⟩) (by simp; omega) _).far (p := ⟨w4.heap.size + 1, 1, none⟩) (by simp; omega) _).far (p := ⟨w4.heap.size + 1, 2, none⟩) (by simp; omega) _).far (p := ⟨w4.heap.size + 1, 3, none⟩) (by simp; omega) _).far (p := ⟨w4.heap.size + 1, 4, none⟩) (by simp; omega) _).far (p := ⟨w1.heap.size, 0, none⟩) (by simp; omega) _).far (p := ⟨w1.heap.size, 1, none⟩) (by simp; omega) _).far (p := ⟨w1.heap.size, 2, none⟩) (by simp; omega) _))
      have HB6 := Lib.hid (show Below w.heap.size w W6 by rw [hW6]; exact ((((((((hb5w.setCell (by simp; omega) _).setCell (by simp; omega) _).setCell (by simp; omega) _).setCell (by simp; omega) _).setCell (by simp; omega) _).setCell (by simp; omega) _).setCell (by simp; omega) _).setCell (by simp; omega) _))
      have HK6 := Lib.hid hK6
      rw [← hW6]
      obtain ⟨f0, f1, f2, f3, f4, f5⟩ := cells3 hK6
      have u0 : W6.cell? ⟨w4.heap.size, 0, none⟩ = some (.int .i64 0) := hA6.cell 0
      have u1 : W6.cell? ⟨w4.heap.size, 1, none⟩ = some (.int .i64 0) := hA6.cell 1
      have u2 : W6.cell? ⟨w4.heap.size, 2, none⟩ = some (.int .i64 o.n) := hA6.cell 2
      have u3 : W6.cell? ⟨w4.heap.size, 3, none⟩ = some (.string o.s) := hA6.cell 3
      have u4 : W6.cell? ⟨w4.heap.size, 4, none⟩ = some (.slice so ls cs) := hA6.cell 4
      have v0 : W6.cell? ⟨w4.heap.size + 1, 0, none⟩ = some (.int .i64 0) := hZ6.cell 0
      have v1 : W6.cell? ⟨w4.heap.size + 1, 1, none⟩ = some (.int .i64 0) := hZ6.cell 1
      have v2 : W6.cell? ⟨w4.heap.size + 1, 2, none⟩ = some (.int .i64 o.n) := hZ6.cell 2
      have v3 : W6.cell? ⟨w4.heap.size + 1, 3, none⟩ = some (.string o.s) := hZ6.cell 3
      have v4 : W6.cell? ⟨w4.heap.size + 1, 4, none⟩ = some (.slice so2 ls2 cs2) := hZ6.cell 4
      have l0 := Blk.lt hA6
      have l1' := Blk.lt hZ6
      have l2 := Blk.lt hK6
      have l3 := Blk.lt HR6.out
      clear hW6 hA6 hZ6 hK6 hsz6 n1 n2 n3 n4 hown4 hR5 hne hw1 hb5w hb4s hb5 hb5' hA hZ hA5 hZ5 hW5 hb45 hs5 hsz5 hB45 hK z0 z1 z2 z3 z4 y0 y1 y2 y3 y4 x0 x1 hlr
      have hwr := (IntWalk.i64_in ((s.size : Int) - (o.k : Nat)) (by have := HOL.out; omega))
      go_region_held3 (fun w' => w'.cell? ⟨w1.heap.size, 1, none⟩ = some (.int .i64 (o.k : Nat)) ∧ w'.cell? ⟨w1.heap.size, 2, none⟩ = some (.int .i64 o.c) ∧ w'.cell? ⟨w4.heap.size, 0, none⟩ = some (.int .i64 0) ∧ w'.cell? ⟨w4.heap.size, 1, none⟩ = some (.int .i64 0) ∧ w'.cell? ⟨w4.heap.size, 2, none⟩ = some (.int .i64 o.n) ∧ w'.cell? ⟨w4.heap.size, 3, none⟩ = some (.string o.s) ∧ w'.cell? ⟨w4.heap.size, 4, none⟩ = some (.slice so ls cs) ∧ w'.cell? ⟨w4.heap.size + 1, 0, none⟩ = some (.int .i64 0) ∧ w'.cell? ⟨w4.heap.size + 1, 1, none⟩ = some (.int .i64 0) ∧ w'.cell? ⟨w4.heap.size + 1, 2, none⟩ = some (.int .i64 o.n) ∧ w'.cell? ⟨w4.heap.size + 1, 3, none⟩ = some (.string o.s) ∧ w'.cell? ⟨w4.heap.size + 1, 4, none⟩ = some (.slice so2 ls2 cs2)) (go_keep)
        (first
          | (go_at_call 23; refine (same_any 0 0 0 0 o.n o.s HON.out ?_ ?_).mono ?_; exact HO1.out; exact HO2.out; rintro e w7 ⟨rfl, hb7'⟩; have hb7 := undrew hb7'; obtain ⟨hc7, hf7⟩ := bcell hb7; have HB7 := Lib.hid hb7; have HR7 := Lib.hid (Blk.below HR6.out hb7 l3); clear hb7 hb7')
          | (go_at_call 24; refine (At_any _ s o.k o.c _ ?_).mono ?_; exact HR7.out; rintro e w8 ⟨rfl, rfl⟩)
          | (go_at_call 25; refine (Left_q _ s o.k o.c _ ?_ HOL.out hs).mono ?_; exact HR7.out; rintro e w8 ⟨rfl, n8, rfl⟩)
          | (go_at_call 26; refine (Err_any _ s o.k o.c _ ?_).mono ?_; exact HR7.out; rintro e w9 ⟨rfl, rfl⟩))
      go_wp2
      go_roundw
      case rel => exact ⟨k + 1, by omega, by go_num, o.k, o.c, HR7.out, (show Blk w7 _ _ _ from Blk.below HK6.out HB7.out l2), HOL.out, below_drewN (HB6.out.trans (HB7.out.mono HB6.out.size)) _⟩
      case measure => simp [intOf]; omega
    · have hlr := Blk.lt hr
      have hne : w0.heap.size ≠ w1.heap.size := by rw [HS1.out]; omega
      have hw1 : w.heap.size ≤ w1.heap.size := by rw [HS1.out]; omega
      have hlk := Blk.lt hkb
      obtain ⟨f0, f1, f2, f3, f4, f5⟩ := cells3 hkb
      go_wp2_with fail
      refine (rEnd_any s a c _).mono ?_
      rintro e w5 ⟨rfl, hb5⟩
      obtain ⟨EC, hEC⟩ : ∃ EC : Int, EC = (if c = 0 then (if a < s.size then 2 else 0) else c) := ⟨_, rfl⟩
      rw [← hEC]
      have HEC := Lib.hid hEC
      clear hEC
      have hK := Blk.below hkb hb5 hlk
      obtain ⟨g0, g1, g2, g3, g4, g5⟩ := cells3 hK
      go_wp2_with fail
      obtain ⟨W6, hW6⟩ : ∃ W6 : World, W6 = ((w5.setCell ⟨w1.heap.size, 0, none⟩ (.string s)).setCell ⟨w1.heap.size, 1, none⟩ (.int .i64 a)).setCell ⟨w1.heap.size, 2, none⟩ (.int .i64 EC) := ⟨_, rfl⟩
      have hK6 : Blk W6 w1.heap.size 43 [.string s, .int .i64 a, .int .i64 EC] := by rw [hW6]; exact (((hK.set_ 0 _).set_ 1 _).set_ 2 _)
      have hR6 : RdAt W6 w0.heap.size s a c := by rw [hW6]; exact ((((Blk.below hr hb5 hlr).far (p := ⟨w1.heap.size, 0, none⟩) hne _).far (p := ⟨w1.heap.size, 1, none⟩) hne _).far (p := ⟨w1.heap.size, 2, none⟩) hne _)
      have hB6 : Below w.heap.size w W6 := by rw [hW6]; exact ((((hb.trans (hb5.mono hbs)).setCell hw1 _).setCell hw1 _).setCell hw1 _)
      have HB6 := Lib.hid hB6
      have HR6 := Lib.hid hR6
      have HK6 := Lib.hid hK6
      obtain ⟨k0, k1, k2, k3, k4, k5⟩ := cells3 hK6
      have hlr6 := Blk.lt hR6
      rw [← hW6]
      clear hW6 hK6 hR6 hB6 hb hb5 hkb hr hK f0 f1 f2 f3 f4 f5 g0 g1 g2 g3 g4 g5
      go_region_held3 (fun w' => w'.cell? ⟨w1.heap.size, 2, none⟩ = some (.int .i64 EC)) (go_keep)
        (first
          | (go_at_call 28; refine (End_any _ s a c EC _ ?_ ha hs HEC.out).mono ?_; exact HR6.out; rintro e w7 ⟨rfl, hr7'⟩; have hr7 := rd_undrew hr7'; have hc7 : w7.cell? ⟨w1.heap.size, 2, none⟩ = some (.int .i64 EC) := (blk_kept HK6.out hr7.2 hne.symm).cell 2; have HR7 := Lib.hid hr7; clear hr7 hr7')
          | (go_at_call 26; refine (Err_any _ s a EC _ ?_).mono ?_; exact HR7.out.1; rintro e w9 ⟨rfl, rfl⟩))
      go_wp2
      go_ret
      exact ⟨rfl, wireStops.rd_below0 HB6.out HR7.out hs0⟩
open Go.ChangeShapes Go.WideShapes Go.ChangeAt Go.Deep
set_option maxRecDepth 100000 in
theorem lifted (os : Os) (started : os.Started) (H : Type) (enc : TypeId × Value → H) :
    ReturnsInHanded {} Try.checked os 5 .any (Rows.wireReadsSpec.pre6 enc Try.prog Try.f5 Rows.wireReadsRow.domain false) (Rows.wireReadsSpec.post enc Try.prog Try.f5 false true false false) := by
  refine returnsInHanded_of_change_sized (C := Try.checked) Try.own started (by kernel_rfl) Try.func5
    (ChangeSpec.witness6 (enc := enc) (C := Try.checked) false ⟨#[], #[.string ⟨#[]⟩, .slice none 0 0], []⟩ 8 (by kernel_rfl) (by kernel_rfl) (by kernel_rfl) (by kernel_rfl)) ?_
  intro W base args ds gs before hval0 hW _ hsz0 _
  have hval : ∀ (j : Nat) t v, Try.f5.params[j]? = some t → args[j]? = some v → Value.okWide Try.prog W .any base t v := hval0
  have hW' := hW
  obtain ⟨p, q, hA0, hV, rfl, _, _⟩ := hW
  have hA : DataW.TrodAll enc Try.prog W 0 (fun _ => true) true Try.f5.params.toList args.toList ds p := hA0
  have hsz : (DataW.weightsEach Try.prog (Try.f5.params.toList ++ Rows.wireReadsSpec.plain.varTypes Try.prog) (ds ++ gs)).all (· ≤ reachBytes) = true := hsz0
  rw [Try.params5] at hA hval hsz
  obtain ⟨v0, vs0, d0, ds0, p0, q0, hargs, rfl, rfl, h0, r0⟩ := trodAll_cons hA
  obtain ⟨v1, vs1, d1, ds1, p1, q1, rfl, rfl, rfl, h1, r1⟩ := trodAll_cons r0
  obtain ⟨rfl, rfl, rfl⟩ := trodAll_nil r1
  obtain rfl : args = #[v0, v1] := by cases args; simp_all
  have hwt : ∀ (j : Nat) (t : TypeId) (d : DataW H), [9, 39][j]? = some t → [d0, d1][j]? = some d → ∀ m ∈ d.weights Try.prog t, m ≤ reachBytes := by
    intro j t d ht hd m hm
    have hj : j < 2 := (List.getElem?_eq_some_iff.1 ht).1
    have := List.all_eq_true.1 hsz m (DataW.weights_mem_each (j := j) (t := t) (d := d) (by rcases j with _ | _ | j <;> first | exact ht | omega) (by rcases j with _ | _ | j <;> first | exact hd | omega) m hm)
    simpa using this
  obtain ⟨s, rfl⟩ := okWide_string Try.underlying9 (hval 0 9 v0 rfl rfl)
  obtain ⟨fu, hfu⟩ := h0
  obtain ⟨s', hs1, hs2, _⟩ := DataW.trod_string Try.underlying9 hfu
  obtain rfl : s = s' := by simpa [Value.cells] using hs1
  have hd0 : d0 = .lit (.string s.data.toList) := congrArg Prod.fst hs2
  obtain ⟨so1, l1, cs1, rfl, a1, a2, a3⟩ := wireStops.open_asks (hval 1 39 v1 rfl rfl) h1 (hwt 1 39 d1 rfl rfl)
  have hs : s.size ≤ 140737488351232 := by
    have := hwt 0 9 d0 rfl rfl s.size (by rw [hd0]; simp [DataW.weights])
    rw [reach_is] at this
    exact this
  clear hA0 hval0 hsz0
  refine (walk s so1 cs1 l1 W hs a1 a2 a3).mono fun e W' ⟨he, hb⟩ => ?_
  subst he
  exact ⟨_, rfl, post_law Try.laidOut rfl rfl Try.underlying4 rfl (by intro t ht; rw [Try.params5] at ht; simp at ht; rcases ht with rfl | rfl <;> exact ⟨by kernel_rfl, of_decide_eq_true (by kernel_rfl)⟩) hW' hb⟩

theorem over : Rows.wireReadsRow.holds Try.pinned (OpenSpec.ofChange Rows.wireReadsSpec) :=
  OpenClaim.holds_of_wide 5 Try.f5 rfl rfl rfl rfl rfl rfl rfl ⟨rfl, rfl, rfl, rfl, rfl⟩ rfl rfl rfl rfl rfl (by kernel_rfl) Try.func5 (by kernel_rfl)
    (of_decide_eq_true (by kernel_rfl)) (by unfold Func.isWrapper; first | (rw [if_pos (by decide +kernel)]; kernel_rfl) | (rw [if_neg (by decide +kernel)]; exact ⟨rfl, rfl⟩))
    (fun os started H enc _ => lifted os started H enc)

/-- THE STATEMENT. -/
theorem proved : Rows.WireReadsSaid := over
#print axioms proved
end wireReads
end Go.Proofs.Yteendimoopmakaa
