/- The examples of the chapter hold: awake returns true. No condition. -/
import Derived.Test.YteendimoopmakaaT9
import Derived.Test.YteendimoopmakaaT6
namespace Go.Proofs.Yteendimoopmakaa
open Go.RowKit

theorem wr_new0 (w : World) : WrAt (w.alloc (.cells #[.slice none 0 0] 64)) w.heap.size w.heap.size (.slice none 0 0) [] :=
  ⟨Blk.new w 64 [.slice none 0 0], World.ownsRow_nil _ _ _ _⟩
/-- A writer that was made since B: its calls turn nothing below B. -/
theorem Fr.toBelow {w w' : World} {b B : Nat} {r : Option Nat} (h : Fr w w' b r) (hB : B ≤ w.heap.size) (hb : B ≤ b) (hr : ∀ k, r = some k → B ≤ k) : Below B w w' :=
  ⟨h.os, h.tape, h.output, h.size, fun k hk => h.block k (by omega) (by omega) (fun e => by have := hr k e.symm; omega)⟩
theorem WrAt.ownB {w : World} {base b : Nat} {v : Value} {bs : List UInt8} (h : WrAt w base b v bs) : ∀ k, v.ownBlock = some k → base ≤ k := fun k e => (h.2.lt k e).1

def awakeText : List UInt8 := [191, 191, 3, 160, 254, 255]
theorem awake_bytes : (([] ++ numB (-65)) ++ bitB [true, false, true]) ++ litB (-2) 2 = awakeText := by decide
theorem awake_read : rdNumber ⟨#[128, 63]⟩ 0 = (0, 2, 0) := by decide +kernel

set_option maxRecDepth 100000 in
set_option maxHeartbeats 1600000 in
theorem awake_any (w : World) : Calls Try.prog 10 #[] w fun e w' => e = .returned (.bool true) ∧ Below w.heap.size w w' := by
  have hsE : sgnE (-2) 2 = 0 := by decide
  have HsE := Lib.hid hsE
  have HT := Lib.hid awake_bytes
  have HR := Lib.hid awake_read
  clear hsE
  go_enter Try.func10, Try.ntmps10
  go_wp2_with fail
  refine (newWriter_any _).mono ?_
  rintro e w1 ⟨rfl, hw1⟩
  have hsz1 : w1.heap.size = w.heap.size + 1 := by rw [← hw1]; simp
  have hW1 := wr_new0 w
  rw [hw1] at hW1
  have hb1 : Below w.heap.size w w1 := by rw [← hw1]; exact (Below.refl _ _).alloc (Nat.le_refl _) _
  clear hw1
  go_wp2_with fail
  refine (Number_any (-65) w.heap.size w.heap.size _ _ _ (by omega) (by omega) (by simp) hW1 (by omega)).mono ?_
  rintro e w2 ⟨rfl, v2, hW2, hF2, hA2⟩
  have hb2 : Below w.heap.size w w2 := hb1.trans (hF2.toBelow (by omega) (Nat.le_refl _) hW1.ownB)
  have hsz2 := hb2.size
  have hsz2' := hF2.size
  clear hF2 hA2 hW1 hb1
  go_wp2_with fail
  have hLb : Blk (w2.alloc (.cells #[.bool true, .bool false, .bool true] 4)) w2.heap.size 4 [.bool true, .bool false, .bool true] := Blk.new w2 4 [.bool true, .bool false, .bool true]
  have hb2a : Below w2.heap.size w2 (w2.alloc (.cells #[.bool true, .bool false, .bool true] 4)) := (Below.refl _ _).alloc (Nat.le_refl _) _
  refine (Bits_any w.heap.size w.heap.size v2 _ w2.heap.size 0 3 [true, false, true] _ (by rw [List.nil_append, numB_length]; decide) (hW2.below hb2a) (by simp; omega) (by decide) (by decide) (by omega) (by simp) (by omega) (fun e => by have := (hW2.2.lt _ e).2; omega)
    (fun j hj => by rw [Nat.zero_add, hLb.cell j]; rcases (show j = 0 ∨ j = 1 ∨ j = 2 by simp at hj; omega) with rfl | rfl | rfl <;> rfl)).mono ?_
  rintro e w3 ⟨rfl, v3, hW3, hF3, hA3⟩
  have hb3 : Below w.heap.size w w3 := (hb2.trans (hb2a.mono hsz2)).trans (hF3.toBelow (by simp; omega) (Nat.le_refl _) hW2.ownB)
  have hsz3 := hb3.size
  clear hF3 hA3 hW2 hLb hb2a hb2 hsz2 hsz2' hsz1
  go_wp2_with fail
  refine (Signed_any (-2) 2 w.heap.size w.heap.size v3 _ _ (by omega) (by omega) (by rw [List.length_append, List.nil_append, numB_length]; decide) hW3 hsz3).mono ?_
  rintro e w4 ⟨he, v4, hW4, hF4, hA4⟩
  rw [HsE.out] at he hW4
  subst he
  have hb4 : Below w.heap.size w w4 := hb3.trans (hF4.toBelow hsz3 (Nat.le_refl _) hW3.ownB)
  have hsz4 := hb4.size
  have hlt4 := hW4.1.lt
  rw [if_pos rfl, show Int.toNat 2 = 2 from rfl, HT.out] at hW4
  clear hF4 hA4 hW3 hb3 hsz3
  go_wp2_with fail
  refine (newReader_any _ _).mono ?_
  rintro e w5 ⟨rfl, hw5⟩
  have hR5 := rd_new ⟨#[128, 63]⟩ w4
  rw [hw5] at hR5
  have hb45 : Below w4.heap.size w4 w5 := by rw [← hw5]; exact (Below.refl _ _).alloc (Nat.le_refl _) _
  have hW5 := hW4.below hb45
  clear hw5 hW4
  go_wp2_with fail
  refine (Number_live w4.heap.size ⟨#[128, 63]⟩ 0 w5 hR5 (by decide) (by decide)).mono ?_
  rintro e w6 ⟨he, hR6, hg6⟩
  rw [HR.out] at he
  subst he
  have hne : some w.heap.size ≠ some w4.heap.size := fun e => by injection e with e; omega
  have hW6 : WrAt w6 w.heap.size w.heap.size v4 awakeText := ⟨hW5.1.grown hg6 hne, hW5.2.kept hg6 (.inr (own_ne hW5.2 hR5 (by decide)))⟩
  have hb5 := hb4.trans (hb45.mono hsz4)
  have hb6 : Below w.heap.size w w6 := hb5.grown hg6 hb5.size (fun k e => by injection e with e; omega)
  unfold awakeText at hW6
  clear hg6 hW5 hR6 hR5
  go_wp2_with fail
  refine (text_any w.heap.size w.heap.size v4 _ w6 hW6).mono ?_
  rintro e w7 ⟨rfl, rfl⟩
  go_wp2
  go_ret
  exact ⟨rfl, hb6⟩
end Go.Proofs.Yteendimoopmakaa
