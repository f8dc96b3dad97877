/- Few of a list of items: at most 30, none with more than 3000 bytes or bools. For every list of items that can be read. -/
import Derived.Test.YteendimoopmakaaT15
namespace Go.Proofs.Yteendimoopmakaa
open Go.RowKit

def big (x : It) : Bool := decide (3000 < x.s.size) || decide (3000 < x.L.length)
theorem big_false {x : It} (h : big x = false) : x.small := by
  unfold big at h; simp at h; exact ⟨by omega, by omega⟩
theorem ok_len {w : World} {B : Nat} {x : It} (h : x.ok w B) : ∃ so cs, x.sl = .slice so x.L.length cs := by
  rcases h.2 with ⟨⟨ao, cp, h1⟩, h2⟩ | ⟨bb, off, cap, h1, _⟩
  · exact ⟨ao, cp, by rw [h1, h2]; rfl⟩
  · exact ⟨_, _, h1⟩

set_option maxHeartbeats 800000 in
theorem few1_any (x : It) (B : Nat) (w : World) (hx : x.ok w B) : Calls Try.prog 35 #[x.val] w fun e w' => e = .returned (.bool (big x)) ∧ Below w.heap.size w w' := by
  obtain ⟨so, cs, hsl⟩ := ok_len hx
  obtain ⟨kind, size, n, s, sl, L⟩ := x
  dsimp only at hsl
  subst hsl
  unfold It.val big
  dsimp only
  clear hx
  have hb0 : Below w.heap.size w (w.alloc (.cells #[.int .i64 kind, .int .i64 size, .int .i64 n, .string s, .slice so L.length cs] 35)) := (Below.refl _ _).alloc (Nat.le_refl _) _
  by_cases h1 : 3000 < s.size
  · have e1 : decide (3000 < s.size) = true := decide_eq_true h1
    have e1' : decide ((3000 : Int) < (s.size : Int)) = true := by rw [decide_eq_true_iff]; omega
    rw [e1, Bool.true_or]
    clear h1 e1
    go_enter Try.func35, Try.ntmps35
    go_wp2
    go_ret
    exact ⟨rfl, hb0⟩
  · have e1 : decide (3000 < s.size) = false := decide_eq_false h1
    have e1' : decide ((3000 : Int) < (s.size : Int)) = false := by rw [decide_eq_false_iff_not]; omega
    rw [e1, Bool.false_or]
    clear h1 e1
    by_cases h2 : 3000 < L.length
    · rw [decide_eq_true h2]
      have e2' : decide ((3000 : Int) < (L.length : Int)) = true := by rw [decide_eq_true_iff]; omega
      clear h2
      go_enter Try.func35, Try.ntmps35
      go_wp2
      go_ret
      exact ⟨rfl, hb0⟩
    · rw [decide_eq_false h2]
      have e2' : decide ((3000 : Int) < (L.length : Int)) = false := by rw [decide_eq_false_iff_not]; omega
      clear h2
      go_enter Try.func35, Try.ntmps35
      go_wp2
      go_ret
      exact ⟨rfl, hb0⟩

/-- the five cells of an item -/
def ItemAt (w : World) (ib o : Nat) (x : It) : Prop :=
  w.cell? ⟨ib, o, none⟩ = some (.int .i64 x.kind) ∧ w.cell? ⟨ib, o + 1, none⟩ = some (.int .i64 x.size) ∧ w.cell? ⟨ib, o + 2, none⟩ = some (.int .i64 x.n) ∧ w.cell? ⟨ib, o + 3, none⟩ = some (.string x.s) ∧ w.cell? ⟨ib, o + 4, none⟩ = some x.sl
theorem ItemAt.below {w w' : World} {ib o B : Nat} {x : It} (h : ItemAt w ib o x) (hb : Below B w w') (hi : ib < B) : ItemAt w' ib o x := by
  obtain ⟨h0, h1, h2, h3, h4⟩ := h
  exact ⟨(hb.cell (p := ⟨ib, o, none⟩) hi).trans h0, (hb.cell (p := ⟨ib, o + 1, none⟩) hi).trans h1, (hb.cell (p := ⟨ib, o + 2, none⟩) hi).trans h2, (hb.cell (p := ⟨ib, o + 3, none⟩) hi).trans h3, (hb.cell (p := ⟨ib, o + 4, none⟩) hi).trans h4⟩
def FewPost (l : List It) (w : World) (e : Ending) (w' : World) : Prop := ∃ r : Int, -1 ≤ r ∧ e = .returned (.int .i64 r) ∧ (0 ≤ r ↔ l.any big = true) ∧ Below w.heap.size w w'
instance : Inhabited It := ⟨⟨0, 0, 0, ⟨#[]⟩, .slice none 0 0, []⟩⟩

set_option maxHeartbeats 1600000 in
theorem indexFunc_any (ib io cap : Nat) (l : List It) (B : Nat) (w : World) (hB : B ≤ w.heap.size) (hib : ib < B) (hl : l.length ≤ 1000) (hc : ∀ i, i < l.length → ItemAt w ib (io + i * 5) l[i]! ∧ (l[i]!).ok w B) :
    Calls Try.prog 68 #[.slice (some ⟨ib, io, none⟩) l.length cap, .func (.func 35) #[] #[]] w (FewPost l w) := by
  have HC := Lib.hid hc
  clear hc
  go_enter Try.func68, Try.ntmps68
  go_wp2
  go_loopw [5, 8] (fun _ i wr => ∃ k : Nat, k ≤ l.length ∧ i = .int .i64 k ∧ (∀ j, j < k → big l[j]! = false) ∧ Below w.heap.size w wr) (fun _ i _ => l.length - (intOf i).toNat)
  case atStart => exact ⟨0, by omega, rfl, by omega, Below.refl _ _⟩
  case round =>
    obtain ⟨k, hk, rfl, hno, hb⟩ := hrel
    have HN := Lib.hid hno
    clear hno
    by_cases hlt : k < l.length
    · obtain ⟨hci, hok⟩ := HC.out k hlt
      have hci' := hci.below (hb.mono hB) hib
      have hok' := hok.below (hb.mono hB)
      obtain ⟨c0, c1, c2, c3, c4⟩ := hci'
      obtain ⟨x, hx⟩ : ∃ x, x = l[k]! := ⟨_, rfl⟩
      rw [← hx] at c0 c1 c2 c3 c4 hok'
      have HX := Lib.hid hx
      have HOK := Lib.hid hok'
      clear hci hok hx hok'
      have HF := few1_any x B wr HOK.out
      unfold It.val at HF
      cases hbg : big x
      · rw [hbg] at HF
        have HF' := Lib.hid HF
        have HBG := Lib.hid hbg
        clear HF hbg
        go_wp2_with (go_at_call 35; refine HF'.out.mono ?_; rintro e w2 ⟨rfl, hb2⟩)
        go_roundw
        case rel =>
          refine ⟨k + 1, by omega, by go_num, fun j hj => ?_, hb.trans (hb2.mono hb.size)⟩
          rcases (show j < k ∨ j = k by omega) with h | rfl
          · exact HN.out j h
          · rw [← HX.out]; exact HBG.out
        case measure => simp [intOf]; omega
      · rw [hbg] at HF
        have HF' := Lib.hid HF
        have HBG := Lib.hid hbg
        clear HF hbg
        go_wp2_with (go_at_call 35; refine HF'.out.mono ?_; rintro e w2 ⟨rfl, hb2⟩)
        go_ret
        refine ⟨k, by omega, rfl, ⟨fun _ => ?_, fun _ => by omega⟩, hb.trans (hb2.mono hb.size)⟩
        rw [List.any_eq_true]
        refine ⟨x, ?_, HBG.out⟩
        rw [HX.out, getElem!_pos l k hlt]
        exact List.getElem_mem _
    · obtain rfl : k = l.length := by omega
      go_wp2
      go_ret
      refine ⟨-1, by omega, rfl, ⟨fun h => by omega, fun h => ?_⟩, hb⟩
      obtain ⟨x, hx, hbx⟩ := List.any_eq_true.1 h
      obtain ⟨j, hj, rfl⟩ := List.getElem_of_mem hx
      have := HN.out j hj
      rw [getElem!_pos l j hj] at this
      rw [this] at hbx; cases hbx
set_option maxHeartbeats 800000 in
theorem indexFunc_none (ao : Option Addr) (cp : Nat) (w : World) : Calls Try.prog 68 #[.slice ao 0 cp, .func (.func 35) #[] #[]] w (FewPost [] w) := by
  go_enter Try.func68, Try.ntmps68
  go_wp2
  go_loopw [5, 8] (fun _ i wr => i = .int .i64 0 ∧ w = wr) (fun _ _ _ => 0)
  case atStart => exact ⟨rfl, rfl⟩
  case round =>
    obtain ⟨rfl, rfl⟩ := hrel
    go_wp2
    go_ret
    exact ⟨-1, by omega, rfl, ⟨fun h => by omega, fun h => by simp at h⟩, Below.refl _ _⟩

/-- A slice of items that is read: empty, or with its cells below block B. -/
def Items (w : World) (B : Nat) (sl : Value) (l : List It) : Prop :=
  ((∃ ao cp, sl = .slice ao 0 cp) ∧ l = []) ∨ ∃ ib io cap, sl = .slice (some ⟨ib, io, none⟩) l.length cap ∧ ib < B ∧ l.length ≤ cap ∧ cap ≤ 140737488351232 ∧ ∀ i, i < l.length → ItemAt w ib (io + i * 5) l[i]! ∧ (l[i]!).ok w B
theorem Items.below {w w' : World} {B : Nat} {sl : Value} {l : List It} (h : Items w B sl l) (hb : Below B w w') : Items w' B sl l := by
  rcases h with h | ⟨ib, io, cap, h1, h2, h3, h4, h5⟩
  · exact .inl h
  · exact .inr ⟨ib, io, cap, h1, h2, h3, h4, fun i hi => ⟨(h5 i hi).1.below hb h2, (h5 i hi).2.below hb⟩⟩

theorem containsFunc_any {sl : Value} {l : List It} {B : Nat} {w : World} (h : Items w B sl l) (hB : B ≤ w.heap.size) (hl : l.length ≤ 1000) :
    Calls Try.prog 34 #[sl, .func (.func 35) #[] #[]] w fun e w' => e = .returned (.bool (l.any big)) ∧ Below w.heap.size w w' := by
  have HF : Calls Try.prog 68 #[sl, .func (.func 35) #[] #[]] w (FewPost l w) := by
    rcases h with ⟨⟨ao, cp, rfl⟩, rfl⟩ | ⟨ib, io, cap, rfl, h2, h3, h4, h5⟩
    · exact indexFunc_none ao cp w
    · exact indexFunc_any ib io cap l B w hB h2 hl h5
  have HF' := Lib.hid HF
  clear HF h hB hl
  cases hs : l.any big
  all_goals
    have HS := Lib.hid hs
    clear hs
    go_enter Try.func34, Try.ntmps34
    go_wp2_with (go_at_call 68; refine HF'.out.mono ?_; rintro e w' ⟨r, hr1, rfl, hr, hb⟩; rw [HS.out] at hr; have hr0 := hr; clear hr)
    go_ret
    exact ⟨by simp, hb⟩
def few (l : List It) : Bool := decide (l.length ≤ 30) && !l.any big
theorem few_true {l : List It} (h : few l = true) : l.length ≤ 30 ∧ ∀ i, i < l.length → (l[i]!).small := by
  unfold few at h
  simp only [Bool.and_eq_true, decide_eq_true_eq, Bool.not_eq_true', List.any_eq_false] at h
  refine ⟨h.1, fun i hi => ?_⟩
  rw [getElem!_pos l i hi]
  exact big_false (by simpa using h.2 _ (List.getElem_mem hi))
theorem few_any {sl : Value} {l : List It} {B : Nat} {w : World} (h : Items w B sl l) (hB : B ≤ w.heap.size) :
    Calls Try.prog 16 #[sl] w fun e w' => e = .returned (.bool (few l)) ∧ Below w.heap.size w w' := by
  have hsl : ∃ so cs, sl = .slice so l.length cs := by
    rcases h with ⟨⟨ao, cp, h1⟩, h2⟩ | ⟨ib, io, cap, h1, _⟩
    · exact ⟨ao, cp, by rw [h1, h2]; rfl⟩
    · exact ⟨_, _, h1⟩
  obtain ⟨so, cs, rfl⟩ := hsl
  by_cases hl : l.length ≤ 30
  · have HF := containsFunc_any h hB (by omega)
    have HF' := Lib.hid HF
    unfold few
    rw [decide_eq_true hl, Bool.true_and]
    have e1 : decide ((l.length : Int) ≤ 30) = true := by rw [decide_eq_true_iff]; omega
    clear HF h hB hl
    go_enter Try.func16, Try.ntmps16
    go_wp2_with (go_at_call 34; refine HF'.out.mono ?_; rintro e w' ⟨rfl, hb⟩)
    go_ret
    exact ⟨rfl, hb⟩
  · unfold few
    rw [decide_eq_false hl, Bool.false_and]
    have e1 : decide ((l.length : Int) ≤ 30) = false := by rw [decide_eq_false_iff_not]; omega
    clear h hB hl
    go_enter Try.func16, Try.ntmps16
    go_wp2
    go_ret
    exact ⟨rfl, Below.refl _ _⟩
end Go.Proofs.Yteendimoopmakaa
