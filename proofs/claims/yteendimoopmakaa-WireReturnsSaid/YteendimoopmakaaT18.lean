/- A reader's Count, Raw, End, At, Left, Err: what each returns and leaves. For a reader whose place lies in its string. -/
import Derived.Test.YteendimoopmakaaT6
namespace Go.Proofs.Yteendimoopmakaa
open Go.RowKit

/-- What an inner reading leaves: the value, the error; the place, if there is no error. -/
def RdPost (w : World) (r : Nat) (s : ByteArray) (v : Value) (c : Int) (k : Nat) (e : Ending) (w' : World) : Prop :=
  e = .returned (.tuple #[v, .int .i64 c]) ∧ ∃ k', Rd w w' r s k' 0 ∧ k' ≤ s.size ∧ (c = 0 → k' = k)
/-- What a reader's call leaves: the value or the zero value, the error, the place. -/
def RdCall (w : World) (r : Nat) (s : ByteArray) (v z : Value) (a : Nat) (c : Int) (k : Nat) (e : Ending) (w' : World) : Prop :=
  e = .returned (.tuple #[if c = 0 then v else z, .int .i64 c]) ∧ Rd w w' r s (if c = 0 then k else a) c
theorem RdPost.ok {w w' : World} {r : Nat} {s : ByteArray} {v : Value} {k : Nat} (h : Rd w w' r s k 0) (hk : k ≤ s.size) : RdPost w r s v 0 k (.returned (.tuple #[v, .int .i64 0])) w' := ⟨rfl, k, h, hk, fun _ => rfl⟩
theorem RdPost.err {w w' : World} {r : Nat} {s : ByteArray} {v : Value} {k k0 : Nat} {c : Int} (hc : c ≠ 0) (h : Rd w w' r s k 0) (hk : k ≤ s.size) : RdPost w r s v c k0 (.returned (.tuple #[v, .int .i64 c])) w' := ⟨rfl, k, h, hk, fun h => (hc h).elim⟩
theorem rd_ext {w w0 w1 : World} {r : Nat} {s : ByteArray} {a : Nat} {e : Int} (hb : Below w.heap.size w w0) (h : Rd w0 w1 r s a e) : Rd w w1 r s a e := rd_trans (below_grownBy hb _) h

/-- take: what it returns. -/
def takeV (s : ByteArray) (a : Nat) (n : Int) : Value := if (s.size : Int) - a < n then .string ⟨#[]⟩ else .string (s.extract a (a + n.toNat))
def takeC (s : ByteArray) (a : Nat) (n : Int) : Int := if (s.size : Int) - a < n then 16 else 0
theorem take_any (n : Int) (r : Nat) (s : ByteArray) (a : Nat) (w : World) (h : RdAt w r s a 0) (ha : a ≤ s.size) (hs : s.size ≤ 140737488351232) (hn : 0 ≤ n) :
    Calls Try.prog 62 #[.pointer (some ⟨r, 0, none⟩), .int .i64 n] w (RdPost w r s (takeV s a n) (takeC s a n) (a + n.toNat)) := by
  unfold takeV takeC
  by_cases hlt : (s.size : Int) - a < n
  · rw [if_pos hlt, if_pos hlt]
    refine (take_end n r s a 0 w h ha hs hlt).mono ?_
    rintro e w1 ⟨rfl, h1⟩
    exact RdPost.err (by decide) h1 ha
  · rw [if_neg hlt, if_neg hlt]
    obtain ⟨m, rfl⟩ := Int.eq_ofNat_of_zero_le hn
    refine (take_ok m r s a 0 w h ha hs (by omega)).mono ?_
    rintro e w1 ⟨rfl, h1⟩
    exact RdPost.ok (by simpa using h1) (by rw [Int.toNat_natCast]; omega)

/-- A number of things: its bounds beside. -/
def rdCount (s : ByteArray) (a : Nat) (most : Int) : Int × Int × Nat :=
  if (rdNumber s a).2.1 ≠ 0 then (0, (rdNumber s a).2.1, a) else if (rdNumber s a).1 < 0 then (0, 11, a) else if most < (rdNumber s a).1 then (0, 3, a) else ((rdNumber s a).1, 0, (rdNumber s a).2.2)
set_option maxHeartbeats 800000 in
theorem count_any (most : Int) (r : Nat) (s : ByteArray) (a : Nat) (w : World) (h : RdAt w r s a 0) (ha : a ≤ s.size) (hs : s.size ≤ 140737488351232) :
    Calls Try.prog 75 #[.pointer (some ⟨r, 0, none⟩), .int .i64 most] w (RdPost w r s (.int .i64 (rdCount s a most).1) (rdCount s a most).2.1 (rdCount s a most).2.2) := by
  have HC := Lib.hid (rnum_any r s a w h ha hs)
  unfold rdCount
  generalize rdNumber s a = x at HC ⊢
  obtain ⟨n, c, k⟩ := x
  dsimp only at HC ⊢
  by_cases hc : c = 0
  · subst hc
    rw [if_neg (by simp)]
    by_cases h1 : n < 0
    · rw [if_pos h1]
      go_enter Try.func75, Try.ntmps75
      go_wp2_with (go_at_call 67; refine HC.out.mono ?_; rintro e w1 ⟨rfl, k1, hr1, hk1, hk2⟩; clear hk2; dsimp only)
      go_ret2
      exact RdPost.err (by decide) hr1 hk1
    · rw [if_neg h1]
      by_cases h2 : most < n
      · rw [if_pos h2]
        go_enter Try.func75, Try.ntmps75
        go_wp2_with (go_at_call 67; refine HC.out.mono ?_; rintro e w1 ⟨rfl, k1, hr1, hk1, hk2⟩; clear hk2; dsimp only)
        go_ret2
        exact RdPost.err (by decide) hr1 hk1
      · rw [if_neg h2]
        go_enter Try.func75, Try.ntmps75
        go_wp2_with (go_at_call 67; refine HC.out.mono ?_; rintro e w1 ⟨rfl, k1, hr1, hk1, hk2⟩; have HK := Lib.hid hk2; clear hk2; dsimp only)
        go_ret2
        exact ⟨rfl, k1, hr1, hk1, fun _ => HK.out trivial⟩
  · have hne : (c != 0) = true := by rw [bne_iff_ne]; exact hc
    rw [if_pos hc]
    have HN := Lib.hid hc
    clear hc
    go_enter Try.func75, Try.ntmps75
    go_wp2_with (go_at_call 67; refine HC.out.mono ?_; rintro e w1 ⟨rfl, k1, hr1, hk1, hk2⟩; clear hk2; dsimp only)
    go_ret2
    exact RdPost.err HN.out hr1 hk1

theorem Count1_any (most : Int) (r : Nat) (s : ByteArray) (a : Nat) (w : World) (c0 c1 : Nat) (h : RdAt w r s a 0) (ha : a ≤ s.size) (hs : s.size ≤ 140737488351232) (h0 : w.cell? ⟨c0, 0, none⟩ = some (.pointer (some ⟨r, 0, none⟩))) (h1 : w.cell? ⟨c1, 0, none⟩ = some (.int .i64 most)) :
    Calls Try.prog 79 #[.pointer (some ⟨c0, 0, none⟩), .pointer (some ⟨c1, 0, none⟩)] w (RdPost w r s (.int .i64 (rdCount s a most).1) (rdCount s a most).2.1 (rdCount s a most).2.2) := by
  have HC := Lib.hid (count_any most r s a w h ha hs)
  generalize rdCount s a most = x at HC ⊢
  go_enter Try.func79, Try.ntmps79
  go_wp2_with (go_at_call 75; refine HC.out.mono ?_; rintro e w1 ⟨rfl, k1, hr1, hk1, hk2⟩; have HK := Lib.hid hk2; clear hk2; dsimp only)
  go_ret2
  exact ⟨rfl, k1, hr1, hk1, HK.out⟩

theorem Raw1_any (n : Int) (r : Nat) (s : ByteArray) (a : Nat) (w : World) (c0 c1 : Nat) (h : RdAt w r s a 0) (ha : a ≤ s.size) (hs : s.size ≤ 140737488351232) (h0 : w.cell? ⟨c0, 0, none⟩ = some (.int .i64 n)) (h1 : w.cell? ⟨c1, 0, none⟩ = some (.pointer (some ⟨r, 0, none⟩))) :
    Calls Try.prog 61 #[.pointer (some ⟨c0, 0, none⟩), .pointer (some ⟨c1, 0, none⟩)] w (RdPost w r s (if n < 0 then .string ⟨#[]⟩ else takeV s a n) (if n < 0 then 11 else takeC s a n) (a + n.toNat)) := by
  by_cases hn : n < 0
  · rw [if_pos hn, if_pos hn]
    go_enter Try.func61, Try.ntmps61
    go_wp2
    go_ret2
    exact RdPost.err (by decide) (rd_drewN h 0) ha
  · rw [if_neg hn, if_neg hn]
    have HC := Lib.hid (take_any n r s a w h ha hs (by omega))
    generalize takeV s a n = tv at HC ⊢
    generalize takeC s a n = tc at HC ⊢
    go_enter Try.func61, Try.ntmps61
    go_wp2_with (go_at_call 62; refine HC.out.mono ?_; rintro e w1 ⟨rfl, k1, hr1, hk1, hk2⟩; have HK := Lib.hid hk2; clear hk2; dsimp only)
    go_ret2
    exact ⟨rfl, k1, hr1, hk1, HK.out⟩

theorem End1_any (r : Nat) (s : ByteArray) (a : Nat) (w : World) (c0 : Nat) (h : RdAt w r s a 0) (ha : a ≤ s.size) (_hs : s.size ≤ 140737488351232) (hc0 : w.cell? ⟨c0, 0, none⟩ = some (.pointer (some ⟨r, 0, none⟩))) :
    Calls Try.prog 59 #[.pointer (some ⟨c0, 0, none⟩)] w (RdPost w r s (.bool (decide (s.size ≤ a))) (if a < s.size then 2 else 0) a) := by
  have h0 : w.cell? ⟨r, 0, none⟩ = some (.string s) := h.cell 0
  have h1 : w.cell? ⟨r, 1, none⟩ = some (.int .i64 a) := h.cell 1
  by_cases hn : a < s.size
  · rw [if_pos hn, decide_eq_false (by omega)]
    go_enter Try.func59, Try.ntmps59
    go_wp2_with fail
    go_quiet (fail)
    go_wp2
    go_ret2
    exact RdPost.err (by decide) (rd_drewN h _) ha
  · rw [if_neg hn, decide_eq_true (by omega)]
    go_enter Try.func59, Try.ntmps59
    go_wp2_with fail
    go_quiet (fail)
    go_wp2
    go_ret2
    exact RdPost.ok (rd_drewN h _) ha

theorem At_any (r : Nat) (s : ByteArray) (a : Nat) (c : Int) (w : World) (h : RdAt w r s a c) : Calls Try.prog 24 #[.pointer (some ⟨r, 0, none⟩)] w fun e w' => e = .returned (.int .i64 a) ∧ w = w' := by
  have h1 : w.cell? ⟨r, 1, none⟩ = some (.int .i64 a) := h.cell 1
  go_enter Try.func24, Try.ntmps24
  go_wp2
  go_ret
  exact ⟨rfl, rfl⟩
theorem Err_any (r : Nat) (s : ByteArray) (a : Nat) (c : Int) (w : World) (h : RdAt w r s a c) : Calls Try.prog 26 #[.pointer (some ⟨r, 0, none⟩)] w fun e w' => e = .returned (.int .i64 c) ∧ w = w' := by
  have h1 : w.cell? ⟨r, 2, none⟩ = some (.int .i64 c) := h.cell 2
  go_enter Try.func26, Try.ntmps26
  go_wp2
  go_ret
  exact ⟨rfl, rfl⟩
theorem Left_any (r : Nat) (s : ByteArray) (a : Nat) (c : Int) (w : World) (h : RdAt w r s a c) (ha : a ≤ s.size) (hs : s.size ≤ 140737488351232) : Calls Try.prog 25 #[.pointer (some ⟨r, 0, none⟩)] w fun e w' => e = .returned (.int .i64 ((s.size : Int) - a)) ∧ Rd w w' r s a c := by
  have h0 : w.cell? ⟨r, 0, none⟩ = some (.string s) := h.cell 0
  have h1 : w.cell? ⟨r, 1, none⟩ = some (.int .i64 a) := h.cell 1
  go_enter Try.func25, Try.ntmps25
  go_wp2_with fail
  go_quiet (fail)
  go_wp2
  go_ret
  exact ⟨rfl, rd_drewN h _⟩
end Go.Proofs.Yteendimoopmakaa
