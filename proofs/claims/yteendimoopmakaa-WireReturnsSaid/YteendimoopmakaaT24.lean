/- The law's read of any value: an error leaves the place and gives the zero value. For a reader whose place lies in its string. -/
import Derived.Test.YteendimoopmakaaT23
namespace Go.Proofs.Yteendimoopmakaa
open Go.RowKit

theorem rdNumber_le (s : ByteArray) (a : Nat) (h : (rdNumber s a).2.1 = 0) : a ≤ (rdNumber s a).2.2 ∧ (rdNumber s a).2.2 ≤ s.size := by
  unfold rdNumber at h ⊢
  repeat' split
  all_goals simp_all
  all_goals omega
theorem rdCount_le2 (s : ByteArray) (a : Nat) (most : Int) (h : (rdCount s a most).2.1 = 0) : a ≤ (rdCount s a most).2.2 ∧ (rdCount s a most).2.2 ≤ s.size := by
  have hl := rdNumber_le s a
  unfold rdCount at h ⊢
  by_cases h1 : (rdNumber s a).2.1 ≠ 0
  · rw [if_pos h1] at h; exact absurd h h1
  · have h1' : (rdNumber s a).2.1 = 0 := by omega
    rw [if_neg h1] at h ⊢
    by_cases h2 : (rdNumber s a).1 < 0
    · rw [if_pos h2] at h; exact absurd h (by show (11 : Int) ≠ 0; decide)
    · rw [if_neg h2] at h ⊢
      by_cases h3 : most < (rdNumber s a).1
      · rw [if_pos h3] at h; exact absurd h (by show (3 : Int) ≠ 0; decide)
      · rw [if_neg h3]; exact hl h1'
theorem takeC_le {s : ByteArray} {a : Nat} {n : Int} (hn : 0 ≤ n) (_ha : a ≤ s.size) (h : takeC s a n = 0) : a + n.toNat ≤ s.size := by
  unfold takeC at h
  split at h
  · cases h
  · omega
theorem rlC_le {s : ByteArray} {a : Nat} {n : Int} (ha : a ≤ s.size) (h : rlC s a n = 0) : a + n.toNat ≤ s.size := by
  have hn := rlC_sized h
  unfold rlC at h
  split at h
  · cases h
  · split at h
    · cases h
    · omega
theorem ltC_rlC {s : ByteArray} {a : Nat} {n : Int} (h : ltC s a n = 0) : rlC s a n = 0 := by
  unfold ltC at h
  split at h
  · cases h
  · exact h
theorem stC_le {s : ByteArray} {a : Nat} {n : Int} (h : stC s a n = 0) : a ≤ stK s a n ∧ stK s a n ≤ s.size := by
  unfold stC at h
  unfold stK
  by_cases h1 : (rdCount s a (min n 1048576)).2.1 = 0
  · rw [if_pos h1] at h
    have h2 := rdCount_le2 s a _ h1
    have h3 := takeC_le (rdCount_nn s a _) h2.2 h
    omega
  · rw [if_neg h1] at h; exact absurd h h1
theorem btX_le {s : ByteArray} {a : Nat} {n : Int} (h : (btX s a n).1 = 0) : a ≤ (btX s a n).2.2 ∧ (btX s a n).2.2 ≤ s.size := by
  unfold btX at h ⊢
  have hl := rdCount_le2 s a (min n 65536)
  dsimp only at h ⊢
  by_cases h1 : (rdCount s a (min n 65536)).2.1 ≠ 0
  · rw [if_pos h1] at h; exact absurd h h1
  · rw [if_neg h1] at h ⊢
    have h2 := hl (by omega)
    by_cases h3 : s.size < (rdCount s a (min n 65536)).2.2 + ((rdCount s a (min n 65536)).1.toNat + 7) / 8
    · rw [if_pos h3] at h; exact absurd h (by show (16 : Int) ≠ 0; decide)
    · rw [if_neg h3] at h ⊢
      split at h
      · rename_i h4
        rw [if_pos h4]
        dsimp only
        omega
      · exact absurd h (by show (2 : Int) ≠ 0; decide)

/-- What a read leaves, for a law that looks at errors only. -/
def ReadPost (w : World) (r : Nat) (s : ByteArray) (a : Nat) (e : Ending) (w' : World) : Prop :=
  ∃ (c : Int) (k : Nat) (N : Int) (S : ByteArray) (so : Option Addr) (ls cs : Nat), e = .returned (.tuple #[.agg #[.int .i64 0, .int .i64 0, .int .i64 N, .string S, .slice so ls cs], .int .i64 c]) ∧ Rd w w' r s k c ∧ a ≤ k ∧ k ≤ s.size ∧
    (c ≠ 0 → k = a ∧ N = 0 ∧ S = ⟨#[]⟩ ∧ so = none ∧ ls = 0 ∧ cs = 0)
theorem readPost_int {w w' : World} {r : Nat} {s : ByteArray} {a k : Nat} {c N : Int} {e : Ending} (ha : a ≤ s.size) (hk : c = 0 → a ≤ k ∧ k ≤ s.size)
    (h : Got w r s (.agg #[.int .i64 0, .int .i64 0, .int .i64 (if c = 0 then N else 0), .string ⟨#[]⟩, .slice none 0 0]) c (if c = 0 then k else a) e w') : ReadPost w r s a e w' := by
  obtain ⟨rfl, h⟩ := h
  refine ⟨c, _, _, _, _, _, _, rfl, h, ?_, ?_, fun hc => ⟨by rw [if_neg hc], by rw [if_neg hc], rfl, rfl, rfl, rfl⟩⟩
  · split
    · rename_i hc; exact (hk hc).1
    · exact Nat.le_refl _
  · split
    · rename_i hc; exact (hk hc).2
    · exact ha
theorem readPost_str {w w' : World} {r : Nat} {s S : ByteArray} {a k : Nat} {c : Int} {e : Ending} (ha : a ≤ s.size) (hk : c = 0 → a ≤ k ∧ k ≤ s.size) (hS : c ≠ 0 → S = ⟨#[]⟩)
    (h : Got w r s (.agg #[.int .i64 0, .int .i64 0, .int .i64 0, .string S, .slice none 0 0]) c (if c = 0 then k else a) e w') : ReadPost w r s a e w' := by
  obtain ⟨rfl, h⟩ := h
  refine ⟨c, _, _, _, _, _, _, rfl, h, ?_, ?_, fun hc => ⟨by rw [if_neg hc], rfl, hS hc, rfl, rfl, rfl⟩⟩
  · split
    · rename_i hc; exact (hk hc).1
    · exact Nat.le_refl _
  · split
    · rename_i hc; exact (hk hc).2
    · exact ha
/-- what take hands back, as a string -/
def takeS (s : ByteArray) (a : Nat) (n : Int) : ByteArray := if (s.size : Int) - a < n then ⟨#[]⟩ else s.extract a (a + n.toNat)
theorem takeV_eq (s : ByteArray) (a : Nat) (n : Int) : takeV s a n = .string (takeS s a n) := by unfold takeV takeS; split <;> rfl
def stS (s : ByteArray) (a : Nat) (most : Int) : ByteArray := if (rdCount s a (min most 1048576)).2.1 = 0 then takeS s (rdCount s a (min most 1048576)).2.2 (rdCount s a (min most 1048576)).1 else ⟨#[]⟩
theorem stV_eq (s : ByteArray) (a : Nat) (n : Int) : stV s a n = .string (stS s a n) := by unfold stV stS; split; exact takeV_eq _ _ _; rfl

theorem int_if (c N : Int) : (if c = 0 then Value.int .i64 N else .int .i64 0) = .int .i64 (if c = 0 then N else 0) := by split <;> rfl
theorem str_if (c : Int) (S : ByteArray) : (if c = 0 then Value.string S else .string ⟨#[]⟩) = .string (if c = 0 then S else ⟨#[]⟩) := by split <;> rfl

theorem read_live (kind n : Int) (r : Nat) (s : ByteArray) (a : Nat) (w : World) (h : RdAt w r s a 0) (ha : a ≤ s.size) (hs : s.size ≤ 140737488351232) :
    Calls Try.prog 21 #[.pointer (some ⟨r, 0, none⟩), .agg #[.int .i64 kind, .int .i64 n]] w (ReadPost w r s a) := by
  by_cases q0 : kind = 0
  · subst q0
    refine (read_k0 n r s a (if ltC s a n = 0 then a + n.toNat else a) 0 (ltC s a n) (if ltC s a n = 0 then ltV s a n else 0) w h fun W hW => ?_).mono fun e w' hh => readPost_int ha (fun hc => ⟨Nat.le_add_right _ _, rlC_le ha (ltC_rlC hc)⟩) hh
    have := Little_live n r s a W hW ha hs
    rw [← int_if]; exact this
  by_cases q1 : kind = 1
  · subst q1
    refine (read_k1 n r s a (if rlC s a n = 0 then a + n.toNat else a) 0 (rlC s a n) (if rlC s a n = 0 then sgV s a n else 0) w h fun W hW => ?_).mono fun e w' hh => readPost_int ha (fun hc => ⟨Nat.le_add_right _ _, rlC_le ha hc⟩) hh
    have := Signed_live n r s a W hW ha hs
    rw [← int_if]; exact this
  by_cases q2 : kind = 2
  · subst q2
    refine (read_k2 n r s a (if (rdNumber s a).2.1 = 0 then (rdNumber s a).2.2 else a) 0 (rdNumber s a).2.1 (if (rdNumber s a).2.1 = 0 then (rdNumber s a).1 else 0) w h fun W hW => ?_).mono fun e w' hh => readPost_int ha (fun hc => rdNumber_le s a hc) hh
    exact Number_live r s a W hW ha hs
  by_cases q3 : kind = 3
  · subst q3
    refine (read_k3 n r s a (if stC s a n = 0 then stK s a n else a) 0 (stC s a n) (if stC s a n = 0 then stS s a n else ⟨#[]⟩) w h fun W hW => ?_).mono fun e w' hh => readPost_str ha (fun hc => stC_le hc) (fun hc => if_neg hc) hh
    have := String_live n r s a W hW ha hs
    rw [← str_if, ← stV_eq]; exact this
  by_cases q6 : kind = 6
  · subst q6
    refine (read_k6 n r s a (if (rdCount s a n).2.1 = 0 then (rdCount s a n).2.2 else a) 0 (rdCount s a n).2.1 (if (rdCount s a n).2.1 = 0 then (rdCount s a n).1 else 0) w h fun W hW => ?_).mono fun e w' hh => readPost_int ha (fun hc => rdCount_le2 s a n hc) hh
    have := Count_live n r s a W hW ha hs
    rw [← int_if]; exact this
  by_cases q4 : kind = 4
  · subst q4
    refine (read_k4 n r s a (if (btX s a n).1 = 0 then (btX s a n).2.2 else a) 0 (btX s a n).1 (fun so ls cs => (btX s a n).1 ≠ 0 → so = none ∧ ls = 0 ∧ cs = 0) w h fun W hW => (Bits_live n r s a W hW ha hs).mono ?_).mono ?_
    · rintro e W' ⟨v, rfl, hown, hnil, hr⟩
      have hv : ∃ so ls cs, v = .slice so ls cs := by
        by_cases hc : (btX s a n).1 = 0
        · obtain ⟨b, _, _, ho⟩ := hown hc
          rcases ho with ⟨h1, _⟩ | ⟨g, cap, cur, h1, _⟩
          · exact ⟨_, _, _, h1⟩
          · exact ⟨_, _, _, h1⟩
        · exact ⟨_, _, _, hnil hc⟩
      obtain ⟨so, ls, cs, rfl⟩ := hv
      exact ⟨so, ls, cs, ⟨rfl, hr⟩, fun hc => by have := hnil hc; simpa using this⟩
    · rintro e w' ⟨so, ls, cs, ⟨rfl, hr⟩, hK⟩
      refine ⟨_, _, _, _, _, _, _, rfl, hr, ?_, ?_, fun hc => ⟨by rw [if_neg hc], rfl, rfl, hK hc⟩⟩
      · split
        · rename_i hc; exact (btX_le hc).1
        · exact Nat.le_refl _
      · split
        · rename_i hc; exact (btX_le hc).2
        · exact ha
  · refine (read_raw kind ⟨q0, q1, q2, q3, q4, q6⟩ n r s a (if (if n < 0 then 11 else takeC s a n) = 0 then a + n.toNat else a) 0 (if n < 0 then 11 else takeC s a n) (if (if n < 0 then 11 else takeC s a n) = 0 then takeS s a n else ⟨#[]⟩) w h fun W hW => ?_).mono fun e w' hh => readPost_str ha (fun hc => ⟨Nat.le_add_right _ _, ?_⟩) (fun hc => if_neg hc) hh
    · have := Raw_live n r s a W hW ha hs
      rw [← str_if]
      by_cases hn : n < 0
      · simp only [if_pos hn] at this ⊢
        exact this
      · simp only [if_neg hn] at this ⊢
        rw [← takeV_eq]
        exact this
    · split at hc
      · cases hc
      · exact takeC_le (by omega) ha hc
theorem read_stopped (kind n : Int) (r : Nat) (s : ByteArray) (a : Nat) (c : Int) (w : World) (h : RdAt w r s a c) (hc : c ≠ 0) :
    Calls Try.prog 21 #[.pointer (some ⟨r, 0, none⟩), .agg #[.int .i64 kind, .int .i64 n]] w fun e w' => e = .returned (.tuple #[.agg #[.int .i64 0, .int .i64 0, .int .i64 0, .string ⟨#[]⟩, .slice none 0 0], .int .i64 c]) ∧ Rd w w' r s a c := by
  by_cases q0 : kind = 0
  · subst q0
    exact read_k0 n r s a a c c 0 w h fun W hW => Little_stopped n r s a c W hW hc
  by_cases q1 : kind = 1
  · subst q1
    exact read_k1 n r s a a c c 0 w h fun W hW => Signed_stopped n r s a c W hW hc
  by_cases q2 : kind = 2
  · subst q2
    exact read_k2 n r s a a c c 0 w h fun W hW => Number_stopped r s a c W hW hc
  by_cases q3 : kind = 3
  · subst q3
    exact read_k3 n r s a a c c ⟨#[]⟩ w h fun W hW => String_stopped n r s a c W hW hc
  by_cases q6 : kind = 6
  · subst q6
    exact read_k6 n r s a a c c 0 w h fun W hW => Count_stopped n r s a c W hW hc
  by_cases q4 : kind = 4
  · subst q4
    refine (read_k4 n r s a a c c (fun so ls cs => so = none ∧ ls = 0 ∧ cs = 0) w h fun W hW => (Bits_stopped n r s a c W hW hc).mono fun e W' hh => ⟨none, 0, 0, hh, rfl, rfl, rfl⟩).mono ?_
    rintro e w' ⟨_, _, _, hh, rfl, rfl, rfl⟩
    exact hh
  · exact read_raw kind ⟨q0, q1, q2, q3, q4, q6⟩ n r s a a c c ⟨#[]⟩ w h fun W hW => Raw_stopped n r s a c W hW hc
end Go.Proofs.Yteendimoopmakaa
