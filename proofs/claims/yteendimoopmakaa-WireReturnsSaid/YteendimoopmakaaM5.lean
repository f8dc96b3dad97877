/- What has been written is read back, value by value, whatever follows. Conditions stand in each theorem. -/
import Derived.Test.YteendimoopmakaaM4
namespace Go.Proofs.Yteendimoopmakaa
open Go.RowKit

theorem drop_fit {s : ByteArray} {a : Nat} {l rest : List UInt8} (h : s.data.toList.drop a = l ++ rest) (hl : 0 < l.length) : a + l.length ≤ s.size ∧ (s.extract a (a + l.length)).data.toList = l ∧ s.data.toList.drop (a + l.length) = rest := by
  have hs : s.data.toList.length = s.size := Array.length_toList
  have e := congrArg List.length h
  rw [List.length_drop, List.length_append, hs] at e
  refine ⟨by omega, ?_, ?_⟩
  · rw [ext_list, h, List.take_left']
    rfl
  · rw [← List.drop_drop, h, List.drop_left']
    rfl
theorem drop_fit0 {s : ByteArray} {a : Nat} {l rest : List UInt8} (ha : a ≤ s.size) (h : s.data.toList.drop a = l ++ rest) : a + l.length ≤ s.size ∧ (s.extract a (a + l.length)).data.toList = l ∧ s.data.toList.drop (a + l.length) = rest := by
  have hs : s.data.toList.length = s.size := Array.length_toList
  have e := congrArg List.length h
  rw [List.length_drop, List.length_append, hs] at e
  refine ⟨by omega, ?_, ?_⟩
  · rw [ext_list, h, List.take_left']
    rfl
  · rw [← List.drop_drop, h, List.drop_left']
    rfl
theorem ba_of_list {s t : ByteArray} (h : s.data.toList = t.data.toList) : s = t := by
  cases s; cases t
  simp at h
  simp [h]
/-- The ask for an item, and what comes back of it. -/
def askK (x : It) : Int := if x.kind = 6 then 2 else x.kind
def askN (x : It) : Int := if x.kind = 0 ∨ x.kind = 1 ∨ x.kind = 2 ∨ x.kind = 6 then x.size else if x.kind = 4 then x.L.length else x.s.size
def backN (x : It) : Int := if x.kind = 0 ∨ x.kind = 1 ∨ x.kind = 2 ∨ x.kind = 6 then x.n else 0
def backS (x : It) : ByteArray := if x.kind = 0 ∨ x.kind = 1 ∨ x.kind = 2 ∨ x.kind = 6 ∨ x.kind = 4 then ⟨#[]⟩ else x.s
def backL (x : It) : List Bool := if x.kind = 4 then x.L else []
theorem litE_zero {n m : Int} (h : litE n m = 0) : (m = 1 ∨ m = 2 ∨ m = 4 ∨ m = 8) ∧ 0 ≤ n ∧ (m < 8 → n < 2 ^ (8 * m.toNat)) := by
  unfold litE at h
  split at h
  · cases h
  · rename_i hm
    split at h
    · cases h
    · rename_i hr
      refine ⟨sized_iff.1 (by simpa using hm), by omega, fun h8 => ?_⟩
      rcases (show n < 2 ^ (8 * m.toNat) ∨ 2 ^ (8 * m.toNat) ≤ n by omega) with h | h
      · exact h
      · exact absurd (Or.inr ⟨h8, h⟩) hr
theorem sgnE_zero {n m : Int} (h : sgnE n m = 0) : (m = 1 ∨ m = 2 ∨ m = 4 ∨ m = 8) ∧ -2 ^ (8 * m.toNat - 1) ≤ n ∧ n < 2 ^ (8 * m.toNat - 1) := by
  unfold sgnE at h
  split at h
  · cases h
  · rename_i hm
    split at h
    · cases h
    · rename_i hr
      exact ⟨sized_iff.1 (by simpa using hm), by omega, by omega⟩
theorem rlC_fit {s : ByteArray} {a : Nat} {m : Int} (hm : m = 1 ∨ m = 2 ∨ m = 4 ∨ m = 8) (h : a + m.toNat ≤ s.size) : rlC s a m = 0 := by
  unfold rlC
  rw [if_neg (by rw [sized_iff.2 hm]; simp), if_neg (by omega)]
theorem rdCount_enc {s : ByteArray} {a : Nat} {m : Nat} {most : Int} {rest : List UInt8} (hm : (m : Int) ≤ 9223372036854775807) (hmost : (m : Int) ≤ most) (h : s.data.toList.drop a = numB m ++ rest) : rdCount s a most = ((m : Int), 0, a + sizeN m) := by
  unfold rdCount
  rw [rdNumber_enc s a m rest (by omega) hm h]
  dsimp only
  rw [if_neg (by simp), if_neg (by omega), if_neg (by omega)]
theorem wr_rd (s : ByteArray) (a : Nat) (x : It) (rest : List UInt8) (ha : a ≤ s.size) (h0 : -9223372036854775808 ≤ x.n) (h1 : x.n ≤ 9223372036854775807) (hsm : x.small) (hE : wrE x = 0) (h : s.data.toList.drop a = wrB x ++ rest) :
    rdO s a (askK x) (askN x) = ⟨0, a + (wrB x).length, backN x, backS x, backL x⟩ := by
  obtain ⟨hs1, hs2⟩ := hsm
  obtain ⟨kind, size, n, S, sl, L⟩ := x
  unfold wrE at hE
  unfold wrB at h ⊢
  unfold rdO askK askN backN backS backL
  dsimp only at *
  by_cases q0 : kind = 0
  · subst q0
    simp only [if_true, if_neg (show ¬ (0 : Int) = 6 by decide), if_neg (show ¬ (0 : Int) = 4 by decide), true_or] at hE h ⊢
    rw [if_pos hE] at h ⊢
    obtain ⟨hz, hn0, hnm⟩ := litE_zero hE
    have hlp : 0 < (litB n size.toNat).length := by rw [litB_length]; omega
    obtain ⟨hf, hex, _⟩ := drop_fit h hlp
    rw [litB_length] at hf hex ⊢
    have hr := rlC_fit hz hf
    have hv : rlV s a size = leN (litB n size.toNat) := by unfold rlV; rw [if_pos hr, hex]
    have hl := leN_litB n size.toNat
    have hle : (leN (litB n size.toNat) : Int) = n := by
      rw [hl]
      rcases hz with rfl | rfl | rfl | rfl
      · have := hnm (by decide)
        exact Int.emod_eq_of_lt hn0 (by simpa using this)
      · have := hnm (by decide)
        exact Int.emod_eq_of_lt hn0 (by simpa using this)
      · have := hnm (by decide)
        exact Int.emod_eq_of_lt hn0 (by simpa using this)
      · exact Int.emod_eq_of_lt hn0 (by show n < 256 ^ 8; omega)
    have hC : ltC s a size = 0 := by unfold ltC; rw [hr, hv, if_neg (by rintro ⟨_, h⟩; omega)]
    have hV : ltV s a size = n := by unfold ltV; rw [hr, hv, if_neg (by rintro ⟨_, h⟩; omega), hle]
    rw [hC, hV]
    simp
  by_cases q1 : kind = 1
  · subst q1
    simp only [if_true, if_neg (show ¬ (1 : Int) = 0 by decide), if_neg (show ¬ (1 : Int) = 6 by decide), if_neg (show ¬ (1 : Int) = 4 by decide), true_or, or_true] at hE h ⊢
    rw [if_pos hE] at h ⊢
    obtain ⟨hz, hn0, hnm⟩ := sgnE_zero hE
    have hlp : 0 < (litB n size.toNat).length := by rw [litB_length]; omega
    obtain ⟨hf, hex, _⟩ := drop_fit h hlp
    rw [litB_length] at hf hex ⊢
    have hr := rlC_fit hz hf
    have hv : rlV s a size = leN (litB n size.toNat) := by unfold rlV; rw [if_pos hr, hex]
    have hl := leN_litB n size.toNat
    have hV : sgV s a size = n := by
      unfold sgV
      rw [if_pos hr, hv]
      unfold sgn
      rcases hz with rfl | rfl | rfl | rfl
      · have hl' : (leN (litB n 1) : Int) = n % 256 := hl
        have a1 : (-128 : Int) ≤ n := hn0
        have a2 : n < 128 := hnm
        simp only [show (1 : Int).toNat = 1 from rfl]
        split <;> omega
      · have hl' : (leN (litB n 2) : Int) = n % 65536 := hl
        have a1 : (-32768 : Int) ≤ n := hn0
        have a2 : n < 32768 := hnm
        simp only [show (2 : Int).toNat = 2 from rfl]
        split <;> omega
      · have hl' : (leN (litB n 4) : Int) = n % 4294967296 := hl
        have a1 : (-2147483648 : Int) ≤ n := hn0
        have a2 : n < 2147483648 := hnm
        simp only [show (4 : Int).toNat = 4 from rfl]
        split <;> omega
      · have hl' : (leN (litB n 8) : Int) = n % 18446744073709551616 := hl
        simp only [show (8 : Int).toNat = 8 from rfl]
        split <;> omega
    rw [hr, hV]
    simp
  by_cases q26 : kind = 2 ∨ kind = 6
  · have hk : (if kind = 6 then (2 : Int) else kind) = 2 := by rcases q26 with rfl | rfl <;> rfl
    have hor : kind = 0 ∨ kind = 1 ∨ kind = 2 ∨ kind = 6 := .inr (.inr q26)
    have hor2 : kind = 0 ∨ kind = 1 ∨ kind = 2 ∨ kind = 6 ∨ kind = 4 := by rcases q26 with h | h <;> simp [h]
    have h4 : ¬ kind = 4 := by rcases q26 with h | h <;> omega
    simp only [if_neg q0, if_neg q1, if_pos q26] at h ⊢
    rw [hk, if_pos hor, if_pos hor, if_pos hor2, if_neg h4]
    simp only [if_neg (show ¬ (2 : Int) = 0 by decide), if_neg (show ¬ (2 : Int) = 1 by decide), if_true]
    rw [rdNumber_enc s a n rest h0 h1 h, numB_length]
    simp
  have q6 : ¬ kind = 6 := fun h => q26 (.inr h)
  have q2 : ¬ kind = 2 := fun h => q26 (.inl h)
  have hnor : ¬ (kind = 0 ∨ kind = 1 ∨ kind = 2 ∨ kind = 6) := by rintro (h | h | h | h) <;> contradiction
  simp only [if_neg q0, if_neg q1, if_neg q26, if_neg q6, if_neg hnor] at h ⊢
  by_cases q4 : kind = 4
  · subst q4
    simp only [if_neg (show ¬ (4 : Int) = 2 by decide), if_neg (show ¬ (4 : Int) = 3 by decide), or_true, if_true] at h ⊢
    unfold bitB at h ⊢
    rw [List.append_assoc] at h
    have hc := rdCount_enc (most := min (L.length : Int) 65536) (by omega) (by omega) h
    have hlp : 0 < (numB L.length).length := by rw [numB_length]; rcases sizeN_cases (L.length : Int) with h | h | h | h <;> omega
    obtain ⟨hf, _, hd⟩ := drop_fit h hlp
    rw [numB_length] at hf hd
    have hB := btX_of hc
    rw [if_neg (by simp)] at hB
    obtain ⟨hf2, hex, _⟩ := drop_fit0 hf hd
    have hlen : ((upto ((L.length + 7) / 8)).map (chunkB L)).length = (L.length + 7) / 8 := by rw [List.length_map, upto_length]
    rw [hlen] at hf2 hex
    obtain ⟨e1, e2, e3⟩ := bits_enc _ L hex
    rw [if_neg (by omega), if_pos e2, e3] at hB
    rw [hB, List.length_append, numB_length, hlen]
    simp [Nat.add_assoc]
  have hnor2 : ¬ (kind = 0 ∨ kind = 1 ∨ kind = 2 ∨ kind = 6 ∨ kind = 4) := by rintro (h | h | h | h | h) <;> contradiction
  simp only [if_neg q4, if_neg hnor2, if_neg q2] at h ⊢
  by_cases q3 : kind = 3
  · subst q3
    simp only [if_true] at h ⊢
    rw [List.append_assoc] at h
    have hc := rdCount_enc (most := min (S.size : Int) 1048576) (by omega) (by omega) h
    have hlp : 0 < (numB S.size).length := by rw [numB_length]; rcases sizeN_cases (S.size : Int) with h | h | h | h <;> omega
    obtain ⟨hf, _, hd⟩ := drop_fit h hlp
    rw [numB_length] at hf hd
    obtain ⟨hf2, hex, _⟩ := drop_fit0 hf hd
    have hsl : S.data.toList.length = S.size := Array.length_toList
    rw [hsl] at hf2 hex
    have hT : takeC s (a + sizeN S.size) S.size = 0 := by unfold takeC; rw [if_neg (by omega)]
    have hTS : takeS s (a + sizeN S.size) S.size = S := by
      unfold takeS
      rw [if_neg (by omega), Int.toNat_natCast]
      exact ba_of_list hex
    have hC : stC s a S.size = 0 := by unfold stC; rw [hc]; dsimp only; rw [if_pos rfl, hT]
    have hS : stS s a S.size = S := by unfold stS; rw [hc]; dsimp only; rw [if_pos rfl, hTS]
    have hK : stK s a S.size = a + sizeN S.size + S.size := by unfold stK; rw [hc]; dsimp only; rw [Int.toNat_natCast]
    rw [hC, hS, hK, List.length_append, numB_length, hsl]
    simp [Nat.add_assoc]
  · simp only [if_neg q3] at h ⊢
    obtain ⟨hf2, hex, _⟩ := drop_fit0 ha h
    have hsl : S.data.toList.length = S.size := Array.length_toList
    rw [hsl] at hf2 hex ⊢
    have hT : rawC s a S.size = 0 := by unfold rawC takeC; rw [if_neg (by omega), if_neg (by omega)]
    have hTS : takeS s a S.size = S := by
      unfold takeS
      rw [if_neg (by omega), Int.toNat_natCast]
      exact ba_of_list hex
    rw [hT, hTS]
    simp
end Go.Proofs.Yteendimoopmakaa
