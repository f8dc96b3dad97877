/- What a reading gives, written, is the bytes that were read. Conditions stand in each theorem. -/
import Derived.Test.YteendimoopmakaaM3
namespace Go.Proofs.Yteendimoopmakaa
open Go.RowKit

theorem ltC_val {s : ByteArray} {a : Nat} {n : Int} (h : ltC s a n = 0) : rlC s a n = 0 ∧ ltV s a n = leN (s.extract a (a + n.toNat)).data.toList ∧ leN (s.extract a (a + n.toNat)).data.toList < 9223372036854775808 := by
  have h0 := ltC_rlC h
  unfold ltC at h
  unfold ltV
  rw [show rlV s a n = leN (s.extract a (a + n.toNat)).data.toList by unfold rlV; rw [if_pos h0]] at h ⊢
  by_cases hb : 9223372036854775808 ≤ leN (s.extract a (a + n.toNat)).data.toList
  · rw [if_pos ⟨h0, hb⟩] at h; cases h
  · rw [if_neg (fun h => hb h.2)]
    exact ⟨h0, rfl, by omega⟩
theorem ext_len {s : ByteArray} {a m : Nat} (h : a + m ≤ s.size) : (s.extract a (a + m)).data.toList.length = m := by
  rw [Array.length_toList]
  show (s.extract a (a + m)).size = m
  rw [ByteArray.size_extract]; omega
theorem sgn_mod (b u : Nat) : sgn b u % (2 ^ b : Nat) = (u : Int) % (2 ^ b : Nat) := by
  unfold sgn
  split
  · rw [Int.natCast_emod, Int.emod_emod_of_dvd _ (Int.dvd_refl _)]
  · rw [Int.natCast_emod, Int.sub_emod, Int.emod_emod_of_dvd _ (Int.dvd_refl _), Int.emod_self, Int.sub_zero, Int.emod_emod_of_dvd _ (Int.dvd_refl _)]
theorem rdCount_num {s : ByteArray} {a : Nat} {most : Int} (h : (rdCount s a most).2.1 = 0) : (rdNumber s a).2.1 = 0 ∧ (rdCount s a most).1 = (rdNumber s a).1 ∧ (rdCount s a most).2.2 = (rdNumber s a).2.2 ∧ 0 ≤ (rdNumber s a).1 ∧ (rdNumber s a).1 ≤ most := by
  unfold rdCount at h ⊢
  by_cases h1 : (rdNumber s a).2.1 ≠ 0
  · rw [if_pos h1] at h; exact absurd h h1
  · rw [if_neg h1] at h ⊢
    by_cases h2 : (rdNumber s a).1 < 0
    · rw [if_pos h2] at h; exact absurd h (by show (11 : Int) ≠ 0; decide)
    · rw [if_neg h2] at h ⊢
      by_cases h3 : most < (rdNumber s a).1
      · rw [if_pos h3] at h; exact absurd h (by show (3 : Int) ≠ 0; decide)
      · rw [if_neg h3]
        exact ⟨by omega, rfl, rfl, by omega, by omega⟩
theorem num_ext {s : ByteArray} {a : Nat} (h : (rdNumber s a).2.1 = 0) : a ≤ (rdNumber s a).2.2 ∧ (rdNumber s a).2.2 ≤ s.size ∧ (s.data.toList.drop a).take ((rdNumber s a).2.2 - a) = numB (rdNumber s a).1 ∧ -9223372036854775808 ≤ (rdNumber s a).1 ∧ (rdNumber s a).1 ≤ 9223372036854775807 := by
  have hd := rdNumber_dec s a h
  have hl := (rdNumber_le s a h).1
  refine ⟨hl, hd.2.1, ?_, hd.2.2.2⟩
  rw [← ext_list' s hl, hd.2.2.1]

/-- What has been read, as an item to be written. -/
def itOf (kind n : Int) (o : Out) (sl : Value) : It := ⟨kind, n, o.n, o.s, sl, o.l⟩
/-- What a reading gives is what a writing takes. -/
def Fits (s : ByteArray) (a : Nat) (x : It) (k : Nat) : Prop := wrE x = 0 ∧ (s.data.toList.drop a).take (k - a) = wrB x ∧ -9223372036854775808 ≤ x.n ∧ x.n ≤ 9223372036854775807
theorem rd_wr (s : ByteArray) (a : Nat) (kind n : Int) (ha : a ≤ s.size) (sl : Value) (h : (rdO s a kind n).c = 0) : Fits s a (itOf kind n (rdO s a kind n) sl) (rdO s a kind n).k := by
  unfold Fits itOf wrE wrB
  dsimp only
  unfold rdO at h ⊢
  by_cases q0 : kind = 0
  · simp only [if_pos q0] at h ⊢
    try dsimp only at h ⊢
    obtain ⟨hr, hv, hlt⟩ := ltC_val h
    have hz := rlC_sized hr
    have hle := rlC_le ha hr
    have hlen := ext_len hle
    have hL := leN_lt (s.extract a (a + n.toNat)).data.toList
    rw [hlen] at hL
    rw [if_pos h, if_pos h, hv]
    have hE : litE (leN (s.extract a (a + n.toNat)).data.toList : Nat) n = 0 := by
      refine litE_ok (sized_iff.2 hz) ?_
      rcases hz with rfl | rfl | rfl | rfl
      · have hL' : leN (s.extract a (a + (1 : Int).toNat)).data.toList < 256 := hL
        rintro (h | ⟨_, h⟩)
        · omega
        · have h' : (256 : Int) ≤ (leN (s.extract a (a + (1 : Int).toNat)).data.toList : Nat) := h
          omega
      · have hL' : leN (s.extract a (a + (2 : Int).toNat)).data.toList < 65536 := hL
        rintro (h | ⟨_, h⟩)
        · omega
        · have h' : (65536 : Int) ≤ (leN (s.extract a (a + (2 : Int).toNat)).data.toList : Nat) := h
          omega
      · have hL' : leN (s.extract a (a + (4 : Int).toNat)).data.toList < 4294967296 := hL
        rintro (h | ⟨_, h⟩)
        · omega
        · have h' : (4294967296 : Int) ≤ (leN (s.extract a (a + (4 : Int).toNat)).data.toList : Nat) := h
          omega
      · rintro (h | ⟨h, _⟩) <;> omega
    refine ⟨hE, ?_, by omega, by omega⟩
    rw [if_pos hE, show a + n.toNat - a = n.toNat by omega, ← ext_list]
    exact (litB_read hlen rfl).symm
  by_cases q1 : kind = 1
  · simp only [if_neg q0, if_pos q1] at h ⊢
    try dsimp only at h ⊢
    have hz := rlC_sized h
    have hle := rlC_le ha h
    have hlen := ext_len hle
    have hL := leN_lt (s.extract a (a + n.toNat)).data.toList
    rw [hlen] at hL
    have hv : rlV s a n = leN (s.extract a (a + n.toNat)).data.toList := by unfold rlV; rw [if_pos h]
    rw [if_pos h, if_pos h]
    unfold sgV
    rw [if_pos h, hv]
    have key : sgnE (sgn (8 * n.toNat) (leN (s.extract a (a + n.toNat)).data.toList)) n = 0 ∧ litB (sgn (8 * n.toNat) (leN (s.extract a (a + n.toNat)).data.toList)) n.toNat = (s.extract a (a + n.toNat)).data.toList ∧ -9223372036854775808 ≤ sgn (8 * n.toNat) (leN (s.extract a (a + n.toNat)).data.toList) ∧ sgn (8 * n.toNat) (leN (s.extract a (a + n.toNat)).data.toList) ≤ 9223372036854775807 := by
      have hm := sgn_mod (8 * n.toNat) (leN (s.extract a (a + n.toNat)).data.toList)
      have hp : ((2 ^ (8 * n.toNat) : Nat) : Int) = 256 ^ n.toNat := by rw [Int.natCast_pow]; exact p256 _
      rw [hp] at hm
      refine ⟨?_, litB_read hlen hm, ?_⟩
      · refine sgnE_ok (sized_iff.2 hz) ?_
        unfold sgn
        rcases hz with rfl | rfl | rfl | rfl
        · show ¬ (_ < -2 ^ (8 * 1 - 1) ∨ 2 ^ (8 * 1 - 1) ≤ (if _ % 2 ^ (8 * 1) < 2 ^ (8 * 1 - 1) then _ else _))
          simp only [show (1 : Int).toNat = 1 from rfl]
          split <;> omega
        · show ¬ (_ < -2 ^ (8 * 2 - 1) ∨ 2 ^ (8 * 2 - 1) ≤ (if _ % 2 ^ (8 * 2) < 2 ^ (8 * 2 - 1) then _ else _))
          simp only [show (2 : Int).toNat = 2 from rfl]
          split <;> omega
        · show ¬ (_ < -2 ^ (8 * 4 - 1) ∨ 2 ^ (8 * 4 - 1) ≤ (if _ % 2 ^ (8 * 4) < 2 ^ (8 * 4 - 1) then _ else _))
          simp only [show (4 : Int).toNat = 4 from rfl]
          split <;> omega
        · show ¬ (_ < -2 ^ (8 * 8 - 1) ∨ 2 ^ (8 * 8 - 1) ≤ (if _ % 2 ^ (8 * 8) < 2 ^ (8 * 8 - 1) then _ else _))
          simp only [show (8 : Int).toNat = 8 from rfl]
          split <;> omega
      · unfold sgn
        rcases hz with rfl | rfl | rfl | rfl
        · simp only [show (1 : Int).toNat = 1 from rfl]
          split <;> omega
        · simp only [show (2 : Int).toNat = 2 from rfl]
          split <;> omega
        · simp only [show (4 : Int).toNat = 4 from rfl]
          split <;> omega
        · simp only [show (8 : Int).toNat = 8 from rfl]
          split <;> omega
    obtain ⟨k1, k2, k3, k4⟩ := key
    refine ⟨k1, ?_, k3, k4⟩
    rw [if_pos k1, k2, show a + n.toNat - a = n.toNat by omega, ← ext_list]
  by_cases q2 : kind = 2
  · simp only [if_neg q0, if_neg q1, if_pos q2] at h ⊢
    try dsimp only at h ⊢
    obtain ⟨_, _, h3, h4⟩ := num_ext h
    rw [if_pos h, if_pos h, if_pos (.inl q2)]
    exact ⟨trivial, h3, h4⟩
  by_cases q3 : kind = 3
  · subst q3
    simp only [if_neg q0, if_neg q1, if_neg q2, if_true] at h ⊢
    try dsimp only at h ⊢
    rw [if_pos h, if_pos h]
    unfold stC at h
    unfold stK stS
    by_cases hc : (rdCount s a (min n 1048576)).2.1 = 0
    · rw [if_pos hc] at h ⊢
      obtain ⟨h1, h2, h3, h4, h5⟩ := rdCount_num hc
      obtain ⟨e1, e2, e3, _⟩ := num_ext h1
      rw [h2, h3] at h ⊢
      generalize (rdNumber s a).2.2 = k1 at *
      obtain ⟨m, hm⟩ := Int.eq_ofNat_of_zero_le h4
      rw [hm] at h e3 ⊢
      have hfit := takeC_le (by omega) e2 h
      have hS : takeS s k1 m = s.extract k1 (k1 + m) := by unfold takeS; rw [if_neg (by rw [Int.toNat_natCast] at hfit; omega), Int.toNat_natCast]
      rw [Int.toNat_natCast] at hfit ⊢
      rw [hS, ext_split _ e1 (show k1 ≤ k1 + m by omega), e3, show k1 + m - k1 = m by omega, ← ext_list]
      have hsz : (s.extract k1 (k1 + m)).size = m := by rw [ByteArray.size_extract]; omega
      rw [hsz]
      exact ⟨trivial, rfl, by omega, by omega⟩
    · rw [if_neg hc] at h; exact absurd h hc
  by_cases q6 : kind = 6
  · simp only [if_neg q0, if_neg q1, if_neg q2, if_neg q3, if_pos q6] at h ⊢
    try dsimp only at h ⊢
    obtain ⟨h1, h2, h3, _, _⟩ := rdCount_num h
    obtain ⟨_, _, e3, e4⟩ := num_ext h1
    rw [if_pos h, if_pos h, if_pos (.inr q6), h2, h3]
    exact ⟨trivial, e3, e4⟩
  by_cases q4 : kind = 4
  · subst q4
    simp only [if_neg q0, if_neg q1, if_neg q2, if_neg q3, if_neg q6, if_true] at h ⊢
    try dsimp only at h ⊢
    rw [if_pos h, if_pos h]
    have hnn := rdCount_nn s a (min n 65536)
    have hnum := @rdCount_num s a (min n 65536)
    generalize hx : rdCount s a (min n 65536) = x at *
    obtain ⟨N, c, k1⟩ := x
    dsimp only at hnn hnum
    obtain ⟨m, rfl⟩ := Int.eq_ofNat_of_zero_le hnn
    have hB := btX_of hx
    by_cases hc : c ≠ 0
    · rw [if_pos hc] at hB; rw [hB] at h; exact absurd h hc
    · rw [if_neg hc] at hB
      obtain ⟨h1, h2, h3, h4, h5⟩ := hnum (by omega)
      obtain ⟨e1, e2, e3, _⟩ := num_ext h1
      rw [← h3] at e1 e2 e3
      rw [← h2] at e3
      by_cases hf : s.size < k1 + (m + 7) / 8
      · rw [if_pos hf] at hB; rw [hB] at h; exact absurd h (by show (16 : Int) ≠ 0; decide)
      · rw [if_neg hf] at hB
        by_cases hcl : clean (s.extract k1 (k1 + (m + 7) / 8)) m = true
        · rw [if_pos hcl] at hB
          rw [hB]
          dsimp only
          have hsz : (s.extract k1 (k1 + (m + 7) / 8)).size = (m + 7) / 8 := by rw [ByteArray.size_extract]; omega
          refine ⟨trivial, ?_, by omega, by omega⟩
          unfold bitB
          rw [bitsOf_length, bits_dec _ m hsz hcl, ext_split _ e1 (show k1 ≤ k1 + (m + 7) / 8 by omega), e3, show k1 + (m + 7) / 8 - k1 = (m + 7) / 8 by omega, ← ext_list]
          rw [if_neg (by decide)]
        · rw [if_neg hcl] at hB; rw [hB] at h; exact absurd h (by show (2 : Int) ≠ 0; decide)
  · simp only [if_neg q0, if_neg q1, if_neg q2, if_neg q3, if_neg q6, if_neg q4] at h ⊢
    try dsimp only at h ⊢
    rw [if_pos h, if_pos h, if_neg (by rintro (h | h); exact q2 h; exact q6 h)]
    unfold rawC at h
    by_cases hn : n < 0
    · rw [if_pos hn] at h; cases h
    · rw [if_neg hn] at h
      obtain ⟨m, rfl⟩ := Int.eq_ofNat_of_zero_le (show 0 ≤ n by omega)
      have hfit := takeC_le (by omega) ha h
      rw [Int.toNat_natCast] at hfit ⊢
      have hS : takeS s a m = s.extract a (a + m) := by unfold takeS; rw [if_neg (by omega), Int.toNat_natCast]
      rw [hS, show a + m - a = m by omega, ← ext_list]
      exact ⟨trivial, rfl, by omega, by omega⟩
end Go.Proofs.Yteendimoopmakaa
