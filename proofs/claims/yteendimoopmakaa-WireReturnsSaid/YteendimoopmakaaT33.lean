/- The law's read and referRead of any value give the same outcome rdO. For a place that lies in the string. -/
import Derived.Test.YteendimoopmakaaT32
namespace Go.Proofs.Yteendimoopmakaa
open Go.RowKit

set_option maxRecDepth 100000 in
set_option maxHeartbeats 3200000 in
theorem read_k4w (n : Int) (r : Nat) (s : ByteArray) (a k : Nat) (c0 c : Int) (L : List Bool) (w : World) (h : RdAt w r s a c0)
    (hC : ∀ W, RdAt W r s a c0 → Calls Try.prog 47 #[.pointer (some ⟨r, 0, none⟩), .int .i64 n] W (fun e W' => ∃ so ls cs, Got W r s (.slice so ls cs) c k e W' ∧ ∃ b, W.heap.size ≤ b ∧ W'.ownsRow b 4 1 (.slice so ls cs) L.length (bools L))) :
    Calls Try.prog 21 #[.pointer (some ⟨r, 0, none⟩), .agg #[.int .i64 4, .int .i64 n]] w (fun e w' => ∃ so ls cs, Got w r s (.agg #[.int .i64 0, .int .i64 0, .int .i64 0, .string ⟨#[]⟩, .slice so ls cs]) c k e w' ∧ ∃ b, w.heap.size ≤ b ∧ w'.ownsRow b 4 1 (.slice so ls cs) L.length (bools L)) := by
  have HC := Lib.hid hC
  have HBW := Lib.hid (rdW_below w 4 n)
  have HR := Lib.hid (Blk.below h (rdW_below w 4 n) (Blk.lt h))
  have hlt := Blk.lt h
  have HB1 := Lib.hid (rdW_1 w 4 n)
  have HB2 := Lib.hid (rdW_2 w 4 n)
  clear hC
  go_enter Try.func21, Try.ntmps21
  go_wp2_with fail
  refine (HC.out _ (by exact HR.out)).mono ?_
  rintro e w1 ⟨so, ls, cs, ⟨rfl, hr1⟩, bo, hbo, hown⟩
  have HOW := Lib.hid hown
  clear hown
  have hfb : Blk w1 (w.heap.size + 1) 35 zcells := blk_kept HB1.out hr1.2 (by omega)
  have hdb : Blk w1 (w.heap.size + 1 + 1) 35 zcells := blk_kept HB2.out hr1.2 (by omega)
  have f0 : w1.cell? ⟨w.heap.size + 1, 0, none⟩ = some (.int .i64 0) := hfb.cell 0
  have fz0 : w1.frozen? ⟨w.heap.size + 1, 0, none⟩ = false := hfb.frozen 0
  have f1 : w1.cell? ⟨w.heap.size + 1, 1, none⟩ = some (.int .i64 0) := hfb.cell 1
  have fz1 : w1.frozen? ⟨w.heap.size + 1, 1, none⟩ = false := hfb.frozen 1
  have f2 : w1.cell? ⟨w.heap.size + 1, 2, none⟩ = some (.int .i64 0) := hfb.cell 2
  have fz2 : w1.frozen? ⟨w.heap.size + 1, 2, none⟩ = false := hfb.frozen 2
  have f3 : w1.cell? ⟨w.heap.size + 1, 3, none⟩ = some (.string ⟨#[]⟩) := hfb.cell 3
  have fz3 : w1.frozen? ⟨w.heap.size + 1, 3, none⟩ = false := hfb.frozen 3
  have f4 : w1.cell? ⟨w.heap.size + 1, 4, none⟩ = some (.slice none 0 0) := hfb.cell 4
  have fz4 : w1.frozen? ⟨w.heap.size + 1, 4, none⟩ = false := hfb.frozen 4
  have d0 : w1.cell? ⟨w.heap.size + 1 + 1, 0, none⟩ = some (.int .i64 0) := hdb.cell 0
  have dz0 : w1.frozen? ⟨w.heap.size + 1 + 1, 0, none⟩ = false := hdb.frozen 0
  have d1 : w1.cell? ⟨w.heap.size + 1 + 1, 1, none⟩ = some (.int .i64 0) := hdb.cell 1
  have dz1 : w1.frozen? ⟨w.heap.size + 1 + 1, 1, none⟩ = false := hdb.frozen 1
  have d2 : w1.cell? ⟨w.heap.size + 1 + 1, 2, none⟩ = some (.int .i64 0) := hdb.cell 2
  have dz2 : w1.frozen? ⟨w.heap.size + 1 + 1, 2, none⟩ = false := hdb.frozen 2
  have d3 : w1.cell? ⟨w.heap.size + 1 + 1, 3, none⟩ = some (.string ⟨#[]⟩) := hdb.cell 3
  have dz3 : w1.frozen? ⟨w.heap.size + 1 + 1, 3, none⟩ = false := hdb.frozen 3
  have d4 : w1.cell? ⟨w.heap.size + 1 + 1, 4, none⟩ = some (.slice none 0 0) := hdb.cell 4
  have dz4 : w1.frozen? ⟨w.heap.size + 1 + 1, 4, none⟩ = false := hdb.frozen 4
  go_wp2_with fail
  (try simp only [Exit.inBlock, Exit.then])
  refine bodyPost_ret (f21_results _ _ (w.heap.size + 1) _ _ _ _ _ _ rfl rfl ((((((hfb.far (p := ⟨w.heap.size + 1 + 1, 4, none⟩) (by simp) _).set_ 0 _).set_ 1 _).set_ 2 _).set_ 3 _).set_ 4 _)) rfl ⟨so, ls, cs, ⟨rfl, ?_⟩, bo, by simp only [World.size_alloc] at hbo; omega, own_sets (own_sets (own_sets (own_sets (own_sets (own_sets (HOW.out) (g := w.heap.size + 1 + 1) (by simp only [World.size_alloc] at hbo; omega) 4 _) (g := w.heap.size + 1) (by simp only [World.size_alloc] at hbo; omega) 0 _) (g := w.heap.size + 1) (by simp only [World.size_alloc] at hbo; omega) 1 _) (g := w.heap.size + 1) (by simp only [World.size_alloc] at hbo; omega) 2 _) (g := w.heap.size + 1) (by simp only [World.size_alloc] at hbo; omega) 3 _) (g := w.heap.size + 1) (by simp only [World.size_alloc] at hbo; omega) 4 _⟩
  exact rd_over (rd_ext HBW.out (by exact hr1)) ((((((((Below.refl _ _).setCell (by simp; omega) _).setCell (by simp) _).setCell (by simp) _).setCell (by simp) _).setCell (by simp) _).setCell (by simp) _)) hlt



/-- The outcome of a reading: error, place, number, string, bools (zero values if there is an error). -/
structure Out where
  c : Int
  k : Nat
  n : Int
  s : ByteArray
  l : List Bool
def rawC (s : ByteArray) (a : Nat) (n : Int) : Int := if n < 0 then 11 else takeC s a n
def rdO (s : ByteArray) (a : Nat) (kind n : Int) : Out :=
  if kind = 0 then ⟨ltC s a n, if ltC s a n = 0 then a + n.toNat else a, if ltC s a n = 0 then ltV s a n else 0, ⟨#[]⟩, []⟩
  else if kind = 1 then ⟨rlC s a n, if rlC s a n = 0 then a + n.toNat else a, if rlC s a n = 0 then sgV s a n else 0, ⟨#[]⟩, []⟩
  else if kind = 2 then ⟨(rdNumber s a).2.1, if (rdNumber s a).2.1 = 0 then (rdNumber s a).2.2 else a, if (rdNumber s a).2.1 = 0 then (rdNumber s a).1 else 0, ⟨#[]⟩, []⟩
  else if kind = 3 then ⟨stC s a n, if stC s a n = 0 then stK s a n else a, 0, if stC s a n = 0 then stS s a n else ⟨#[]⟩, []⟩
  else if kind = 6 then ⟨(rdCount s a n).2.1, if (rdCount s a n).2.1 = 0 then (rdCount s a n).2.2 else a, if (rdCount s a n).2.1 = 0 then (rdCount s a n).1 else 0, ⟨#[]⟩, []⟩
  else if kind = 4 then ⟨(btX s a n).1, if (btX s a n).1 = 0 then (btX s a n).2.2 else a, 0, ⟨#[]⟩, if (btX s a n).1 = 0 then (btX s a n).2.1 else []⟩
  else ⟨rawC s a n, if rawC s a n = 0 then a + n.toNat else a, 0, if rawC s a n = 0 then takeS s a n else ⟨#[]⟩, []⟩
theorem if_le {c : Int} {k a m : Nat} (ha : a ≤ m) (h : c = 0 → a ≤ k ∧ k ≤ m) : a ≤ (if c = 0 then k else a) ∧ (if c = 0 then k else a) ≤ m := by
  split
  · exact h ‹_›
  · exact ⟨Nat.le_refl _, ha⟩
theorem rdO_le (s : ByteArray) (a : Nat) (kind n : Int) (ha : a ≤ s.size) : a ≤ (rdO s a kind n).k ∧ (rdO s a kind n).k ≤ s.size := by
  unfold rdO
  split
  · exact if_le ha fun hc => ⟨Nat.le_add_right _ _, rlC_le ha (ltC_rlC hc)⟩
  split
  · exact if_le ha fun hc => ⟨Nat.le_add_right _ _, rlC_le ha hc⟩
  split
  · exact if_le ha fun hc => rdNumber_le s a hc
  split
  · exact if_le ha fun hc => stC_le hc
  split
  · exact if_le ha fun hc => rdCount_le2 s a n hc
  split
  · exact if_le ha fun hc => btX_le hc
  · refine if_le ha fun hc => ⟨Nat.le_add_right _ _, ?_⟩
    unfold rawC at hc
    split at hc
    · cases hc
    · exact takeC_le (by omega) ha hc
theorem rdO_err (s : ByteArray) (a : Nat) (kind n : Int) (h : (rdO s a kind n).c ≠ 0) : (rdO s a kind n).k = a ∧ (rdO s a kind n).n = 0 ∧ (rdO s a kind n).s = ⟨#[]⟩ ∧ (rdO s a kind n).l = [] := by
  unfold rdO at *
  repeat' split
  all_goals simp_all

/-- What the law's read leaves. -/
def ReadFull (w : World) (r : Nat) (s : ByteArray) (o : Out) (e : Ending) (w' : World) : Prop :=
  ∃ v, e = .returned (.tuple #[.agg #[.int .i64 0, .int .i64 0, .int .i64 o.n, .string o.s, v], .int .i64 o.c]) ∧ (∃ b, w.heap.size ≤ b ∧ w'.ownsRow b 4 1 v o.l.length (bools o.l)) ∧ Rd w w' r s o.k o.c
theorem full_of {w w' : World} {r : Nat} {s S : ByteArray} {c N : Int} {k : Nat} {e : Ending} (h : Got w r s (.agg #[.int .i64 0, .int .i64 0, .int .i64 N, .string S, .slice none 0 0]) c k e w') : ReadFull w r s ⟨c, k, N, S, []⟩ e w' :=
  ⟨_, h.1, ⟨w.heap.size, Nat.le_refl _, World.ownsRow_nil _ _ _ _⟩, h.2⟩
theorem read_full (kind n : Int) (r : Nat) (s : ByteArray) (a : Nat) (w : World) (h : RdAt w r s a 0) (ha : a ≤ s.size) (hs : s.size ≤ 140737488351232) :
    Calls Try.prog 21 #[.pointer (some ⟨r, 0, none⟩), .agg #[.int .i64 kind, .int .i64 n]] w (ReadFull w r s (rdO s a kind n)) := by
  by_cases q0 : kind = 0
  · subst q0
    refine (read_k0 n r s a (if ltC s a n = 0 then a + n.toNat else a) 0 (ltC s a n) (if ltC s a n = 0 then ltV s a n else 0) w h fun W hW => ?_).mono fun e w' hh => full_of hh
    have := Little_live n r s a W hW ha hs
    rw [← int_if]; exact this
  by_cases q1 : kind = 1
  · subst q1
    refine (read_k1 n r s a (if rlC s a n = 0 then a + n.toNat else a) 0 (rlC s a n) (if rlC s a n = 0 then sgV s a n else 0) w h fun W hW => ?_).mono fun e w' hh => full_of hh
    have := Signed_live n r s a W hW ha hs
    rw [← int_if]; exact this
  by_cases q2 : kind = 2
  · subst q2
    refine (read_k2 n r s a (if (rdNumber s a).2.1 = 0 then (rdNumber s a).2.2 else a) 0 (rdNumber s a).2.1 (if (rdNumber s a).2.1 = 0 then (rdNumber s a).1 else 0) w h fun W hW => ?_).mono fun e w' hh => full_of hh
    exact Number_live r s a W hW ha hs
  by_cases q3 : kind = 3
  · subst q3
    refine (read_k3 n r s a (if stC s a n = 0 then stK s a n else a) 0 (stC s a n) (if stC s a n = 0 then stS s a n else ⟨#[]⟩) w h fun W hW => ?_).mono fun e w' hh => full_of hh
    have := String_live n r s a W hW ha hs
    rw [← str_if, ← stV_eq]; exact this
  by_cases q6 : kind = 6
  · subst q6
    refine (read_k6 n r s a (if (rdCount s a n).2.1 = 0 then (rdCount s a n).2.2 else a) 0 (rdCount s a n).2.1 (if (rdCount s a n).2.1 = 0 then (rdCount s a n).1 else 0) w h fun W hW => ?_).mono fun e w' hh => full_of hh
    have := Count_live n r s a W hW ha hs
    rw [← int_if]; exact this
  by_cases q4 : kind = 4
  · subst q4
    refine (read_k4w n r s a (if (btX s a n).1 = 0 then (btX s a n).2.2 else a) 0 (btX s a n).1 (if (btX s a n).1 = 0 then (btX s a n).2.1 else []) w h fun W hW => (Bits_live n r s a W hW ha hs).mono ?_).mono ?_
    · rintro e W' ⟨v, rfl, hown, hnil, hr⟩
      by_cases hc : (btX s a n).1 = 0
      · obtain ⟨b, hb, ho⟩ := hown hc
        obtain ⟨so, ls, cs, rfl⟩ := own_shape ho
        exact ⟨so, ls, cs, ⟨rfl, hr⟩, b, hb, by rw [if_pos hc]; exact ho⟩
      · obtain rfl := hnil hc
        exact ⟨none, 0, 0, ⟨rfl, hr⟩, W.heap.size, Nat.le_refl _, by rw [if_neg hc]; exact World.ownsRow_nil _ _ _ _⟩
    · rintro e w' ⟨so, ls, cs, ⟨rfl, hr⟩, hown⟩
      exact ⟨_, rfl, hown, hr⟩
  · have hO : rdO s a kind n = ⟨rawC s a n, if rawC s a n = 0 then a + n.toNat else a, 0, if rawC s a n = 0 then takeS s a n else ⟨#[]⟩, []⟩ := by
      unfold rdO; rw [if_neg q0, if_neg q1, if_neg q2, if_neg q3, if_neg q6, if_neg q4]
    rw [hO]
    refine (read_raw kind ⟨q0, q1, q2, q3, q4, q6⟩ n r s a (if rawC s a n = 0 then a + n.toNat else a) 0 (rawC s a n) (if rawC s a n = 0 then takeS s a n else ⟨#[]⟩) w h fun W hW => ?_).mono fun e w' hh => full_of hh
    have := Raw_live n r s a W hW ha hs
    rw [← str_if]
    unfold rawC
    by_cases hn : n < 0
    · simp only [if_pos hn] at this ⊢
      exact this
    · simp only [if_neg hn] at this ⊢
      rw [← takeV_eq]
      exact this
theorem full_stopped (kind n : Int) (r : Nat) (s : ByteArray) (a : Nat) (c : Int) (w : World) (h : RdAt w r s a c) (hc : c ≠ 0) :
    Calls Try.prog 21 #[.pointer (some ⟨r, 0, none⟩), .agg #[.int .i64 kind, .int .i64 n]] w (ReadFull w r s ⟨c, a, 0, ⟨#[]⟩, []⟩) :=
  (read_stopped kind n r s a c w h hc).mono fun _ _ hh => full_of hh

theorem rref_live (kind n : Int) (s : ByteArray) (a : Nat) (w : World) (ha : a ≤ s.size) (hs : s.size ≤ 140737488351232) :
    Calls Try.prog 22 #[.agg #[.string s, .int .i64 a, .int .i64 0], .agg #[.int .i64 kind, .int .i64 n]] w (RefItem w s (rdO s a kind n).n (rdO s a kind n).s (rdO s a kind n).l ((rdO s a kind n).k : Nat) (rdO s a kind n).c) := by
  by_cases q0 : kind = 0
  · subst q0
    exact rref_k0 n s a 0 _ _ _ w fun W => rLittle_any s a n W ha hs
  by_cases q1 : kind = 1
  · subst q1
    exact rref_k1 n s a 0 _ _ _ w fun W => rSigned_any s a n W ha hs
  by_cases q2 : kind = 2
  · subst q2
    exact rref_k2 n s a 0 _ _ _ w fun W => rNum_live s a W ha hs
  by_cases q3 : kind = 3
  · subst q3
    exact rref_k3 n s a 0 _ _ _ w fun W => rString_live s a n W ha hs
  by_cases q6 : kind = 6
  · subst q6
    have hO : rdO s a 6 n = ⟨(rdCount s a n).2.1, (rdCount s a n).2.2, (rdCount s a n).1, ⟨#[]⟩, []⟩ := by
      show Out.mk _ _ _ _ _ = _
      by_cases hc : (rdCount s a n).2.1 = 0
      · rw [if_pos hc, if_pos hc]
      · rw [if_neg hc, if_neg hc, (rdCount_err hc).1, (rdCount_err hc).2]
    rw [hO]
    exact rref_k6 n s a 0 _ _ _ w fun W => rCount_live s a n W ha hs
  by_cases q4 : kind = 4
  · subst q4
    exact rref_k4 n s a 0 _ _ _ w fun W => rBits_live s a n W ha hs
  · have hO : rdO s a kind n = ⟨rawC s a n, if rawC s a n = 0 then a + n.toNat else a, 0, if rawC s a n = 0 then takeS s a n else ⟨#[]⟩, []⟩ := by
      unfold rdO; rw [if_neg q0, if_neg q1, if_neg q2, if_neg q3, if_neg q6, if_neg q4]
    rw [hO]
    refine rref_raw kind ⟨q0, q1, q2, q3, q4, q6⟩ n s a 0 _ _ _ w fun W => ?_
    have := rRaw_any s a n W ha hs
    rw [← str_if]
    unfold rawC
    by_cases hn : n < 0
    · simp only [if_pos hn] at this ⊢
      exact this
    · simp only [if_neg hn] at this ⊢
      rw [← takeV_eq]
      have e : (if takeC s a n = 0 then takeV s a n else Value.string ⟨#[]⟩) = takeV s a n := by
        unfold takeC takeV
        by_cases hlt : (s.size : Int) - a < n
        · rw [if_pos hlt, if_pos hlt]; rfl
        · rw [if_neg hlt, if_neg hlt]; rfl
      rw [e]
      exact this
theorem rref_stopped (kind n : Int) (s : ByteArray) (a : Nat) (c : Int) (w : World) (hc : c ≠ 0) :
    Calls Try.prog 22 #[.agg #[.string s, .int .i64 a, .int .i64 c], .agg #[.int .i64 kind, .int .i64 n]] w (RefItem w s 0 ⟨#[]⟩ [] a c) := by
  by_cases q0 : kind = 0
  · subst q0
    exact rref_k0 n s a c _ _ _ w fun W => rLittle_stopped s a c n W hc
  by_cases q1 : kind = 1
  · subst q1
    exact rref_k1 n s a c _ _ _ w fun W => rSigned_stopped s a c n W hc
  by_cases q2 : kind = 2
  · subst q2
    exact rref_k2 n s a c _ _ _ w fun W => rNum_stopped s a c W hc
  by_cases q3 : kind = 3
  · subst q3
    exact rref_k3 n s a c _ _ _ w fun W => rString_stopped s a n c W hc
  by_cases q6 : kind = 6
  · subst q6
    exact rref_k6 n s a c _ _ _ w fun W => rCount_stopped s a n c W hc
  by_cases q4 : kind = 4
  · subst q4
    exact rref_k4 n s a c _ _ _ w fun W => rBits_stopped s a n c W hc
  · exact rref_raw kind ⟨q0, q1, q2, q3, q4, q6⟩ n s a c _ _ _ w fun W => rRaw_stopped s a c n W hc
end Go.Proofs.Yteendimoopmakaa
