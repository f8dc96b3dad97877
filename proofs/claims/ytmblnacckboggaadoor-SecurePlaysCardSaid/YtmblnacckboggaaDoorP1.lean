/- What is taken of bytes that have come: records, as long as they open; plainly. -/
import Derived.Test.YtmblnacckboggaaDoorQ1
namespace Go.Proofs.YtmblnacckboggaaDoor
/-- what is taken of bytes, from a number on: (data, bytes left, next number, the error that ended it) -/
def drain (key : List UInt8) (side : Int) : Nat → Nat → List UInt8 → List UInt8 → List UInt8 × List UInt8 × Nat × Int
  | 0, n, s, out => (out, s, n, (openR key side n s).2.2)
  | k + 1, n, s, out => if (openR key side n s).2.2 = 0 then drain key side k (n + 1) (s.drop (openR key side n s).2.1) (out ++ (openR key side n s).1) else (out, s, n, (openR key side n s).2.2)
theorem good_num {key : List UInt8} {side : Int} (h : badE key side 0 = 0) (n : Nat) : badE key side n = 0 := by
  unfold badE at h ⊢
  split at h
  · cases h
  next h1 =>
  split at h
  · cases h
  next h2 =>
  rw [if_neg h1, if_neg h2, if_neg (by omega)]
theorem open_size {key : List UInt8} {side number : Int} {s : List UInt8} (h : (openR key side number s).2.2 = 0) :
    35 ≤ (openR key side number s).2.1 ∧ (openR key side number s).2.1 ≤ s.length ∧ (openR key side number s).1.length + 34 = (openR key side number s).2.1 ∧ (openR key side number s).2.1 = 34 + lenL s ∧ badE key side number = 0 := by
  unfold openR at h ⊢
  by_cases hb : badE key side number ≠ 0
  · rw [if_pos hb] at h; exact absurd h hb
  rw [if_neg hb] at h ⊢
  by_cases h1 : s.length < 2
  · rw [if_pos h1] at h; cases h
  rw [if_neg h1] at h ⊢
  by_cases h2 : lenL s = 0 ∨ 1024 < lenL s
  · rw [if_pos h2] at h; cases h
  rw [if_neg h2] at h ⊢
  by_cases h3 : s.length < 34 + lenL s
  · rw [if_pos h3] at h; cases h
  rw [if_neg h3] at h ⊢
  by_cases h4 : sealL key side number.toNat (s.take (2 + lenL s)) ≠ (s.take (34 + lenL s)).drop (2 + lenL s)
  · rw [if_pos h4] at h; cases h
  rw [if_neg h4] at h ⊢
  refine ⟨by show 35 ≤ 34 + lenL s; omega, by show 34 + lenL s ≤ s.length; omega, ?_, rfl, by simpa using hb⟩
  show (maskL _ _ _).length + 34 = 34 + lenL s
  rw [maskL_len, List.length_drop, List.length_take]
  omega
theorem open_nil {key : List UInt8} {side : Int} (hb : badE key side 0 = 0) (n : Nat) : openR key side n [] = ([], 0, 16) := by
  unfold openR
  rw [if_neg (by rw [good_num hb]; simp), if_pos (by decide)]
theorem drain_stop {key : List UInt8} {side : Int} {n : Nat} {s : List UInt8} (h : (openR key side n s).2.2 ≠ 0) (k : Nat) (out : List UInt8) : drain key side k n s out = (out, s, n, (openR key side n s).2.2) := by
  cases k with
  | zero => rfl
  | succ k => rw [drain, if_neg h]
theorem drain_step {key : List UInt8} {side : Int} {n : Nat} {s : List UInt8} (h : (openR key side n s).2.2 = 0) {k : Nat} (hk : s.length ≤ k) (out : List UInt8) :
    ∃ k', k = k' + 1 ∧ (s.drop (openR key side n s).2.1).length ≤ k' ∧ drain key side k n s out = drain key side k' (n + 1) (s.drop (openR key side n s).2.1) (out ++ (openR key side n s).1) := by
  have hs := open_size h
  obtain ⟨k', rfl⟩ : ∃ k', k = k' + 1 := ⟨k - 1, by omega⟩
  exact ⟨k', rfl, by rw [List.length_drop]; omega, by rw [drain, if_pos h]⟩
/-- the records of pieces -/
def recsL (key : List UInt8) (side : Int) : Nat → List (List UInt8) → List UInt8
  | _, [] => []
  | n, d :: ds => recL key side n d ++ recsL key side (n + 1) ds
theorem recsL_app (key : List UInt8) (side : Int) (a b : List (List UInt8)) : ∀ n, recsL key side n (a ++ b) = recsL key side n a ++ recsL key side (n + a.length) b := by
  induction a with
  | nil => intro n; rfl
  | cons d a ih =>
    intro n
    show recL key side n d ++ recsL key side (n + 1) (a ++ b) = (recL key side n d ++ recsL key side (n + 1) a) ++ recsL key side (n + (a.length + 1)) b
    rw [ih, List.append_assoc, show n + 1 + a.length = n + (a.length + 1) by omega]
def Good (ds : List (List UInt8)) : Prop := ∀ d ∈ ds, d.length ≠ 0 ∧ d.length ≤ 1024
theorem lenL_app (p r : List UInt8) (h : 2 ≤ p.length) : lenL (p ++ r) = lenL p := by
  unfold lenL
  rw [List.getD_eq_getElem?_getD, List.getD_eq_getElem?_getD, List.getD_eq_getElem?_getD, List.getD_eq_getElem?_getD, List.getElem?_append_left (by omega), List.getElem?_append_left (by omega)]
theorem lenL_rec (key : List UInt8) (side : Int) (n : Nat) (d t : List UInt8) (h : d.length ≤ 1024) : lenL (recL key side n d ++ t) = d.length := by
  unfold recL bodyL
  rw [List.append_assoc, List.append_assoc]
  exact lenL_head _ h _
theorem open_part {key : List UInt8} {side : Int} (hb : badE key side 0 = 0) {n : Nat} {d p r t : List UInt8} (h0 : d.length ≠ 0) (h1 : d.length ≤ 1024) (hp : p ++ r = recL key side n d ++ t) (hl : p.length < 34 + d.length) : openR key side n p = ([], 0, 16) := by
  unfold openR
  rw [if_neg (by rw [good_num hb]; simp)]
  by_cases h2 : p.length < 2
  · rw [if_pos h2]
  have hn : lenL p = d.length := by
    rw [← lenL_app p r (by omega), hp]
    exact lenL_rec _ _ _ _ _ h1
  rw [if_neg h2, hn, if_neg (by omega), if_pos hl]
/-- of the beginning of good records the whole ones are taken -/
theorem drain_whole {key : List UInt8} {side : Int} (hb : badE key side 0 = 0) : ∀ (ds : List (List UInt8)), Good ds → ∀ (n k : Nat) (p q out : List UInt8), p ++ q = recsL key side n ds → p.length ≤ k →
    ∃ t p', t ≤ ds.length ∧ drain key side k n p out = (out ++ (ds.take t).flatten, p', n + t, 16) ∧ p' ++ q = recsL key side (n + t) (ds.drop t) ∧ (q = [] → t = ds.length ∧ p' = []) ∧ (out ++ (ds.take t).flatten = out ↔ t = 0) := by
  intro ds
  induction ds with
  | nil =>
    intro _ n k p q out hp _
    have : p = [] ∧ q = [] := List.append_eq_nil_iff.1 hp
    obtain ⟨rfl, rfl⟩ := this
    refine ⟨0, [], Nat.le_refl _, ?_, rfl, fun _ => ⟨rfl, rfl⟩, by simp⟩
    rw [drain_stop (by rw [open_nil hb]; decide), open_nil hb]
    simp
  | cons d ds ih =>
    intro hg n k p q out hp hk
    have hd := hg d (by simp)
    have hp2 : p ++ q = recL key side n d ++ recsL key side (n + 1) ds := hp
    by_cases hl : p.length < 34 + d.length
    · have ho := open_part hb hd.1 hd.2 hp2 hl
      refine ⟨0, p, Nat.zero_le _, ?_, hp, fun hq => ?_, by simp⟩
      · rw [drain_stop (by rw [ho]; decide), ho]; simp
      · exfalso
        rw [hq, List.append_nil] at hp2
        have := congrArg List.length hp2
        rw [List.length_append, rec_len] at this
        omega
    · obtain ⟨p2, rfl⟩ : ∃ p2, p = recL key side n d ++ p2 := by
        refine ⟨p.drop (34 + d.length), ?_⟩
        have h1 : (p ++ q).take (34 + d.length) = p.take (34 + d.length) := List.take_append_of_le_length (by omega)
        rw [hp2, take_rec] at h1
        rw [h1, List.take_append_drop]
      have hp3 : p2 ++ q = recsL key side (n + 1) ds := by
        rw [List.append_assoc] at hp2
        exact List.append_cancel_left hp2
      have ho := open_rec (key := key) (side := side) (number := (n : Int)) (good_num hb n) hd.1 hd.2 p2
      rw [Int.toNat_natCast] at ho
      obtain ⟨k', hk1, hk2, hk3⟩ := drain_step (key := key) (side := side) (n := n) (s := recL key side n d ++ p2) (by rw [ho]) hk out
      rw [ho] at hk2 hk3
      have hdr : (recL key side n d ++ p2).drop (d.length + 34) = p2 := List.drop_left' (rec_len _ _ _ _)
      simp only [hdr] at hk2 hk3
      obtain ⟨t, p', ht, e1, e2, e3, e4⟩ := ih (fun x hx => hg x (by simp [hx])) (n + 1) k' p2 q (out ++ d) hp3 hk2
      refine ⟨t + 1, p', by simp; omega, ?_, ?_, fun hq => ?_, ?_⟩
      · rw [hk3, e1]
        simp [List.append_assoc, Nat.add_comm, Nat.add_left_comm]
      · rw [e2, List.drop_succ_cons, show n + 1 + t = n + (t + 1) by omega]
      · obtain ⟨a, b⟩ := e3 hq
        exact ⟨by simp [a], b⟩
      · constructor
        · intro h
          rw [List.take_succ_cons, List.flatten_cons] at h
          have := congrArg List.length h
          rw [List.length_append, List.length_append] at this
          have := hd.1
          omega
        · intro h; cases h
/-- whether bytes begin with more records with right seals than the bytes that were sent have in common with them -/
def chanceB (key : List UInt8) (side : Int) : Nat → Nat → List UInt8 → List UInt8 → Bool
  | 0, _, _, _ => false
  | k + 1, n, sent, b => if (openR key side n b).2.2 = 0 then (if b.take (openR key side n b).2.1 <+: sent then chanceB key side k (n + 1) (sent.drop (openR key side n b).2.1) (b.drop (openR key side n b).2.1) else true) else false
theorem drain_chance {key : List UInt8} {side : Int} (hb : badE key side 0 = 0) : ∀ (k : Nat) (ds : List (List UInt8)), Good ds → ∀ (n : Nat) (b out : List UInt8), b.length ≤ k → chanceB key side k n (recsL key side n ds) b = false →
    ∃ t, t ≤ ds.length ∧ (drain key side k n b out).1 = out ++ (ds.take t).flatten := by
  intro k
  induction k with
  | zero =>
    intro ds _ n b out _ _
    exact ⟨0, Nat.zero_le _, by simp [drain]⟩
  | succ k ih =>
    intro ds hg n b out hk hc
    rw [chanceB] at hc
    by_cases ho : (openR key side n b).2.2 = 0
    · rw [if_pos ho] at hc
      by_cases hp : b.take (openR key side n b).2.1 <+: recsL key side n ds
      · rw [if_pos hp] at hc
        obtain ⟨s1, s2, s3, s4, _⟩ := open_size ho
        cases ds with
        | nil =>
          exfalso
          have := hp.length_le
          rw [List.length_take, show (recsL key side n []).length = 0 from rfl] at this
          omega
        | cons d ds =>
          have hd := hg d (by simp)
          obtain ⟨r, hr⟩ := hp
          have hr2 : b.take (openR key side n b).2.1 ++ r = recL key side n d ++ recsL key side (n + 1) ds := hr
          have hlen : lenL b = d.length := by
            have h1 : lenL (b.take (openR key side n b).2.1 ++ b.drop (openR key side n b).2.1) = lenL (b.take (openR key side n b).2.1) := lenL_app _ _ (by rw [List.length_take]; omega)
            rw [List.take_append_drop] at h1
            have h2 : lenL (b.take (openR key side n b).2.1 ++ r) = lenL (b.take (openR key side n b).2.1) := lenL_app _ _ (by rw [List.length_take]; omega)
            rw [h1, ← h2, hr2]
            exact lenL_rec _ _ _ _ _ hd.2
          have hsz : (openR key side n b).2.1 = (recL key side n d).length := by rw [s4, hlen, rec_len]; omega
          have htk : b.take (openR key side n b).2.1 = recL key side n d := by
            have h := congrArg (List.take (openR key side n b).2.1) hr2
            rw [List.take_append_of_le_length (by rw [List.length_take]; omega), List.take_take, Nat.min_self] at h
            rw [h, hsz, List.take_left']
            rfl
          have hbr : b = recL key side n d ++ b.drop (openR key side n b).2.1 := by rw [← htk, List.take_append_drop]
          have hop := open_rec (key := key) (side := side) (number := (n : Int)) (good_num hb n) hd.1 hd.2 (b.drop (openR key side n b).2.1)
          rw [Int.toNat_natCast, ← hbr] at hop
          have hdata : (openR key side n b).1 = d := by rw [hop]
          have hdrop : (recsL key side n (d :: ds)).drop (openR key side n b).2.1 = recsL key side (n + 1) ds := by
            rw [hsz]
            exact List.drop_left' rfl
          rw [hdrop] at hc
          obtain ⟨t, ht, e⟩ := ih ds (fun x hx => hg x (by simp [hx])) (n + 1) (b.drop (openR key side n b).2.1) (out ++ d) (by rw [List.length_drop]; omega) hc
          refine ⟨t + 1, by simp; omega, ?_⟩
          rw [drain, if_pos ho, hdata, e]
          simp [List.append_assoc]
      · rw [if_neg hp] at hc; cases hc
    · refine ⟨0, Nat.zero_le _, ?_⟩
      rw [drain_stop ho]
      simp
/-- the first i pieces of data -/
def piecesN (d : List UInt8) (i : Nat) : List (List UInt8) := (List.range i).map fun j => (d.drop (1024 * j)).take 1024
theorem piecesN_succ (d : List UInt8) (i : Nat) : piecesN d (i + 1) = piecesN d i ++ [(d.drop (1024 * i)).take 1024] := by
  unfold piecesN
  rw [List.range_succ, List.map_append]; rfl
theorem pieces_len (d : List UInt8) (i : Nat) : (piecesN d i).length = i := by simp [piecesN]
theorem pieces_flat (d : List UInt8) (i : Nat) : (piecesN d i).flatten = d.take (1024 * i) := by
  induction i with
  | zero => simp [piecesN]
  | succ i ih => rw [piecesN_succ, List.flatten_append, ih, Nat.mul_succ, List.take_add]; simp
theorem pieces_all (d : List UInt8) : (piecesN d ((d.length + 1023) / 1024)).flatten = d := by
  rw [pieces_flat, List.take_of_length_le (by omega)]
theorem pieces_good (d : List UInt8) (i : Nat) (h : i ≤ (d.length + 1023) / 1024) : Good (piecesN d i) := by
  intro x hx
  unfold piecesN at hx
  rw [List.mem_map] at hx
  obtain ⟨j, hj, rfl⟩ := hx
  rw [List.mem_range] at hj
  rw [List.length_take, List.length_drop]
  omega
end Go.Proofs.YtmblnacckboggaaDoor
