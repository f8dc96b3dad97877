/- SecureWhole: the law's walk. -/
import Derived.Test.YtmblnacckboggaaDoorPB
import Derived.Test.YtmblnacckboggaaDoorQ9
namespace Go.Proofs.YtmblnacckboggaaDoor
open Go.RowKit
def emB : ByteArray := ⟨#[]⟩
/-- a slice of strings -/
def Strs (w : World) (v : Value) (l : List ByteArray) : Prop := (l = [] ∧ ∃ a c, v = .slice a 0 c) ∨
  ∃ b off cap, v = .slice (some ⟨b, off, none⟩) l.length cap ∧ 0 < l.length ∧ l.length ≤ 9223372036854775807 ∧ b < w.heap.size ∧ ∀ i, i < l.length → w.cell? ⟨b, off + i, none⟩ = some (.string (l.getD i emB))
/-- a slice of bytes -/
def U8s (w : World) (v : Value) (l : List UInt8) : Prop := (l = [] ∧ ∃ a c, v = .slice a 0 c) ∨
  ∃ b off cap, v = .slice (some ⟨b, off, none⟩) l.length cap ∧ 0 < l.length ∧ l.length ≤ 9223372036854775807 ∧ b < w.heap.size ∧ ∀ i, i < l.length → w.cell? ⟨b, off + i, none⟩ = some (.int .u8 ((l.getD i 0).toNat : Nat))
theorem Strs.below {w w' : World} {v : Value} {l : List ByteArray} (h : Strs w v l) (hb : Below w.heap.size w w') : Strs w' v l := by
  rcases h with h | ⟨b, off, cap, h1, h2, h3, h4, h5⟩
  · exact .inl h
  · exact .inr ⟨b, off, cap, h1, h2, h3, Nat.lt_of_lt_of_le h4 hb.size, fun i hi => (hb.cell (p := ⟨b, off + i, none⟩) h4).trans (h5 i hi)⟩
theorem U8s.below {w w' : World} {v : Value} {l : List UInt8} (h : U8s w v l) (hb : Below w.heap.size w w') : U8s w' v l := by
  rcases h with h | ⟨b, off, cap, h1, h2, h3, h4, h5⟩
  · exact .inl h
  · exact .inr ⟨b, off, cap, h1, h2, h3, Nat.lt_of_lt_of_le h4 hb.size, fun i hi => (hb.cell (p := ⟨b, off + i, none⟩) h4).trans (h5 i hi)⟩
theorem Strs.form {w : World} {v : Value} {l : List ByteArray} (h : Strs w v l) : ∃ a c, v = .slice a l.length c := by
  rcases h with ⟨rfl, a, c, h⟩ | ⟨b, off, cap, h, _⟩
  · exact ⟨a, c, h⟩
  · exact ⟨_, cap, h⟩
theorem U8s.form {w : World} {v : Value} {l : List UInt8} (h : U8s w v l) : ∃ a c, v = .slice a l.length c := by
  rcases h with ⟨rfl, a, c, h⟩ | ⟨b, off, cap, h, _⟩
  · exact ⟨a, c, h⟩
  · exact ⟨_, cap, h⟩
theorem Strs.at {w : World} {a : Option Addr} {n c : Nat} {l : List ByteArray} (h : Strs w (.slice a n c) l) {i : Nat} (hi : i < l.length) : ∃ b off, a = some ⟨b, off, none⟩ ∧ b < w.heap.size ∧ w.cell? ⟨b, off + i, none⟩ = some (.string (l.getD i emB)) := by
  rcases h with ⟨rfl, _⟩ | ⟨b, off, cap, h1, _, _, h4, h5⟩
  · exact absurd hi (by simp)
  · injection h1 with h1 _ _
    exact ⟨b, off, h1, h4, h5 i hi⟩
theorem U8s.at {w : World} {a : Option Addr} {n c : Nat} {l : List UInt8} (h : U8s w (.slice a n c) l) {i : Nat} (hi : i < l.length) : ∃ b off, a = some ⟨b, off, none⟩ ∧ b < w.heap.size ∧ w.cell? ⟨b, off + i, none⟩ = some (.int .u8 ((l.getD i 0).toNat : Nat)) := by
  rcases h with ⟨rfl, _⟩ | ⟨b, off, cap, h1, _, _, h4, h5⟩
  · exact absurd hi (by simp)
  · injection h1 with h1 _ _
    exact ⟨b, off, h1, h4, h5 i hi⟩
/-- the state after some sends -/
def Sent (w : World) (k : ByteArray) (ds : List ByteArray) (g l0 l1 w0 w1 : Nat) (m : Nat) (A : ByteArray) (wr : World) : Prop :=
  ∃ sends : Int, 0 ≤ sends ∧ sends ≤ m ∧ A.data.toList = allD (ds.take m) ∧ (∀ d ∈ ds.take m, d.size ≤ 2500) ∧
    En wr w.heap.size g l0 l1 w0 w1 (lkS k (allPs (ds.take m)).length) (lkO k 2) ⟨⟨(recsL (keyL k) 1 0 (allPs (ds.take m))).toArray⟩, sends, 0, ⟨#[]⟩, 0⟩ zWi (lkO k 1) (lkO k 2) ⟨#[]⟩ ⟨#[]⟩ ∧ Below w.heap.size w wr
theorem take_snoc (ds : List ByteArray) (m : Nat) (h : m < ds.length) : ds.take (m + 1) = ds.take m ++ [ds.getD m emB] := by
  rw [List.take_succ_eq_append_getElem h, List.getD_eq_getElem?_getD, List.getElem?_eq_getElem h]; rfl
theorem sent_next {w : World} {k : ByteArray} {ds : List ByteArray} {g l0 l1 w0 w1 m : Nat} {A : ByteArray} {wr : World} (h : Sent w k ds g l0 l1 w0 w1 m A wr) (hm : m < ds.length) (hd : (ds.getD m emB).size ≤ 2500) (hm2 : m ≤ 20) (hB : 2 < w.heap.size) (hT : Tabs w) :
    Calls Tryd.prog 14 #[.pointer (some ⟨l0, 0, none⟩), .string (ds.getD m emB)] wr fun e w' => e = .returned (.int .i64 0) ∧ Sent w k ds g l0 l1 w0 w1 (m + 1) (A ++ ds.getD m emB) w' := by
  obtain ⟨sends, s1, s2, hA, hsm, hE, hb⟩ := h
  obtain ⟨f1, f2⟩ := allPs_few _ hsm
  have hlen : (ds.take m).length ≤ m := List.length_take_le _ _
  have hr : (⟨(recsL (keyL k) 1 0 (allPs (ds.take m))).toArray⟩ : ByteArray).size ≤ 1000000 := by
    rw [str_size, recsL_len, allPs_flat]
    omega
  refine (send_en k _ (ds.getD m emB) _ sends wr w.heap.size g l0 l1 w0 w1 _ _ _ _ _ _ hE (by omega) hd hr s1 (by omega) hB (hT.keep hb)).mono ?_
  rintro e w' ⟨rfl, hE', hb'⟩
  refine ⟨rfl, if (ds.getD m emB).size = 0 then sends else sends + 1, by split <;> omega, by split <;> omega, ?_, ?_, ?_, hb.trans hb'⟩
  · rw [ap_list, take_snoc ds m hm, allD_snoc, hA]
  · intro d hdm
    rw [take_snoc ds m hm] at hdm
    rcases List.mem_append.1 hdm with h | h
    · exact hsm d h
    · rw [List.mem_singleton.1 h]; exact hd
  · rw [take_snoc ds m hm, allPs_snoc, List.length_append, pieces_len, recsL_app]
    have e : (⟨(recsL (keyL k) 1 0 (allPs (ds.take m))).toArray⟩ : ByteArray) ++ ⟨(recsL (keyL k) 1 (allPs (ds.take m)).length (piecesN (ds.getD m emB).data.toList (cntL (ds.getD m emB).size))).toArray⟩ = ⟨(recsL (keyL k) 1 0 (allPs (ds.take m)) ++ recsL (keyL k) 1 (0 + (allPs (ds.take m)).length) (piecesN (ds.getD m emB).data.toList (cntL (ds.getD m emB).size))).toArray⟩ := bytes_inj (by rw [ap_list, Nat.zero_add])
    rw [← e]
    exact hE'
/-- the state while what was sent is received: C has come to the wire, W is on its way, G was got -/
def Recd (w : World) (k : ByteArray) (ds : List ByteArray) (g l0 l1 w0 w1 : Nat) (C W G : ByteArray) (wr : World) : Prop :=
  ∃ (t : Nat) (left : ByteArray) (L0 : Lk) (X0 : Wi) (X1 : Wi), t ≤ (allPs ds).length ∧ G.data.toList = ((allPs ds).take t).flatten ∧ (left.data.toList ++ C.data.toList) ++ W.data.toList = recsL (keyL k) 1 t ((allPs ds).drop t) ∧
    (C.data.toList = [] → W.data.toList = [] → t = (allPs ds).length ∧ left.data.toList = []) ∧ X1.err = 0 ∧ X1.come = C ∧
    En wr w.heap.size g l0 l1 w0 w1 L0 ⟨keyB k, 2, 0, t, left, false⟩ X0 X1 (lkO k 1) (lkO k 2) ⟨#[]⟩ ⟨#[]⟩ ∧ Below w.heap.size w wr
theorem good_drop {ps : List (List UInt8)} (h : Good ps) (t : Nat) : Good (ps.drop t) := fun x hx => h x (List.mem_of_mem_drop hx)
theorem drop_len (k : ByteArray) (ds : List ByteArray) (h : ∀ d ∈ ds, d.size ≤ 2500) (t : Nat) : (recsL (keyL k) 1 t ((allPs ds).drop t)).length ≤ 34 * (3 * ds.length) + 2500 * ds.length := by
  obtain ⟨a, b⟩ := allPs_few ds h
  rw [recsL_len]
  have h1 : ((allPs ds).drop t).length ≤ (allPs ds).length := by rw [List.length_drop]; omega
  have h2 : ((allPs ds).take t).flatten ++ ((allPs ds).drop t).flatten = allD ds := by rw [← List.flatten_append, List.take_append_drop, allPs_flat]
  have h3 := congrArg List.length h2
  rw [List.length_append] at h3
  omega
theorem recv_plain (key : ByteArray) (side sent : Int) (taken : Nat) (left : ByteArray) (x : Wi) (hx : x.err = 0) : recvR ⟨key, side, sent, taken, left, false⟩ (comeR x).1 (comeR x).2 =
    (if (drain key.data.toList (3 - side) (left ++ x.come).size taken (left ++ x.come).data.toList []).1 = [] then (⟨#[]⟩, if (drain key.data.toList (3 - side) (left ++ x.come).size taken (left ++ x.come).data.toList []).2.2.2 ≠ 16 then 28 else 36) else (⟨(drain key.data.toList (3 - side) (left ++ x.come).size taken (left ++ x.come).data.toList []).1.toArray⟩, 0), ⟨key, side, sent, (drain key.data.toList (3 - side) (left ++ x.come).size taken (left ++ x.come).data.toList []).2.2.1, if (drain key.data.toList (3 - side) (left ++ x.come).size taken (left ++ x.come).data.toList []).2.2.2 ≠ 16 then ⟨#[]⟩ else ⟨(drain key.data.toList (3 - side) (left ++ x.come).size taken (left ++ x.come).data.toList []).2.1.toArray⟩, decide ((drain key.data.toList (3 - side) (left ++ x.come).size taken (left ++ x.come).data.toList []).2.2.2 ≠ 16)⟩) := by
  unfold comeR
  rw [if_neg (by simp [hx])]
  by_cases h0 : x.come.size = 0
  · rw [if_pos h0]
    have hc : left ++ x.come = left := bytes_inj (by rw [ap_list, show x.come.data.toList = [] from List.eq_nil_of_length_eq_zero (by rw [bytes_len]; exact h0), List.append_nil])
    rw [hc]
    unfold recvR
    simp
  · rw [if_neg h0]
    unfold recvR
    simp
theorem recd_receive {w : World} {k : ByteArray} {ds : List ByteArray} {g l0 l1 w0 w1 : Nat} {C W G : ByteArray} {wr : World} (h : Recd w k ds g l0 l1 w0 w1 C W G wr) (hds : ∀ d ∈ ds, d.size ≤ 2500) (hn : ds.length ≤ 10) (hB : 2 < w.heap.size) (hT : Tabs w) :
    Calls Tryd.prog 15 #[.pointer (some ⟨l1, 0, none⟩)] wr fun e w' => ∃ (s : ByteArray) (er : Int), e = .returned (.tuple #[.string s, .int .i64 er]) ∧ (er = 0 ∨ er = 36 ∧ s = ⟨#[]⟩) ∧ (C.data.toList = [] → W.data.toList = [] → er = 36 ∧ s = ⟨#[]⟩) ∧ Recd w k ds g l0 l1 w0 w1 ⟨#[]⟩ W (G ++ s) w' := by
  obtain ⟨t, left, L0, X0, X1, ht, hG, hrec, hend, he, hc, hE, hb⟩ := h
  have hkl : (keyB k).data.toList = keyL k := rfl
  obtain ⟨f1, _⟩ := allPs_few ds hds
  have hrl := drop_len k ds hds t
  rw [← hrec, List.length_append, List.length_append, bytes_len, bytes_len, bytes_len] at hrl
  obtain ⟨t', p', ht', e1, e2, e3, e4⟩ := drain_whole (key := keyL k) (side := 1) (keyB_ok k 1 (.inl rfl)) ((allPs ds).drop t) (good_drop (allPs_good ds) t) t (left ++ C).size (left ++ C).data.toList W.data.toList [] (by rw [ap_list]; exact hrec) (by rw [bytes_len]; exact Nat.le_refl _)
  have hcs : (comeR X1).1.size ≤ C.size := by
    unfold comeR
    rw [← hc]
    split
    · exact Nat.zero_le _
    split
    · exact Nat.zero_le _
    · exact Nat.le_refl _
  have o0 := hE.o0
  have o1 := hE.o1
  have o2 := hE.o2
  have o3 := hE.o3
  have ob := hE.base
  have hgw := hE.blk.lt
  refine (receive_any l1 w1 ⟨keyB k, 2, 0, t, left, false⟩ t 0 ⟨keyB_ok k 2 (.inr rfl), rfl, rfl⟩ (by omega) X1 (by simp only; omega) (by omega) wr hE.k1 hE.x1 (hT.keep hb) (by omega) (by omega)).mono ?_
  rintro e w' ⟨rfl, hL, hW, hT2⟩
  rw [recv_plain (keyB k) 2 0 t left X1 he, hc, hkl, show (3 : Int) - 2 = 1 from rfl, e1] at hL ⊢
  simp only [List.nil_append, ne_eq, not_true_eq_false, if_false, decide_false] at hL ⊢
  have hfin : ∀ s : ByteArray, s.data.toList = (((allPs ds).drop t).take t').flatten → Recd w k ds g l0 l1 w0 w1 ⟨#[]⟩ W (G ++ s) w' := by
    intro s hs
    refine ⟨t + t', ⟨p'.toArray⟩, L0, X0, wiAft ⟨keyB k, 2, 0, t, left, false⟩ X1, by rw [List.length_drop] at ht'; omega, ?_, ?_, ?_, ?_, ?_, ⟨ob, o0, o1, o2, o3, hT2.blk hE.blk (by omega) (by omega), hT2.blk hE.k0 (by omega) (by omega), hL, hT2.blk hE.x0 (by omega) (by omega), hW⟩, hT2.belowB hb (by have := hb.size; omega) (by omega) (by omega)⟩
    · rw [ap_list, hG, hs, List.take_add, List.flatten_append]
    · rw [← List.drop_drop, ← e2]
      simp
    · intro _ h
      obtain ⟨a, b⟩ := e3 h
      exact ⟨by rw [a, List.length_drop]; omega, b⟩
    · show (comeX X1).err = 0
      unfold comeX
      rw [if_neg (by simp [he])]
      exact he
    · show (comeX X1).come = _
      unfold comeX
      rw [if_neg (by simp [he])]
  by_cases h0 : (((allPs ds).drop t).take t').flatten = []
  · refine ⟨⟨#[]⟩, 36, by rw [if_pos h0], .inr ⟨rfl, rfl⟩, fun _ _ => ⟨rfl, rfl⟩, hfin _ (by rw [h0])⟩
  · refine ⟨⟨(((allPs ds).drop t).take t').flatten.toArray⟩, 0, by rw [if_neg h0], .inl rfl, fun h1 h2 => ?_, hfin _ rfl⟩
    exfalso
    obtain ⟨a, _⟩ := hend h1 h2
    apply h0
    rw [a, List.drop_length]
    simp
theorem Recd.en {w : World} {k : ByteArray} {ds : List ByteArray} {g l0 l1 w0 w1 : Nat} {C W G : ByteArray} {wr : World} (h : Recd w k ds g l0 l1 w0 w1 C W G wr) : ∃ t left L0 X0 X1, X1.err = 0 ∧ X1.come = C ∧ En wr w.heap.size g l0 l1 w0 w1 L0 ⟨keyB k, 2, 0, t, left, false⟩ X0 X1 (lkO k 1) (lkO k 2) ⟨#[]⟩ ⟨#[]⟩ ∧ Below w.heap.size w wr := by
  obtain ⟨t, left, L0, X0, X1, _, _, _, _, he, hc, hE, hb⟩ := h
  exact ⟨t, left, L0, X0, X1, he, hc, hE, hb⟩
theorem Recd.below {w : World} {k : ByteArray} {ds : List ByteArray} {g l0 l1 w0 w1 : Nat} {C W G : ByteArray} {wr : World} (h : Recd w k ds g l0 l1 w0 w1 C W G wr) : Below w.heap.size w wr := by
  obtain ⟨_, _, _, _, _, _, _, _, hb⟩ := h.en
  exact hb
theorem Recd.c1 {w : World} {k : ByteArray} {ds : List ByteArray} {g l0 l1 w0 w1 : Nat} {C W G : ByteArray} {wr : World} (h : Recd w k ds g l0 l1 w0 w1 C W G wr) : wr.cell? ⟨g, 1, none⟩ = some (.pointer (some ⟨l1, 0, none⟩)) := by
  obtain ⟨_, _, _, _, _, _, _, hE, _⟩ := h.en
  exact hE.blk.cell 1
theorem Recd.c3 {w : World} {k : ByteArray} {ds : List ByteArray} {g l0 l1 w0 w1 : Nat} {C W G : ByteArray} {wr : World} (h : Recd w k ds g l0 l1 w0 w1 C W G wr) : wr.cell? ⟨g, 3, none⟩ = some (.pointer (some ⟨w1, 0, none⟩)) := by
  obtain ⟨_, _, _, _, _, _, _, hE, _⟩ := h.en
  exact hE.blk.cell 3
theorem Recd.come3 {w : World} {k : ByteArray} {ds : List ByteArray} {g l0 l1 w0 w1 : Nat} {C W G : ByteArray} {wr : World} (h : Recd w k ds g l0 l1 w0 w1 C W G wr) : wr.cell? ⟨w1, 3, none⟩ = some (.string C) := by
  obtain ⟨_, _, _, _, _, _, rfl, hE, _⟩ := h.en
  exact hE.x1.cell 3
theorem Recd.froz {w : World} {k : ByteArray} {ds : List ByteArray} {g l0 l1 w0 w1 : Nat} {C W G : ByteArray} {wr : World} (h : Recd w k ds g l0 l1 w0 w1 C W G wr) (j : Nat) : wr.frozen? ⟨w1, j, none⟩ = false := by
  obtain ⟨_, _, _, _, _, _, _, hE, _⟩ := h.en
  exact hE.x1.frozen j
theorem Recd.ended {w : World} {k : ByteArray} {ds : List ByteArray} {g l0 l1 w0 w1 : Nat} {C W G : ByteArray} {wr : World} (h : Recd w k ds g l0 l1 w0 w1 C W G wr) : Calls Tryd.prog 16 #[.pointer (some ⟨l1, 0, none⟩)] wr fun e w' => e = .returned (.bool false) ∧ wr = w' := by
  obtain ⟨t, left, _, _, _, _, _, hE, _⟩ := h.en
  exact ended_any l1 w1 ⟨keyB k, 2, 0, t, left, false⟩ wr hE.k1
theorem Recd.small {w : World} {k : ByteArray} {ds : List ByteArray} {g l0 l1 w0 w1 : Nat} {C W G : ByteArray} {wr : World} (h : Recd w k ds g l0 l1 w0 w1 C W G wr) (hds : ∀ d ∈ ds, d.size ≤ 2500) (hn : ds.length ≤ 10) : G.size ≤ 100000 := by
  obtain ⟨t, left, L0, X0, X1, _, hG, _⟩ := h
  obtain ⟨_, b⟩ := allPs_few ds hds
  have h2 : ((allPs ds).take t).flatten ++ ((allPs ds).drop t).flatten = allD ds := by rw [← List.flatten_append, List.take_append_drop, allPs_flat]
  have h3 := congrArg List.length h2
  rw [List.length_append] at h3
  rw [← bytes_len, hG]
  omega
theorem Recd.got {w : World} {k : ByteArray} {ds : List ByteArray} {g l0 l1 w0 w1 : Nat} {G : ByteArray} {wr : World} (h : Recd w k ds g l0 l1 w0 w1 ⟨#[]⟩ ⟨#[]⟩ G wr) : G.data.toList = allD ds := by
  obtain ⟨t, left, L0, X0, X1, _, hG, _, he, _⟩ := h
  obtain ⟨rfl, _⟩ := he rfl rfl
  rw [hG, List.take_length, allPs_flat]
theorem Recd.put {w : World} {k : ByteArray} {ds : List ByteArray} {g l0 l1 w0 w1 : Nat} {W G : ByteArray} {wr : World} (h : Recd w k ds g l0 l1 w0 w1 ⟨#[]⟩ W G wr) (n : Nat) (n2 : n ≤ W.size) (n1 : 0 < n) : Recd w k ds g l0 l1 w0 w1 (W.extract 0 n) (W.extract n W.size) G ((wr.setCell ⟨w1, 3, none⟩ (.string (W.extract 0 n))).drew) := by
  obtain ⟨t, left, L0, X0, X1, ht, hG, hrec, hend, he, hc, hE, hb⟩ := h
  obtain ⟨a1, a2, a3, a4, a5⟩ := X1
  simp only at he hc
  have o0 := hE.o0
  have o1 := hE.o1
  have o2 := hE.o2
  have o3 := hE.o3
  have ob := hE.base
  refine ⟨t, left, L0, X0, ⟨a1, a2, a3, W.extract 0 n, a5⟩, ht, hG, ?_, fun h1 _ => ?_, he, rfl, ⟨ob, o0, o1, o2, o3, hE.blk.far (p := ⟨w1, 3, none⟩) (by simp only; omega) _, hE.k0.far (p := ⟨w1, 3, none⟩) (by simp only; omega) _, hE.k1.far (p := ⟨w1, 3, none⟩) (by simp only; omega) _, hE.x0.far (p := ⟨w1, 3, none⟩) (by simp only; omega) _, hE.x1.set_ 3 _⟩, (hb.setCell (by simp only; omega) _).drew⟩
  · rw [← hrec, ex_take, ex_drop, List.append_assoc, List.take_append_drop]
    simp
  · exfalso
    rw [ex_take] at h1
    have : min n W.size = 0 := by rw [← bytes_len, ← List.length_take, h1]; rfl
    omega
theorem ext_all (W : ByteArray) : W.extract 0 W.size = W := bytes_inj (by rw [ex_take, List.take_of_length_le (by rw [bytes_len]; exact Nat.le_refl _)])
theorem ext_none (W : ByteArray) : W.extract W.size W.size = ⟨#[]⟩ := bytes_inj (by rw [ex_drop, List.drop_of_length_le (by rw [bytes_len]; exact Nat.le_refl _)])
theorem Sent.recd {w : World} {k : ByteArray} {ds : List ByteArray} {g l0 l1 w0 w1 : Nat} {A : ByteArray} {wr : World} (h : Sent w k ds g l0 l1 w0 w1 ds.length A wr) : Recd w k ds g l0 l1 w0 w1 ⟨#[]⟩ ⟨(recsL (keyL k) 1 0 (allPs ds)).toArray⟩ ⟨#[]⟩ wr := by
  obtain ⟨sends, s1, s2, hA, hsm, hE, hb⟩ := h
  rw [List.take_length] at hE
  exact ⟨0, ⟨#[]⟩, _, _, zWi, Nat.zero_le _, rfl, by simp, fun _ h2 => by
    have : allPs ds = [] := recsL_nil h2
    rw [this]; exact ⟨rfl, rfl⟩, rfl, rfl, hE, hb⟩
theorem Sent.all {w : World} {k : ByteArray} {ds : List ByteArray} {g l0 l1 w0 w1 : Nat} {A : ByteArray} {wr : World} (h : Sent w k ds g l0 l1 w0 w1 ds.length A wr) : A.data.toList = allD ds ∧ ∀ d ∈ ds, d.size ≤ 2500 := by
  obtain ⟨sends, s1, s2, hA, hsm, hE, hb⟩ := h
  rw [List.take_length] at hA hsm
  exact ⟨hA, hsm⟩
theorem Sent.len {w : World} {k : ByteArray} {ds : List ByteArray} {g l0 l1 w0 w1 m : Nat} {A : ByteArray} {wr : World} (h : Sent w k ds g l0 l1 w0 w1 m A wr) : A.size ≤ 2500 * m ∧ Below w.heap.size w wr ∧ wr.cell? ⟨g, 0, none⟩ = some (.pointer (some ⟨l0, 0, none⟩)) ∧ wr.cell? ⟨g, 2, none⟩ = some (.pointer (some ⟨w0, 0, none⟩)) ∧ wr.cell? ⟨w0, 0, none⟩ = some (.string ⟨(recsL (keyL k) 1 0 (allPs (ds.take m))).toArray⟩) := by
  obtain ⟨sends, s1, s2, hA, hsm, hE, hb⟩ := h
  obtain ⟨_, b⟩ := allPs_few _ hsm
  have hl : (ds.take m).length ≤ m := List.length_take_le _ _
  refine ⟨?_, hb, hE.blk.cell 0, hE.blk.cell 2, hE.x0.cell 0⟩
  rw [← bytes_len, hA]
  omega
theorem Recd.waysize {w : World} {k : ByteArray} {ds : List ByteArray} {g l0 l1 w0 w1 : Nat} {C W G : ByteArray} {wr : World} (h : Recd w k ds g l0 l1 w0 w1 C W G wr) (hds : ∀ d ∈ ds, d.size ≤ 2500) (hn : ds.length ≤ 10) : W.size ≤ 100000 := by
  obtain ⟨t, left, L0, X0, X1, _, hG, hrec, _⟩ := h
  have := drop_len k ds hds t
  rw [← hrec, List.length_append, bytes_len] at this
  omega
set_option maxRecDepth 100000 in
set_option maxHeartbeats 6400000 in
theorem whole_ok (k : ByteArray) (sa ca : Option Addr) (sc cc : Nat) (ds : List ByteArray) (cs : List UInt8) (hk : k.size ≤ 200000000000000) (hds : ds.length ≤ 10) (hcs : cs.length ≤ 200) (w : World) (hS : Strs w (.slice sa ds.length sc) ds) (hC : U8s w (.slice ca cs.length cc) cs) (hT : Tabs w) :
    Calls Tryd.prog 4 #[.string k, .slice sa ds.length sc, .slice ca cs.length cc] w fun e w' => e = .returned (.bool true) ∧ Below w.heap.size w w' := by
  have CA := Lib.hid (awake_any w hT)
  have CO := Lib.hid (fun W => open_two k hk W)
  have hB2 := hT.big
  have HT := Lib.hid hT
  have HS := Lib.hid hS
  have HC := Lib.hid hC
  have d1 : decide ((10 : Int) < ds.length) = false := decide_eq_false (by omega)
  have d2 : decide ((200 : Int) < cs.length) = false := decide_eq_false (by omega)
  clear hS hC hT hk
  go_enter Tryd.func4, Tryd.ntmps4
  go_wp2_with (first
    | (go_at_call 8; refine (CA.out).mono ?_; rintro e v1 ⟨rfl, hb1⟩; have B1 := Lib.hid hb1; clear hb1)
    | (go_at_call 13; refine (CO.out _).mono ?_; rintro e v2 ⟨g, l0, l1, w0, w1, rfl, hE2, hb2⟩; have E2 := Lib.hid (show En v2 w.heap.size g l0 l1 w0 w1 (lkO k 1) (lkO k 2) zWi zWi (lkO k 1) (lkO k 2) ⟨#[]⟩ ⟨#[]⟩ from ⟨Nat.le_trans B1.out.size hE2.base, hE2.o0, hE2.o1, hE2.o2, hE2.o3, hE2.blk, hE2.k0, hE2.k1, hE2.x0, hE2.x1⟩); have B2 := Lib.hid (keepBelow B1.out hb2); clear hE2 hb2))
  go_loopg [8, 35] ds.length (fun k' av iv wr => ∃ (m : Nat) (A : ByteArray), m + k' = ds.length ∧ av = .string A ∧ iv = .int .i64 m ∧ Sent w k ds g l0 l1 w0 w1 m A wr)
  case atStart => exact ⟨0, ⟨#[]⟩, by omega, rfl, rfl, 0, Int.le_refl _, Int.le_refl _, rfl, by simp, E2.out, B2.out⟩
  case round =>
    obtain ⟨m, A, hm, rfl, rfl, hSent⟩ := hrel
    have HSE := Lib.hid hSent
    obtain ⟨hA, hb, c0, c2, c3⟩ := hSent.len
    have HB := Lib.hid hb
    clear hb hSent CO CA E2 B2 B1
    by_cases hlt : m < ds.length
    · obtain ⟨sb, so, hsa, hsb, hcell⟩ := (HS.out.below HB.out).at hlt
      obtain ⟨s, hs⟩ : ∃ s, s = ds.getD m emB := ⟨_, rfl⟩
      rw [← hs] at hcell
      have HSG := Lib.hid hs
      subst hsa
      have i0 : (m : Int) < ds.length := by omega
      have i0' : (0 : Int) ≤ m := by omega
      clear hs c2 c3
      by_cases h25 : s.size ≤ 2500
      · have d3 : decide ((2500 : Int) < s.size) = false := decide_eq_false (by omega)
        have CS := Lib.hid (sent_next HSE.out hlt (by rw [← HSG.out]; exact h25) (by omega) hB2 HT.out)
        rw [← HSG.out] at CS
        have c1 : ¬ 9223372036854775807 < A.size + s.size := by omega
        have ei : IntKind.i64.wrap ((m : Int) + 1) = (m : Int) + 1 := IntWalk.i64_in _ (by omega)
        go_wp2_with (go_at_call 14; refine (CS.out).mono ?_; rintro e v3 ⟨rfl, h3⟩; have S3 := Lib.hid h3; clear h3)
        go_roundg (gk - 1)
        case measure => omega
        case rel => exact ⟨m + 1, A ++ s, by omega, rfl, by go_num, S3.out⟩
      · have d3 : (2500 : Int) < s.size := by omega
        clear h25
        go_wp2_with fail
        go_ret
        exact ⟨rfl, HB.out⟩
    · obtain rfl : m = ds.length := by omega
      obtain ⟨hAll, hds2⟩ := HSE.out.all
      have HDS := Lib.hid hds2
      have HAL := Lib.hid hAll
      have R0 := Lib.hid HSE.out.recd
      rw [List.take_length] at c3
      obtain ⟨W0, hW0⟩ : ∃ W0 : ByteArray, W0 = ⟨(recsL (keyL k) 1 0 (allPs ds)).toArray⟩ := ⟨_, rfl⟩
      rw [← hW0] at R0 c3
      have hws := R0.out.waysize HDS.out hds
      obtain ⟨wo, rfl⟩ : ∃ wo : World, wo = wr := ⟨_, rfl⟩
      clear hlt hds2 hAll hW0 c0 hm
      go_wp2_with fail
      go_loopg [11, 12, 13] W0.size (fun k' wv gv iv wr => ∃ (m : Nat) (W G : ByteArray), wv = .string W ∧ gv = .string G ∧ iv = .int .i64 m ∧ W.size ≤ k' ∧ m + W.size ≤ W0.size ∧ Recd w k ds g l0 l1 w0 w1 ⟨#[]⟩ W G wr)
      case atStart => exact ⟨0, W0, ⟨#[]⟩, rfl, rfl, rfl, Nat.le_refl _, by omega, R0.out⟩
      case round =>
      obtain ⟨m, W, G, rfl, rfl, rfl, hWk, hmW, hR⟩ := hrel
      have HR := Lib.hid hR
      clear hR c2 c3 R0 HSE
      by_cases hW0' : W.size = 0
      · have hWe : W = ⟨#[]⟩ := ByteArray.size_eq_zero_iff.1 hW0'
        subst hWe
        have hG : G = A := bytes_inj (by rw [HR.out.got, HAL.out])
        subst hG
        have p1 : wr.cell? ⟨g, 1, none⟩ = some (.pointer (some ⟨l1, 0, none⟩)) := HR.out.c1
        clear hW0'
        go_wp2_with (first
          | (go_at_call 15; refine (recd_receive HR.out HDS.out hds hB2 HT.out).mono ?_; rintro e v5 ⟨s, er, rfl, _, hfe, hR5⟩; obtain ⟨rfl, rfl⟩ := hfe rfl rfl; have R5 := Lib.hid hR5; have p1' : v5.cell? ⟨g, 1, none⟩ = some (.pointer (some ⟨l1, 0, none⟩)) := hR5.c1; clear hR5)
          | (go_at_call 16; refine (R5.out.ended).mono ?_; rintro e v6 ⟨rfl, rfl⟩))
        go_ret
        exact ⟨rfl, R5.out.below⟩
      · have e1 := not_empty hW0'
        have e2 := not_nil hW0'
        have im : (0 : Int) ≤ m := by omega
        by_cases hmc : m < cs.length
        · obtain ⟨cb, co, hca, hcb, hccell⟩ := (HC.out.below HR.out.below).at hmc
          obtain ⟨c, hc⟩ : ∃ c : UInt8, c = cs.getD m 0 := ⟨_, rfl⟩
          rw [← hc] at hccell
          have hclt := c.toNat_lt
          subst hca
          obtain ⟨n, hn⟩ : ∃ n : Nat, n = min W.size (1 + c.toNat) := ⟨_, rfl⟩
          have n1 : 0 < n := by omega
          have n2 : n ≤ W.size := by omega
          have mm : min (W.size : Int) (1 + (c.toNat : Int)) = (n : Int) := by omega
          have mm2 : IntKind.i64.wrap (1 + (c.toNat : Int)) = 1 + (c.toNat : Int) := IntWalk.i64_in _ (by omega)
          have n3 : (n : Int) ≤ W.size := by omega
          have n4 : (0 : Int) ≤ n := by omega
          have i1 : (m : Int) < cs.length := by omega
          clear hn hc hmc hW0'
          go_upto_region 25 with fail
          have p3 : wr.cell? ⟨g, 3, none⟩ = some (.pointer (some ⟨w1, 0, none⟩)) := HR.out.c3
          have x3 : wr.cell? ⟨w1, 3, none⟩ = some (.string ⟨#[]⟩) := HR.out.come3
          have f3 := HR.out.froz 3
          go_cut [11] (fun c wx => c = .string (W.extract n W.size) ∧ Recd w k ds g l0 l1 w0 w1 (W.extract 0 n) (W.extract n W.size) G wx)
          case first =>
            go_region
            all_goals
              go_wp2_with fail
              go_meet
              exact ⟨rfl, HR.out.put n n2 n1⟩
          case rest =>
            obtain ⟨rfl, hR2⟩ := hcut
            have R2 := Lib.hid hR2
            clear hR2 p3 x3 f3
            have p1 : wc.cell? ⟨g, 1, none⟩ = some (.pointer (some ⟨l1, 0, none⟩)) := R2.out.c1
            go_upto_region 27 with (go_at_call 15; refine (recd_receive R2.out HDS.out hds hB2 HT.out).mono ?_; rintro e v5 ⟨s, er, rfl, hor, _, hR5⟩; have R5 := Lib.hid hR5; clear hR5)
            have hGs : (G ++ s).size ≤ 100000 := R5.out.small HDS.out hds
            have c1 : ¬ 9223372036854775807 < G.size + s.size := by rw [ByteArray.size_append] at hGs; omega
            have ei : IntKind.i64.wrap ((m : Int) + 1) = (m : Int) + 1 := IntWalk.i64_in _ (by omega)
            clear hGs
            rcases hor with rfl | ⟨rfl, rfl⟩
            all_goals
              go_wp2_with fail
              go_roundg (gk - 1)
              case measure => omega
              case rel => exact ⟨m + 1, W.extract n W.size, _, rfl, rfl, by go_num, by rw [ByteArray.size_extract]; omega, by rw [ByteArray.size_extract]; omega, R5.out⟩
        · obtain ⟨n, hn⟩ : ∃ n : Nat, n = W.size := ⟨_, rfl⟩
          have n1 : 0 < n := by omega
          have n2 : n ≤ W.size := by omega
          have n5 : (W.size : Int) = (n : Int) := by omega
          have n3 : (n : Int) ≤ W.size := by omega
          have n4 : (0 : Int) ≤ n := by omega
          have i1 : decide ((m : Int) < cs.length) = false := decide_eq_false (by omega)
          have i2 : ¬ (m : Int) < cs.length := by omega
          clear hmc hW0'
          subst hn
          go_upto_region 25 with fail
          have p3 : wr.cell? ⟨g, 3, none⟩ = some (.pointer (some ⟨w1, 0, none⟩)) := HR.out.c3
          have x3 : wr.cell? ⟨w1, 3, none⟩ = some (.string ⟨#[]⟩) := HR.out.come3
          have f3 := HR.out.froz 3
          go_cut [11] (fun c wx => c = .string (⟨#[]⟩) ∧ Recd w k ds g l0 l1 w0 w1 (W) (⟨#[]⟩) G wx)
          case first =>
            go_region
            all_goals
              go_wp2_with fail
              go_meet
              exact ⟨rfl, by have := HR.out.put W.size n2 n1; rw [ext_all, ext_none] at this; exact this⟩
          case rest =>
            obtain ⟨rfl, hR2⟩ := hcut
            have R2 := Lib.hid hR2
            clear hR2 p3 x3 f3
            have p1 : wc.cell? ⟨g, 1, none⟩ = some (.pointer (some ⟨l1, 0, none⟩)) := R2.out.c1
            go_upto_region 27 with (go_at_call 15; refine (recd_receive R2.out HDS.out hds hB2 HT.out).mono ?_; rintro e v5 ⟨s, er, rfl, hor, _, hR5⟩; have R5 := Lib.hid hR5; clear hR5)
            have hGs : (G ++ s).size ≤ 100000 := R5.out.small HDS.out hds
            have c1 : ¬ 9223372036854775807 < G.size + s.size := by rw [ByteArray.size_append] at hGs; omega
            have ei : IntKind.i64.wrap ((m : Int) + 1) = (m : Int) + 1 := IntWalk.i64_in _ (by omega)
            clear hGs
            rcases hor with rfl | ⟨rfl, rfl⟩
            all_goals
              go_wp2_with fail
              go_roundg (gk - 1)
              case measure => omega
              case rel => exact ⟨m + 1, ⟨#[]⟩, _, rfl, rfl, by go_num, by show 0 ≤ _; omega, by show m + 1 + 0 ≤ _; omega, R5.out⟩
set_option maxRecDepth 100000 in
set_option maxHeartbeats 1600000 in
theorem whole_many (k : ByteArray) (sa ca : Option Addr) (sc cc : Nat) (ds : List ByteArray) (cs : List UInt8) (hk : k.size ≤ 200000000000000) (hds : ¬ ds.length ≤ 10) (w : World) (hT : Tabs w) :
    Calls Tryd.prog 4 #[.string k, .slice sa ds.length sc, .slice ca cs.length cc] w fun e w' => e = .returned (.bool true) ∧ Below w.heap.size w w' := by
  have CA := Lib.hid (awake_any w hT)
  have CO := Lib.hid (fun W => open_two k hk W)
  have d1 : (10 : Int) < ds.length := by omega
  clear hT hk
  go_enter Tryd.func4, Tryd.ntmps4
  go_wp2_with (first
    | (go_at_call 8; refine (CA.out).mono ?_; rintro e v1 ⟨rfl, hb1⟩; have B1 := Lib.hid hb1; clear hb1)
    | (go_at_call 13; refine (CO.out _).mono ?_; rintro e v2 ⟨g, l0, l1, w0, w1, rfl, _, hb2⟩; have B2 := Lib.hid (keepBelow B1.out hb2); clear hb2))
  go_ret
  exact ⟨rfl, B2.out⟩
set_option maxRecDepth 100000 in
set_option maxHeartbeats 1600000 in
theorem whole_cuts (k : ByteArray) (sa ca : Option Addr) (sc cc : Nat) (ds : List ByteArray) (cs : List UInt8) (hk : k.size ≤ 200000000000000) (hds : ds.length ≤ 10) (hcs : ¬ cs.length ≤ 200) (w : World) (hT : Tabs w) :
    Calls Tryd.prog 4 #[.string k, .slice sa ds.length sc, .slice ca cs.length cc] w fun e w' => e = .returned (.bool true) ∧ Below w.heap.size w w' := by
  have CA := Lib.hid (awake_any w hT)
  have CO := Lib.hid (fun W => open_two k hk W)
  have d1 : decide ((10 : Int) < ds.length) = false := decide_eq_false (by omega)
  have d2 : (200 : Int) < cs.length := by omega
  clear hT hk
  go_enter Tryd.func4, Tryd.ntmps4
  go_wp2_with (first
    | (go_at_call 8; refine (CA.out).mono ?_; rintro e v1 ⟨rfl, hb1⟩; have B1 := Lib.hid hb1; clear hb1)
    | (go_at_call 13; refine (CO.out _).mono ?_; rintro e v2 ⟨g, l0, l1, w0, w1, rfl, _, hb2⟩; have B2 := Lib.hid (keepBelow B1.out hb2); clear hb2))
  go_ret
  exact ⟨rfl, B2.out⟩
theorem whole_any (k : ByteArray) (sv cv : Value) (ds : List ByteArray) (cs : List UInt8) (hk : k.size ≤ 200000000000000) (w : World) (hS : Strs w sv ds) (hC : U8s w cv cs) (hT : Tabs w) :
    Calls Tryd.prog 4 #[.string k, sv, cv] w fun e w' => e = .returned (.bool true) ∧ Below w.heap.size w w' := by
  obtain ⟨sa, sc, rfl⟩ := hS.form
  obtain ⟨ca, cc, rfl⟩ := hC.form
  by_cases h1 : ds.length ≤ 10
  · by_cases h2 : cs.length ≤ 200
    · exact whole_ok k sa ca sc cc ds cs hk h1 h2 w hS hC hT
    · exact whole_cuts k sa ca sc cc ds cs hk h1 h2 w hT
  · exact whole_many k sa ca sc cc ds cs hk h1 w hT
end Go.Proofs.YtmblnacckboggaaDoor
