/- The acts of SecurePlays in memory; small (21). -/
import Derived.Test.YtmblnacckboggaaDoorPF
namespace Go.Proofs.YtmblnacckboggaaDoor
open Go.ChangeShapes Go.WideShapes Go.ChangeAt Go.RowKit Go.Deep
structure PAct where
  kind : Int
  side : Int
  n : Int
  data : ByteArray
  at_ : Int
  by_ : UInt8
def pact0 : PAct := ⟨0, 0, 0, ⟨#[]⟩, 0, 0⟩
def PactAt (w : World) (b o : Nat) (x : PAct) : Prop :=
  w.cell? ⟨b, o, none⟩ = some (.int .i64 x.kind) ∧ w.cell? ⟨b, o + 1, none⟩ = some (.int .i64 x.side) ∧ w.cell? ⟨b, o + 2, none⟩ = some (.int .i64 x.n) ∧ w.cell? ⟨b, o + 3, none⟩ = some (.string x.data) ∧ w.cell? ⟨b, o + 4, none⟩ = some (.int .i64 x.at_) ∧ w.cell? ⟨b, o + 5, none⟩ = some (.int .u8 (x.by_.toNat : Nat))
def PActs (w : World) (v : Value) (l : List PAct) : Prop := (l = [] ∧ ∃ a c, v = .slice a 0 c) ∨
  ∃ b off cap, v = .slice (some ⟨b, off, none⟩) l.length cap ∧ 0 < l.length ∧ l.length ≤ 9223372036854775807 ∧ b < w.heap.size ∧ ∀ i, i < l.length → PactAt w b (off + i * 6) (l.getD i pact0)
theorem PactAt.below {w w' : World} {b o : Nat} {x : PAct} (h : PactAt w b o x) (hb : Below w.heap.size w w') (hl : b < w.heap.size) : PactAt w' b o x := by
  obtain ⟨h0, h1, h2, h3, h4, h5⟩ := h
  exact ⟨(hb.cell (p := ⟨b, o, none⟩) hl).trans h0, (hb.cell (p := ⟨b, o + 1, none⟩) hl).trans h1, (hb.cell (p := ⟨b, o + 2, none⟩) hl).trans h2, (hb.cell (p := ⟨b, o + 3, none⟩) hl).trans h3, (hb.cell (p := ⟨b, o + 4, none⟩) hl).trans h4, (hb.cell (p := ⟨b, o + 5, none⟩) hl).trans h5⟩
theorem PActs.below {w w' : World} {v : Value} {l : List PAct} (h : PActs w v l) (hb : Below w.heap.size w w') : PActs w' v l := by
  rcases h with h | ⟨b, off, cap, h1, h2, h3, h4, h5⟩
  · exact .inl h
  · exact .inr ⟨b, off, cap, h1, h2, h3, Nat.lt_of_lt_of_le h4 hb.size, fun i hi => (h5 i hi).below hb h4⟩
theorem PActs.form {w : World} {v : Value} {l : List PAct} (h : PActs w v l) : ∃ a c, v = .slice a l.length c ∧ l.length ≤ 9223372036854775807 := by
  rcases h with ⟨rfl, a, c, h⟩ | ⟨b, off, cap, h, _, h3, _⟩
  · exact ⟨a, c, h, by simp⟩
  · exact ⟨_, cap, h, h3⟩
theorem PActs.at {w : World} {a : Option Addr} {n c : Nat} {l : List PAct} (h : PActs w (.slice a n c) l) {i : Nat} (hi : i < l.length) : ∃ b off, a = some ⟨b, off, none⟩ ∧ b < w.heap.size ∧ PactAt w b (off + i * 6) (l.getD i pact0) := by
  rcases h with ⟨rfl, _⟩ | ⟨b, off, cap, h1, _, _, h4, h5⟩
  · exact absurd hi (by simp)
  · injection h1 with h1 _ _
    exact ⟨b, off, h1, h4, h5 i hi⟩
/-- whether acts are small -/
def smallB (l : List PAct) : Bool := l.all (fun a => decide (a.data.size ≤ 2500)) && decide (l.length ≤ 25)
theorem smallB_no {l : List PAct} {m : Nat} (hm : m < l.length) (h : ¬ (l.getD m pact0).data.size ≤ 2500) : smallB l = false := by
  unfold smallB
  rw [Bool.and_eq_false_iff]
  left
  rw [List.all_eq_false]
  refine ⟨l[m], List.getElem_mem hm, ?_⟩
  rw [List.getD_eq_getElem?_getD, List.getElem?_eq_getElem hm] at h
  simpa using h
theorem smallB_yes {l : List PAct} (h : ∀ j, j < l.length → (l.getD j pact0).data.size ≤ 2500) : smallB l = decide (l.length ≤ 25) := by
  unfold smallB
  have : l.all (fun a => decide (a.data.size ≤ 2500)) = true := by
    rw [List.all_eq_true]
    intro x hx
    obtain ⟨j, hj, rfl⟩ := List.getElem_of_mem hx
    have := h j hj
    rw [List.getD_eq_getElem?_getD, List.getElem?_eq_getElem hj] at this
    simpa using this
  rw [this, Bool.true_and]
theorem smallB_parts {l : List PAct} (h : smallB l = true) : l.length ≤ 25 ∧ ∀ j, j < l.length → (l.getD j pact0).data.size ≤ 2500 := by
  unfold smallB at h
  rw [Bool.and_eq_true, List.all_eq_true, decide_eq_true_eq] at h
  refine ⟨h.2, fun j hj => ?_⟩
  rw [List.getD_eq_getElem?_getD, List.getElem?_eq_getElem hj]
  simpa using h.1 l[j] (List.getElem_mem hj)
set_option maxRecDepth 100000 in
set_option maxHeartbeats 1600000 in
theorem small_any (sa : Option Addr) (sc : Nat) (l : List PAct) (hl : l.length ≤ 9223372036854775807) (w : World) (hA : PActs w (.slice sa l.length sc) l) : Calls Tryd.prog 21 #[.slice sa l.length sc] w fun e w' => e = .returned (.bool (smallB l)) ∧ Below w.heap.size w w' := by
  have HA := Lib.hid hA
  clear hA
  go_enter Tryd.func21, Tryd.ntmps21
  go_wp2_with fail
  go_loopg [7] l.length (fun q iv wr => ∃ m : Nat, m + q = l.length ∧ iv = .int .i64 m ∧ (∀ j, j < m → (l.getD j pact0).data.size ≤ 2500) ∧ Below w.heap.size w wr)
  case atStart => exact ⟨0, by omega, rfl, fun j hj => by omega, Below.refl _ _⟩
  case round =>
    obtain ⟨m, hm, rfl, hno, hB⟩ := hrel
    have HN := Lib.hid hno
    have HB := Lib.hid hB
    clear hno hB
    by_cases hlt : m < l.length
    · obtain ⟨b, off, ha, hb, h0, h1, h2, h3, h4, h5⟩ := (HA.out.below HB.out).at hlt
      obtain ⟨x, hx⟩ : ∃ x, x = l.getD m pact0 := ⟨_, rfl⟩
      rw [← hx] at h0 h1 h2 h3 h4 h5
      have HX := Lib.hid hx
      subst ha
      have i0 : (m : Int) < l.length := by omega
      have i0' : (0 : Int) ≤ m := by omega
      have ei : IntKind.i64.wrap ((m : Int) + 1) = (m : Int) + 1 := IntWalk.i64_in _ (by omega)
      clear hx
      by_cases hs : x.data.size ≤ 2500
      · have d1 : decide ((2500 : Int) < x.data.size) = false := decide_eq_false (by omega)
        have HS := Lib.hid hs
        clear hs
        go_wp2_with fail
        go_roundg (gk - 1)
        case measure => omega
        case rel =>
          refine ⟨m + 1, by omega, by go_num, fun j hj => ?_, HB.out.alloc (HB.out.size) _⟩
          by_cases e : j = m
          · rw [e, ← HX.out]; exact HS.out
          · exact HN.out j (by omega)
      · have d1 : (2500 : Int) < x.data.size := by omega
        have HF := Lib.hid (smallB_no hlt (by rw [← HX.out]; exact hs))
        clear hs
        go_wp2_with fail
        go_ret
        exact ⟨by rw [HF.out]; rfl, HB.out.alloc HB.out.size _⟩
    · obtain rfl : m = l.length := by omega
      have HF := Lib.hid (smallB_yes HN.out)
      have d1 : decide ((l.length : Int) ≤ 25) = decide (l.length ≤ 25) := by congr 1; simp only [eq_iff_iff]; omega
      clear hlt
      go_wp2_with fail
      go_ret
      exact ⟨by rw [HF.out, ← d1]; rfl, HB.out⟩
/-- what is taken and what is left of it are no more than what came -/
theorem drain_few (key : List UInt8) (side : Int) : ∀ (q n : Nat) (s out : List UInt8), (drain key side q n s out).2.2.1 + (drain key side q n s out).2.1.length ≤ n + s.length := by
  intro q
  induction q with
  | zero => intro n s out; exact Nat.le_refl _
  | succ q ih =>
    intro n s out
    rw [drain]
    by_cases h : (openR key side n s).2.2 = 0
    · rw [if_pos h]
      obtain ⟨s1, s2, _⟩ := open_size h
      have := ih (n + 1) (s.drop (openR key side n s).2.1) (out ++ (openR key side n s).1)
      rw [List.length_drop] at this
      omega
    · rw [if_neg h]; exact Nat.le_refl _
theorem recvR_few {l : Lk} {n0 s0 : Nat} (hl : LkOk l n0 s0) (s : ByteArray) (e : Int) : ∃ n1, LkOk (recvR l s e).2 n1 s0 ∧ n1 + (recvR l s e).2.left.size ≤ n0 + (l.left.size + s.size) ∧ (recvR l s e).2.key = l.key ∧ (recvR l s e).2.side = l.side := by
  obtain ⟨hk, ht, hs⟩ := hl
  unfold recvR
  by_cases h1 : l.fin = true
  · rw [if_pos h1]; exact ⟨n0, ⟨hk, ht, hs⟩, by simp only; omega, rfl, rfl⟩
  rw [if_neg h1]
  by_cases h2 : e ≠ 0 ∧ e ≠ 36 ∧ e ≠ 28
  · rw [if_pos h2]; exact ⟨n0, ⟨hk, ht, hs⟩, by simp only; omega, rfl, rfl⟩
  rw [if_neg h2]
  obtain ⟨L1, hL1⟩ : ∃ L1 : ByteArray, L1 = if e = 0 then l.left ++ s else l.left := ⟨_, rfl⟩
  have hL1s : L1.size ≤ l.left.size + s.size := by
    rw [hL1]
    split
    · rw [ByteArray.size_append]; exact Nat.le_refl _
    · omega
  have hd := drain_few l.key.data.toList (3 - l.side) L1.size l.taken.toNat L1.data.toList []
  rw [bytes_len] at hd
  have htn : l.taken.toNat = n0 := by rw [ht]; simp
  simp only
  rw [← hL1]
  rw [htn] at hd ⊢
  refine ⟨_, ⟨hk, rfl, hs⟩, ?_, by trivial, by trivial⟩
  show _ + ByteArray.size (if _ then _ else _) ≤ _
  split
  · show _ + 0 ≤ _; omega
  · have hz : ∀ X : List UInt8, (⟨X.toArray⟩ : ByteArray).size = X.length := fun X => by simp [ByteArray.size]
    have hz2 := hz (drain l.key.data.toList (3 - l.side) L1.size n0 L1.data.toList []).2.1
    omega
end Go.Proofs.YtmblnacckboggaaDoor
