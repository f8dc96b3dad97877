/- StreamCloses in plain words: what writes, a close and reads make of a pipe at which nobody waits. -/
import Derived.Test.YtmnlojbfdpjjdaaC1
namespace Go.Proofs.Ytmnlojbfdpjjdaa
open Go.RowKit
/-- the pipe with q to be read across from the end a; dn: whether a is closed -/
def stC (a : Int) (dn : Bool) (q : List ByteArray) : St := ⟨if a = 0 then [] else q, if a = 0 then q else [], if a = 0 then dn else false, if a = 0 then false else dn, 1048576, 0, [], []⟩
theorem stC_new (a : Int) : newSt 1048576 = stC a false [] := by unfold newSt stC; split <;> rfl
theorem settle_nil {st : St} (h : st.ws = []) : settle st = st := by unfold settle; rw [h]; rfl
theorem sizes_eq (l : List ByteArray) : sizes l = (l.flatMap (·.data.toList)).length := by
  induction l with
  | nil => rfl
  | cons b l ih => rw [sizes, List.flatMap_cons, List.length_append, ih]; simp
theorem q_write (a : Int) (ha : a = 0 ∨ a = 1) (dn : Bool) (q : List ByteArray) (s : ByteArray) : qOf (stC a dn q) ⟨1, a, 0, s⟩ = q := by rcases ha with rfl | rfl <;> rfl
theorem q_read (a : Int) (ha : a = 0 ∨ a = 1) (dn : Bool) (q : List ByteArray) (c : Int) (s : ByteArray) : qOf (stC a dn q) ⟨0, 1 - a, c, s⟩ = q := by rcases ha with rfl | rfl <;> rfl
theorem setq_write (a : Int) (ha : a = 0 ∨ a = 1) (dn : Bool) (q r : List ByteArray) (s : ByteArray) : setQ (stC a dn q) ⟨1, a, 0, s⟩ r = stC a dn r := by rcases ha with rfl | rfl <;> rfl
theorem setq_read (a : Int) (ha : a = 0 ∨ a = 1) (dn : Bool) (q r : List ByteArray) (c : Int) (s : ByteArray) : setQ (stC a dn q) ⟨0, 1 - a, c, s⟩ r = stC a dn r := by rcases ha with rfl | rfl <;> rfl
theorem do_w (a : Int) (ha : a = 0 ∨ a = 1) (q : List ByteArray) (s : ByteArray) : doS (stC a false q) ⟨1, a, 0, s⟩ = (stC a false (if s.size = 0 then q else q ++ [s]), ((s.size : Nat) : Int), ⟨#[]⟩) := by
  unfold doS
  have e : emptyB ⟨1, a, 0, s⟩ = (s.size == 0) := rfl
  rw [e]
  by_cases h : s.size = 0
  · rw [if_pos (by simpa using h), if_pos h, h]; rfl
  · rw [if_neg (by simpa using h), if_neg h, if_pos rfl, q_write a ha, setq_write a ha]
theorem once_w (a : Int) (ha : a = 0 ∨ a = 1) (q : List ByteArray) (s : ByteArray) (hq : sizes q < 1048576) (hs : s.size ≤ 8192) :
    onceR (stC a false q) ⟨1, a, 0, s⟩ = (stC a false (if s.size = 0 then q else q ++ [s]), ((s.size : Nat) : Int), ⟨#[]⟩, 0) := by
  have hc : checkE (stC a false q) ⟨1, a, 0, s⟩ = 0 := by
    unfold checkE
    have hb : badB ⟨1, a, 0, s⟩ = false := by rcases ha with rfl | rfl <;> rfl
    rw [hb, if_neg (by simp), if_neg (by simp; omega)]
    rcases ha with rfl | rfl <;> simp [clB, stC]
  have hw : waitsB (stC a false q) ⟨1, a, 0, s⟩ = false := by
    unfold waitsB
    have hr : readyB (stC a false q) ⟨1, a, 0, s⟩ = true := by
      unfold readyB
      rw [if_neg (show ¬ (1 : Int) = 0 by decide), q_write a ha, decide_eq_true_eq]
      have : (stC a false q).limit = 1048576 := rfl
      omega
    rw [hr]
    have : likeN (stC a false q).ws ⟨1, a, 0, s⟩ = 0 := rfl
    rw [this]; simp
  unfold onceR
  rw [if_neg (by simp [hc]), hw, if_neg (by simp), do_w a ha, settle_nil rfl]
theorem close_once (a : Int) (ha : a = 0 ∨ a = 1) (q : List ByteArray) : closeR (stC a false q) a = (stC a true q, 0) := by rcases ha with rfl | rfl <;> rfl
theorem close_twice (a : Int) (ha : a = 0 ∨ a = 1) (q : List ByteArray) : closeR (stC a true q) a = (stC a true q, 28) := by rcases ha with rfl | rfl <;> rfl
theorem open_cut (a : Int) (ha : a = 0 ∨ a = 1) (q : List ByteArray) : openE (stC a true q) a = 28 := by rcases ha with rfl | rfl <;> rfl
theorem open_oth (a : Int) (ha : a = 0 ∨ a = 1) (q : List ByteArray) : openE (stC a true q) (1 - a) = 0 := by rcases ha with rfl | rfl <;> rfl
theorem once_err {st : St} {x : Op} (h : checkE st x = 28) : onceR st x = (st, 0, ⟨#[]⟩, 28) := by
  unfold onceR
  rw [if_pos (by rw [h]; decide), h]
theorem once_rn (a : Int) (ha : a = 0 ∨ a = 1) (c : Int) (hc : 1 ≤ c) : onceR (stC a true []) ⟨0, 1 - a, c, ⟨#[]⟩⟩ = (stC a true [], 0, ⟨#[]⟩, 28) := by
  refine once_err ?_
  unfold checkE
  have hb : badB ⟨0, 1 - a, c, ⟨#[]⟩⟩ = false := by
    have h : decide (c < 0) = false := by rw [decide_eq_false_iff_not]; omega
    rcases ha with rfl | rfl <;> simp [badB, h]
  rw [hb, if_neg (by simp), if_neg (by simp)]
  have hr : readyB (stC a true []) ⟨0, 1 - a, c, ⟨#[]⟩⟩ = false := by
    unfold readyB
    rw [if_pos rfl, q_read a ha]; rfl
  rw [hr]
  rcases ha with rfl | rfl <;> simp [clB, stC]
theorem once_wx (a : Int) (ha : a = 0 ∨ a = 1) (q : List ByteArray) (s : ByteArray) (hs : s.size ≤ 8192) : onceR (stC a true q) ⟨1, 1 - a, 0, s⟩ = (stC a true q, 0, ⟨#[]⟩, 28) := by
  refine once_err ?_
  unfold checkE
  have hb : badB ⟨1, 1 - a, 0, s⟩ = false := by rcases ha with rfl | rfl <;> rfl
  rw [hb, if_neg (by simp), if_neg (by simp; omega)]
  rcases ha with rfl | rfl <;> simp [clB, stC]
theorem once_rx (a : Int) (ha : a = 0 ∨ a = 1) (q : List ByteArray) : onceR (stC a true q) ⟨0, a, 1, ⟨#[]⟩⟩ = (stC a true q, 0, ⟨#[]⟩, 28) := by
  refine once_err ?_
  unfold checkE
  have hb : badB ⟨0, a, 1, ⟨#[]⟩⟩ = false := by rcases ha with rfl | rfl <;> rfl
  rw [hb, if_neg (by simp), if_neg (by simp)]
  rcases ha with rfl | rfl <;> simp [clB, stC]
/-- what a read leaves of the blocks, and what it returns -/
def rdQ (b : ByteArray) (r : List ByteArray) (c : Int) : List ByteArray := if c < b.size then b.extract c.toNat b.size :: r else r
def rdB (b : ByteArray) (c : Int) : ByteArray := if c < b.size then b.extract 0 c.toNat else b
theorem do_r (a : Int) (ha : a = 0 ∨ a = 1) (b : ByteArray) (r : List ByteArray) (c : Int) (hc : 1 ≤ c) : doS (stC a true (b :: r)) ⟨0, 1 - a, c, ⟨#[]⟩⟩ = (stC a true (rdQ b r c), 0, rdB b c) := by
  unfold doS
  have e : emptyB ⟨0, 1 - a, c, ⟨#[]⟩⟩ = false := by show (c == 0) = false; rw [beq_eq_false_iff_ne]; omega
  rw [e, if_neg (by simp), if_neg (show ¬ (0 : Int) = 1 by decide), q_read a ha]
  unfold rdQ rdB
  simp only
  by_cases h : c < b.size
  · rw [if_pos h, if_pos h, if_pos h, setq_read a ha]
  · rw [if_neg h, if_neg h, if_neg h, setq_read a ha]
theorem once_r (a : Int) (ha : a = 0 ∨ a = 1) (b : ByteArray) (r : List ByteArray) (c : Int) (hc : 1 ≤ c) :
    onceR (stC a true (b :: r)) ⟨0, 1 - a, c, ⟨#[]⟩⟩ = (stC a true (rdQ b r c), 0, rdB b c, 0) := by
  have hr : readyB (stC a true (b :: r)) ⟨0, 1 - a, c, ⟨#[]⟩⟩ = true := by
    unfold readyB
    rw [if_pos rfl, q_read a ha, decide_eq_true_eq]; simp
  have hck : checkE (stC a true (b :: r)) ⟨0, 1 - a, c, ⟨#[]⟩⟩ = 0 := by
    unfold checkE
    have hb : badB ⟨0, 1 - a, c, ⟨#[]⟩⟩ = false := by
      have h : decide (c < 0) = false := by rw [decide_eq_false_iff_not]; omega
      rcases ha with rfl | rfl <;> simp [badB, h]
    rw [hb, if_neg (by simp), if_neg (by simp), hr]
    rcases ha with rfl | rfl <;> simp [clB, stC]
  have hw : waitsB (stC a true (b :: r)) ⟨0, 1 - a, c, ⟨#[]⟩⟩ = false := by
    unfold waitsB
    rw [hr]
    have : likeN (stC a true (b :: r)).ws ⟨0, 1 - a, c, ⟨#[]⟩⟩ = 0 := rfl
    rw [this]; simp
  unfold onceR
  rw [if_neg (by simp [hck]), hw, if_neg (by simp), do_r a ha b r c hc, settle_nil rfl]
/-- all bytes of blocks -/
def byt (l : List ByteArray) : List UInt8 := l.flatMap (·.data.toList)
theorem byt_cons (b : ByteArray) (l : List ByteArray) : byt (b :: l) = b.data.toList ++ byt l := rfl
theorem byt_append (a b : List ByteArray) : byt (a ++ b) = byt a ++ byt b := by simp [byt]
theorem rd_bytes (b : ByteArray) (r : List ByteArray) (c : Int) : (rdB b c).data.toList ++ byt (rdQ b r c) = byt (b :: r) := by
  unfold rdB rdQ
  by_cases h : c < b.size
  · rw [if_pos h, if_pos h, byt_cons, byt_cons, ← List.append_assoc]
    congr 1
    rw [ByteArray.data_extract, ByteArray.data_extract, ← Array.toList_append, Array.extract_append_extract]
    rw [Nat.zero_min, Nat.max_eq_right (show c.toNat ≤ b.size by omega)]
    exact congrArg Array.toList Array.extract_size
  · rw [if_neg h, if_neg h, byt_cons]
/-- the writes: after k blocks -/
def wrQ (bs : List ByteArray) : List ByteArray := bs.filter fun s => s.size != 0
theorem wrQ_snoc (bs : List ByteArray) (s : ByteArray) : wrQ (bs ++ [s]) = if s.size = 0 then wrQ bs else wrQ bs ++ [s] := by
  unfold wrQ
  rw [List.filter_append]
  by_cases h : s.size = 0
  · rw [if_pos h]; simp [h]
  · rw [if_neg h]; simp [h]
theorem byt_wrQ (bs : List ByteArray) : byt (wrQ bs) = byt bs := by
  induction bs with
  | nil => rfl
  | cons s bs ih =>
    unfold wrQ at ih ⊢
    by_cases h : s.size = 0
    · rw [List.filter_cons_of_neg (by simp [h]), ih, byt_cons]
      have : s.data.toList = [] := List.eq_nil_of_length_eq_zero (by simpa using h)
      rw [this]; rfl
    · rw [List.filter_cons_of_pos (by simp [h]), byt_cons, byt_cons, ih]
theorem sizes_byt (l : List ByteArray) : sizes l = (byt l).length := sizes_eq l
theorem byt_len (l : List ByteArray) (B : Nat) (h : ∀ s ∈ l, s.size ≤ B) : (byt l).length ≤ l.length * B := by
  induction l with
  | nil => simp [byt]
  | cons s l ih =>
    have h1 := h s (by simp)
    have h2 := ih fun x hx => h x (by simp [hx])
    rw [byt_cons, List.length_append, List.length_cons, Nat.add_mul]
    have : s.data.toList.length = s.size := by simp
    omega
theorem stC_sm (a : Int) (dn : Bool) (q : List ByteArray) (h1 : q.length ≤ 1000) (h2 : sizes q ≤ 1000000) : Sm (stC a dn q) := by
  unfold stC
  by_cases h : a = 0
  · simp only [if_pos h]; exact ⟨by simp; omega, by simp, by simp [sizes]; omega⟩
  · simp only [if_neg h]; exact ⟨by simp; omega, by simp, by simp [sizes]; omega⟩
end Go.Proofs.Ytmnlojbfdpjjdaa
