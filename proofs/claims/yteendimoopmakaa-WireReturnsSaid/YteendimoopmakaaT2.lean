/- Words for the memory of a writer, and: the writer's inner number appends the bytes numB. For a writer with fewer than 10^11 bytes. -/
import Derived.Test.YteendimoopmakaaT1
import Derived.Maps.AppendAt
import Derived.Handy
import Derived.Lib.Hide
namespace Go.Proofs.Yteendimoopmakaa
open Go.RowKit

/-- Block g is just the cells cs, of element type t, none frozen. -/
def Blk (w : World) (g : Nat) (t : TypeId) (cs : List Value) : Prop := w.heap[g]? = some (.cells cs.toArray t (0, 0))
section
variable {w w' : World} {g : Nat} {t : TypeId} {cs : List Value}
theorem Blk.cell (h : Blk w g t cs) (i : Nat) : w.cell? ⟨g, i, none⟩ = cs[i]? := by
  rw [cell_of_row w g i cs.toArray t (0, 0) h]; simp
theorem Blk.frozen (h : Blk w g t cs) (i : Nat) : w.frozen? ⟨g, i, none⟩ = false := by
  unfold Blk at h; simp [World.frozen?, h]
theorem Blk.set_ (h : Blk w g t cs) (i : Nat) (u : Value) : Blk (w.setCell ⟨g, i, none⟩ u) g t (cs.set i u) := by
  unfold Blk at h ⊢
  simp [World.setCell, Array.getElem?_modify, h]
theorem Blk.far (h : Blk w g t cs) {p : Addr} (hp : g ≠ p.block) (u : Value) : Blk (w.setCell p u) g t cs := (Below.heap_setCell w p u g hp).trans h
theorem Blk.lt (h : Blk w g t cs) : g < w.heap.size := (Array.getElem?_eq_some_iff.1 h).1
theorem Blk.alloc (h : Blk w g t cs) (o : Obj) : Blk (w.alloc o) g t cs := (Below.heap_alloc w o g h.lt).trans h
theorem Blk.below {B : Nat} (h : Blk w g t cs) (hb : Below B w w') (hg : g < B) : Blk w' g t cs := (hb.block g hg).trans h
theorem Blk.grown {row : Option Nat} (h : Blk w g t cs) (hb : w.grownBy w' row) (hg : some g ≠ row) : Blk w' g t cs := (hb.block g h.lt hg).trans h
theorem Blk.new (w : World) (t : TypeId) (cs : List Value) : Blk (w.alloc (.cells cs.toArray t)) w.heap.size t cs := heap_alloc_new w _
theorem Blk.lies (h : Blk w g t cs) : ∀ j u, cs[j]? = some u → w.cell? ((⟨g, 0, none⟩ : Addr).add j) = some u := by
  intro j u hu
  have e : (⟨g, 0, none⟩ : Addr).add j = ⟨g, j, none⟩ := by unfold Addr.add; split <;> simp_all
  rw [e, h.cell]; exact hu
end
theorem own_ne {w : World} {base g : Nat} {e t : TypeId} {size n : Nat} {v : Value} {xs cs : List Value} (h : w.ownsRow base e size v n xs) (hg : Blk w g t cs) (hne : e ≠ t) : v.ownBlock ≠ some g := by
  rcases h.2 with ⟨rfl, _⟩ | ⟨g', cap, cur, rfl, _, hh, _⟩
  · simp [Value.ownBlock]
  · intro he
    have : g' = g := by simpa [Value.ownBlock] using he
    subst this
    unfold Blk at hg
    rw [hh] at hg
    injection hg with hg
    injection hg with _ ht
    exact hne ht
theorem below_grownBy {w w' : World} (h : Below w.heap.size w w') (row : Option Nat) : w.grownBy w' row := ⟨h.os, h.tape, h.output, h.size, fun k hk _ => h.block k hk⟩
theorem own_below {w w' : World} {base : Nat} {e : TypeId} {size n : Nat} {v : Value} {xs : List Value} (h : w.ownsRow base e size v n xs) (hb : Below w.heap.size w w') : w'.ownsRow base e size v n xs :=
  h.kept (below_grownBy hb none) (by cases v.ownBlock <;> simp)
theorem own_set {w : World} {base : Nat} {e : TypeId} {size n : Nat} {v : Value} {xs : List Value} (h : w.ownsRow base e size v n xs) {p : Addr} (hp : v.ownBlock ≠ some p.block) (u : Value) : (w.setCell p u).ownsRow base e size v n xs := by
  refine h.kept (row := some p.block) ⟨rfl, rfl, rfl, by simp [World.setCell], fun k _ hk => Below.heap_setCell w p u k (fun e => hk (by rw [e]))⟩ (.inr hp)

/-- the bytes as cells -/
def u8s (l : List UInt8) : List Value := l.map fun b => .int .u8 (b.toNat : Int)
theorem u8cell (x : Int) (h0 : 0 ≤ x) (h1 : x < 256) : ((UInt8.ofNat x.toNat).toNat : Int) = x := by
  rw [UInt8.toNat_ofNat']; omega
theorem u8s_cons (b : UInt8) (l : List UInt8) : u8s (b :: l) = .int .u8 (b.toNat : Int) :: u8s l := rfl
theorem u8s_length (l : List UInt8) : (u8s l).length = l.length := by simp [u8s]
theorem u8s_append (l l' : List UInt8) : u8s (l ++ l') = u8s l ++ u8s l' := by simp [u8s]
theorem u8s_one (l : List UInt8) : ∀ u ∈ u8s l, u.oneCell' = true := by
  intro u hu; obtain ⟨b, _, rfl⟩ := List.mem_map.1 hu; rfl

theorem Try.info5 : (Try.prog.info? 5).map (fun i => (i.zero, i.size, i.bytes)) = some (some (.int .u8 0), 1, 1) := by kernel_rfl

/-- The writer at block b holds the slice value v, which owns the bytes bs in blocks from 'base' on. -/
def WrAt (w : World) (base b : Nat) (v : Value) (bs : List UInt8) : Prop :=
  Blk w b 64 [v] ∧ w.ownsRow base 5 1 v bs.length (u8s bs)

/-- All blocks but b and r (and new ones) are as they were. -/
structure Fr (w w' : World) (b : Nat) (r : Option Nat) : Prop where
  os : w'.os = w.os
  tape : w'.tape = w.tape
  output : w'.output = w.output
  size : w.heap.size ≤ w'.heap.size
  block : ∀ k, k < w.heap.size → k ≠ b → some k ≠ r → w'.heap[k]? = w.heap[k]?

/-- What a call of a writer leaves. -/
def Wrote (w w' : World) (base b : Nat) (v : Value) (bs : List UInt8) : Prop :=
  ∃ v', WrAt w' base b v' bs ∧ Fr w w' b v.ownBlock ∧ (v'.ownBlock = v.ownBlock ∨ ∀ k, v'.ownBlock = some k → w.heap.size ≤ k)

theorem WrAt.below {w w' : World} {base b : Nat} {v : Value} {bs : List UInt8} (h : WrAt w base b v bs) (hb : Below w.heap.size w w') : WrAt w' base b v bs :=
  ⟨h.1.below hb h.1.lt, own_below h.2 hb⟩

theorem Wrote.same {w w' : World} {base b : Nat} {v : Value} {bs : List UInt8} (h : WrAt w base b v bs) (hb : Below w.heap.size w w') : Wrote w w' base b v bs :=
  ⟨v, h.below hb, ⟨hb.os, hb.tape, hb.output, hb.size, fun k hk _ _ => hb.block k hk⟩, .inl rfl⟩

/-- behind an append: the slice is still to be stored into the writer -/
theorem wrote_of {w W w2 : World} {base b : Nat} {v v' : Value} {bs ns : List UInt8} {m : Nat} (hw : WrAt w base b v bs) (hb : Below w.heap.size w W) (hm : ns.length = m)
    (hown : w2.ownsRow base 5 1 v' (bs.length + m) (u8s bs ++ u8s ns)) (hg : W.grownBy w2 v.ownBlock) {S : Nat} (hat : v'.ownBlock = v.ownBlock ∨ v'.ownBlock = some S) (hS : w.heap.size ≤ S) :
    w2.cell? ⟨b, 0, none⟩ = some v ∧ w2.frozen? ⟨b, 0, none⟩ = false ∧ Wrote w (w2.setCell ⟨b, 0, none⟩ v') base b v (bs ++ ns) := by
  subst hm
  have hW := hw.below hb
  have h2 : Blk w2 b 64 [v] := hW.1.grown hg (own_ne hW.2 hW.1 (by decide)).symm
  refine ⟨by rw [h2.cell]; rfl, h2.frozen 0, v', ⟨h2.set_ 0 v', ?_⟩, ⟨hg.os.trans hb.os, hg.tape.trans hb.tape, hg.output.trans hb.output, ?_, ?_⟩, ?_⟩
  · rw [List.length_append, u8s_append]
    exact own_set hown (own_ne hown h2 (by decide)) _
  · have := hg.size; have := hb.size; simp [World.setCell]; omega
  · intro k hk hkb hkr
    rw [Below.heap_setCell _ _ _ _ hkb, hg.block k (by have := hb.size; omega) hkr, hb.block k hk]
  · rcases hat with h | h
    · exact .inl h
    · exact .inr fun k hk => by rw [h] at hk; injection hk with hk; omega

theorem shape_of {w : World} {base e size n : Nat} {v : Value} {xs : List Value} (h : w.ownsRow base e size v n xs) (hn : 0 < n) : ∃ g cap, v = .slice (some ⟨g, 0, none⟩) n cap := by
  rcases h.2 with ⟨_, h⟩ | ⟨g, cap, _, h, _⟩
  · omega
  · exact ⟨g, cap, h⟩

/-! the bytes of an operand number -/
def revB (n : Int) : Nat → List UInt8
  | 0 => []
  | k + 1 => UInt8.ofNat ((n / 256 ^ k) % 256).toNat :: revB n k
def numB (n : Int) : List UInt8 :=
  if sizeN n = 1 then [UInt8.ofNat (n % 128).toNat]
  else if sizeN n = 2 then UInt8.ofNat (128 + (n / 256) % 64).toNat :: revB n 1
  else if sizeN n = 4 then UInt8.ofNat (192 + (n / 16777216) % 32).toNat :: revB n 3
  else 224 :: revB n 8
theorem sizeN_cases (n : Int) : sizeN n = 1 ∨ sizeN n = 2 ∨ sizeN n = 4 ∨ sizeN n = 9 := by
  unfold sizeN; split; · simp
  split; · simp
  split <;> simp
theorem set_rep {α : Type} (m k : Nat) (z x : α) (L : List α) (hk : k < m) : (List.replicate (m - k) z ++ L).set (m - 1 - k) x = List.replicate (m - (k + 1)) z ++ (x :: L) := by
  obtain ⟨d, rfl⟩ : ∃ d, m = d + k + 1 := ⟨m - k - 1, by omega⟩
  rw [show d + k + 1 - k = d + 1 by omega, show d + k + 1 - 1 - k = d by omega, show d + k + 1 - (k + 1) = d by omega, List.replicate_succ']
  rw [List.append_assoc, List.set_append_right _ _ (by simp)]
  simp
theorem p256 (k : Nat) : (2 : Int) ^ (8 * k) = 256 ^ k := by rw [Int.pow_mul]; rfl
theorem revB_step (n : Int) (m k : Nat) (hk : k < m) :
    (List.replicate (m - k) (Value.int .u8 0) ++ u8s (revB n k)).set (m - 1 - k) (.int .u8 (n / 2 ^ (8 * k) % 256)) = List.replicate (m - (k + 1)) (Value.int .u8 0) ++ u8s (revB n (k + 1)) := by
  rw [set_rep m k _ _ _ hk, revB, u8s_cons, u8cell _ (Int.emod_nonneg _ (by omega)) (Int.emod_lt_of_pos _ (by omega)), p256]
theorem rep_at (m k : Nat) (hk : k < m) (L : List Value) : (List.replicate (m - k) (Value.int .u8 0) ++ L)[m - 1 - k]? = some (.int .u8 0) := by
  rw [List.getElem?_append_left (by simp; omega)]
  rw [List.getElem?_replicate]; simp; omega
theorem revB_length (n : Int) (k : Nat) : (revB n k).length = k := by induction k with | zero => rfl | succ k ih => simp [revB, ih]
theorem numB_1 (n : Int) (h : sizeN n = 1) : numB n = [UInt8.ofNat (n % 128).toNat] := by unfold numB; rw [if_pos h]
theorem numB_2 (n : Int) (h : sizeN n = 2) : numB n = UInt8.ofNat (128 + (n / 256) % 64).toNat :: revB n 1 := by unfold numB; rw [if_neg (by omega), if_pos h]
theorem numB_4 (n : Int) (h : sizeN n = 4) : numB n = UInt8.ofNat (192 + (n / 16777216) % 32).toNat :: revB n 3 := by unfold numB; rw [if_neg (by omega), if_neg (by omega), if_pos h]
theorem numB_9 (n : Int) (h : sizeN n = 9) : numB n = 224 :: revB n 8 := by unfold numB; rw [if_neg (by omega), if_neg (by omega), if_neg (by omega)]
theorem numB_length (n : Int) : (numB n).length = sizeN n := by
  rcases sizeN_cases n with h | h | h | h
  · rw [numB_1 n h, h]; rfl
  · rw [numB_2 n h, h, List.length_cons, revB_length]
  · rw [numB_4 n h, h, List.length_cons, revB_length]
  · rw [numB_9 n h, h, List.length_cons, revB_length]
theorem and127 (n : Int) : bits .and .u8 (n % 256) 127 = n % 128 := by
  rw [u8_and _ _ (by omega) (by omega) (by omega) (by omega)]
  show (((n % 256).toNat &&& 127 : Nat) : Int) = _
  rw [nat_mask7]; omega
theorem and63 (n : Int) : bits .and .u8 (n % 256) 63 = n % 64 := by
  rw [u8_and _ _ (by omega) (by omega) (by omega) (by omega)]
  show (((n % 256).toNat &&& 63 : Nat) : Int) = _
  rw [nat_mask6]; omega
theorem and31 (n : Int) : bits .and .u8 (n % 256) 31 = n % 32 := by
  rw [u8_and _ _ (by omega) (by omega) (by omega) (by omega)]
  show (((n % 256).toNat &&& 31 : Nat) : Int) = _
  rw [nat_mask5]; omega
theorem or128 (x : Int) (h0 : 0 ≤ x) (h1 : x < 128) : bits .or .u8 x 128 = 128 + x := by
  rw [u8_or _ _ (by omega) (by omega) (by omega) (by omega)]
  show ((x.toNat ||| 128 : Nat) : Int) = _
  rw [Nat.or_comm, nat_join 7 128 x.toNat (by decide) (by omega)]; omega
theorem or192 (x : Int) (h0 : 0 ≤ x) (h1 : x < 64) : bits .or .u8 x 192 = 192 + x := by
  rw [u8_or _ _ (by omega) (by omega) (by omega) (by omega)]
  show ((x.toNat ||| 192 : Nat) : Int) = _
  rw [Nat.or_comm, nat_join 6 192 x.toNat (by decide) (by omega)]; omega

set_option maxRecDepth 100000 in
set_option maxHeartbeats 3200000 in
theorem number_any (n : Int) (base b : Nat) (v : Value) (bs : List UInt8) (w : World) (h0 : -9223372036854775808 ≤ n) (h1 : n ≤ 9223372036854775807) (hlen : bs.length ≤ 100000000000) (hw : WrAt w base b v bs)
   (hbase : base ≤ w.heap.size) :
    Calls Try.prog 33 #[.pointer (some ⟨b, 0, none⟩), .int .i64 n] w fun e w' => e = .returned (.tuple #[]) ∧ Wrote w w' base b v (bs ++ numB n) := by
  obtain ⟨i0, hi, hz0, hz1, hz2⟩ := info_parts Try.info5
  have hbw := hw.1.lt
  rcases sizeN_cases n with hs | hs | hs | hs
  · have hs' : ((sizeN n : Nat) : Int) = 1 := by omega
    have hnb := numB_1 n hs
    have hnl := (numB_length n).trans hs
    have hmk : ∀ w, (Instr.makeSlice 62 (.int .i64 1) (.int .i64 1)).run Try.prog w = .ok (.slice (some ⟨w.heap.size, 0, none⟩) 1 1) (w.alloc (.cells #[.int .u8 0] 5)) := fun _ => by kernel_rfl
    have hbit := and127 n
    have HS := Lib.hid hs
    have HN := Lib.hid hnb
    have HL := Lib.hid hnl
    clear hs hnb hnl
    go_enter Try.func33, Try.ntmps33
    go_wp2_with (go_at_call 14; refine (size_any _ _ h0 h1).mono ?_; rintro e w1 ⟨rfl, hb1⟩; simp only [hs'])
    have hsz1 := hb1.size
    clear hs' hmk
    go_loopw [6, 13] (fun _ i wr => ∃ k : Nat, k ≤ 1 ∧ i = .int .i64 k ∧ Blk wr w1.heap.size 5 (List.replicate (1 - k) (.int .u8 0) ++ u8s (revB n k)) ∧ Below w1.heap.size w1 wr) (fun _ i _ => 1 - (intOf i).toNat)
    case atStart => exact ⟨0, by omega, rfl, Blk.new _ _ _, (Below.refl _ _).alloc (Nat.le_refl _) _⟩
    case round =>
      obtain ⟨k, hk, rfl, hB, hb2⟩ := hrel
      by_cases hlt : k < 1
      · obtain rfl : k = 0 := by omega
        have hc : wr.cell? ⟨w1.heap.size, 0, none⟩ = some (.int .u8 0) := (hB.cell 0).trans rfl
        have hf : wr.frozen? ⟨w1.heap.size, 0, none⟩ = false := hB.frozen 0
        go_wp2
        go_roundw
        case rel =>
          refine ⟨1, by omega, by go_num, ?_, hb2.setCell (Nat.le_refl _) _⟩
          have := hB.set_ 0 (.int .u8 (n / 2 ^ (8 * 0) % 256))
          rw [show (0 : Nat) = 1 - 1 - 0 from rfl, revB_step n 1 0 (by omega)] at this
          simpa using this
        case measure => simp [intOf]
      · obtain rfl : k = 1 := by omega
        have hbB : Below w.heap.size w wr := hb1.trans (hb2.mono hsz1)
        have hf0 := hB.frozen 0
        have hc0 : wr.cell? ⟨w1.heap.size, 0, none⟩ = some (.int .u8 (n % 256)) := (hB.cell 0).trans (by rw [show List.replicate (1 - 1) (Value.int .u8 0) ++ u8s (revB n 1) = .int .u8 ((UInt8.ofNat ((n / 256 ^ 0) % 256).toNat).toNat : Int) :: u8s (revB n 0) from rfl, u8cell _ (Int.emod_nonneg _ (by omega)) (Int.emod_lt_of_pos _ (by omega))]; simp)
        have hB2 : Blk (wr.setCell ⟨w1.heap.size, 0, none⟩ (.int .u8 (n % 128))) w1.heap.size 5 (u8s (numB n)) := by
          have := hB.set_ 0 (.int .u8 (n % 128))
          have e : (List.replicate (1 - 1) (Value.int .u8 0) ++ u8s (revB n 1)).set 0 (.int .u8 (n % 128)) = u8s (numB n) := by
            rw [HN.out, u8s_cons, u8cell (n % 128) (by omega) (by omega)]; rfl
          rwa [e] at this
        have hbB2 : Below w.heap.size w (wr.setCell ⟨w1.heap.size, 0, none⟩ (.int .u8 (n % 128))) := hbB.setCell hsz1 _
        have hWr := hw.below hbB2
        have hcb : (wr.setCell ⟨w1.heap.size, 0, none⟩ (.int .u8 (n % 128))).cell? ⟨b, 0, none⟩ = some v := hWr.1.cell 0
        clear hlt hk
        go_wp2_with (at_builtin; refine wpList_append_own_at _ rfl (.tmp 60) (.tmp 61) 62 rfl base 5 i0 (.int .u8 0) 1 1 Try.underlying62 hi hz0 hz1 hz2 rfl (by decide) v bs.length (u8s bs) rfl hWr.2 ⟨w1.heap.size, 0, none⟩ 1 1 (u8s (numB n)) rfl ?len hB2.lies (u8s_one _) ?b1 ?b2 ?bb ?go)
        case len => rw [u8s_length, HL.out]
        case b1 => unfold maxLen; omega
        case b2 => omega
        case bb => have := hbB2.size; omega
        case go =>
          intro v' w2 hown hg _ hat
          obtain ⟨g', cap', rfl⟩ := shape_of hown (by omega)
          obtain ⟨k1, k2, k3⟩ := wrote_of hw hbB2 HL.out hown hg hat hbB.size
          have K3 := Lib.hid k3
          clear k3 hat hg hown hbit
          go_wp2
          go_end0
          exact ⟨rfl, K3.out⟩
  · have hs' : ((sizeN n : Nat) : Int) = 2 := by omega
    have hnb := numB_2 n hs
    have hnl := (numB_length n).trans hs
    have hmk : ∀ w, (Instr.makeSlice 62 (.int .i64 2) (.int .i64 2)).run Try.prog w = .ok (.slice (some ⟨w.heap.size, 0, none⟩) 2 2) (w.alloc (.cells #[.int .u8 0, .int .u8 0] 5)) := fun _ => by kernel_rfl
    have hbit := and63 (n / 256)
    have hbit2 := or128 (n / 256 % 64) (by omega) (by omega)
    have HS := Lib.hid hs
    have HN := Lib.hid hnb
    have HL := Lib.hid hnl
    clear hs hnb hnl
    go_enter Try.func33, Try.ntmps33
    go_wp2_with (go_at_call 14; refine (size_any _ _ h0 h1).mono ?_; rintro e w1 ⟨rfl, hb1⟩; simp only [hs'])
    have hsz1 := hb1.size
    clear hs' hmk
    go_loopw [6, 13] (fun _ i wr => ∃ k : Nat, k ≤ 2 ∧ i = .int .i64 k ∧ Blk wr w1.heap.size 5 (List.replicate (2 - k) (.int .u8 0) ++ u8s (revB n k)) ∧ Below w1.heap.size w1 wr) (fun _ i _ => 2 - (intOf i).toNat)
    case atStart => exact ⟨0, by omega, rfl, Blk.new _ _ _, (Below.refl _ _).alloc (Nat.le_refl _) _⟩
    case round =>
      obtain ⟨k, hk, rfl, hB, hb2⟩ := hrel
      by_cases hlt : k < 2
      · have hc : wr.cell? ⟨w1.heap.size, 1 - k, none⟩ = some (.int .u8 0) := (hB.cell (2 - 1 - k)).trans (rep_at 2 k (by omega) _)
        have hf : wr.frozen? ⟨w1.heap.size, 1 - k, none⟩ = false := hB.frozen (2 - 1 - k)
        go_wp2
        go_roundw
        case rel =>
          refine ⟨k + 1, by omega, by go_num, ?_, hb2.setCell (Nat.le_refl _) _⟩
          rw [← revB_step n 2 k (by omega)]
          exact hB.set_ _ _
        case measure => simp [intOf]; omega
      · obtain rfl : k = 2 := by omega
        have hbB : Below w.heap.size w wr := hb1.trans (hb2.mono hsz1)
        have hf0 := hB.frozen 0
        have hc0 : wr.cell? ⟨w1.heap.size, 0, none⟩ = some (.int .u8 (n / 256 % 256)) := (hB.cell 0).trans (by rw [show List.replicate (2 - 2) (Value.int .u8 0) ++ u8s (revB n 2) = .int .u8 ((UInt8.ofNat ((n / 256 ^ 1) % 256).toNat).toNat : Int) :: u8s (revB n 1) from rfl, u8cell _ (Int.emod_nonneg _ (by omega)) (Int.emod_lt_of_pos _ (by omega))]; simp)
        have hB2 : Blk (wr.setCell ⟨w1.heap.size, 0, none⟩ (.int .u8 (128 + n / 256 % 64))) w1.heap.size 5 (u8s (numB n)) := by
          have := hB.set_ 0 (.int .u8 (128 + n / 256 % 64))
          have e : (List.replicate (2 - 2) (Value.int .u8 0) ++ u8s (revB n 2)).set 0 (.int .u8 (128 + n / 256 % 64)) = u8s (numB n) := by
            rw [HN.out, u8s_cons, u8cell (128 + n / 256 % 64) (by omega) (by omega)]; rfl
          rwa [e] at this
        have hbB2 : Below w.heap.size w (wr.setCell ⟨w1.heap.size, 0, none⟩ (.int .u8 (128 + n / 256 % 64))) := hbB.setCell hsz1 _
        have hWr := hw.below hbB2
        have hcb : (wr.setCell ⟨w1.heap.size, 0, none⟩ (.int .u8 (128 + n / 256 % 64))).cell? ⟨b, 0, none⟩ = some v := hWr.1.cell 0
        clear hlt hk
        go_wp2_with (at_builtin; refine wpList_append_own_at _ rfl (.tmp 60) (.tmp 61) 62 rfl base 5 i0 (.int .u8 0) 1 1 Try.underlying62 hi hz0 hz1 hz2 rfl (by decide) v bs.length (u8s bs) rfl hWr.2 ⟨w1.heap.size, 0, none⟩ 2 2 (u8s (numB n)) rfl ?len hB2.lies (u8s_one _) ?b1 ?b2 ?bb ?go)
        case len => rw [u8s_length, HL.out]
        case b1 => unfold maxLen; omega
        case b2 => omega
        case bb => have := hbB2.size; omega
        case go =>
          intro v' w2 hown hg _ hat
          obtain ⟨g', cap', rfl⟩ := shape_of hown (by omega)
          obtain ⟨k1, k2, k3⟩ := wrote_of hw hbB2 HL.out hown hg hat hbB.size
          have K3 := Lib.hid k3
          clear k3 hat hg hown hbit hbit2
          go_wp2
          go_end0
          exact ⟨rfl, K3.out⟩
  · have hs' : ((sizeN n : Nat) : Int) = 4 := by omega
    have hnb := numB_4 n hs
    have hnl := (numB_length n).trans hs
    have hmk : ∀ w, (Instr.makeSlice 62 (.int .i64 4) (.int .i64 4)).run Try.prog w = .ok (.slice (some ⟨w.heap.size, 0, none⟩) 4 4) (w.alloc (.cells #[.int .u8 0, .int .u8 0, .int .u8 0, .int .u8 0] 5)) := fun _ => by kernel_rfl
    have hbit := and31 (n / 16777216)
    have hbit2 := or192 (n / 16777216 % 32) (by omega) (by omega)
    have HS := Lib.hid hs
    have HN := Lib.hid hnb
    have HL := Lib.hid hnl
    clear hs hnb hnl
    go_enter Try.func33, Try.ntmps33
    go_wp2_with (go_at_call 14; refine (size_any _ _ h0 h1).mono ?_; rintro e w1 ⟨rfl, hb1⟩; simp only [hs'])
    have hsz1 := hb1.size
    clear hs' hmk
    go_loopw [6, 13] (fun _ i wr => ∃ k : Nat, k ≤ 4 ∧ i = .int .i64 k ∧ Blk wr w1.heap.size 5 (List.replicate (4 - k) (.int .u8 0) ++ u8s (revB n k)) ∧ Below w1.heap.size w1 wr) (fun _ i _ => 4 - (intOf i).toNat)
    case atStart => exact ⟨0, by omega, rfl, Blk.new _ _ _, (Below.refl _ _).alloc (Nat.le_refl _) _⟩
    case round =>
      obtain ⟨k, hk, rfl, hB, hb2⟩ := hrel
      by_cases hlt : k < 4
      · have hc : wr.cell? ⟨w1.heap.size, 3 - k, none⟩ = some (.int .u8 0) := (hB.cell (4 - 1 - k)).trans (rep_at 4 k (by omega) _)
        have hf : wr.frozen? ⟨w1.heap.size, 3 - k, none⟩ = false := hB.frozen (4 - 1 - k)
        go_wp2
        go_roundw
        case rel =>
          refine ⟨k + 1, by omega, by go_num, ?_, hb2.setCell (Nat.le_refl _) _⟩
          rw [← revB_step n 4 k (by omega)]
          exact hB.set_ _ _
        case measure => simp [intOf]; omega
      · obtain rfl : k = 4 := by omega
        have hbB : Below w.heap.size w wr := hb1.trans (hb2.mono hsz1)
        have hf0 := hB.frozen 0
        have hc0 : wr.cell? ⟨w1.heap.size, 0, none⟩ = some (.int .u8 (n / 16777216 % 256)) := (hB.cell 0).trans (by rw [show List.replicate (4 - 4) (Value.int .u8 0) ++ u8s (revB n 4) = .int .u8 ((UInt8.ofNat ((n / 256 ^ 3) % 256).toNat).toNat : Int) :: u8s (revB n 3) from rfl, u8cell _ (Int.emod_nonneg _ (by omega)) (Int.emod_lt_of_pos _ (by omega))]; simp)
        have hB2 : Blk (wr.setCell ⟨w1.heap.size, 0, none⟩ (.int .u8 (192 + n / 16777216 % 32))) w1.heap.size 5 (u8s (numB n)) := by
          have := hB.set_ 0 (.int .u8 (192 + n / 16777216 % 32))
          have e : (List.replicate (4 - 4) (Value.int .u8 0) ++ u8s (revB n 4)).set 0 (.int .u8 (192 + n / 16777216 % 32)) = u8s (numB n) := by
            rw [HN.out, u8s_cons, u8cell (192 + n / 16777216 % 32) (by omega) (by omega)]; rfl
          rwa [e] at this
        have hbB2 : Below w.heap.size w (wr.setCell ⟨w1.heap.size, 0, none⟩ (.int .u8 (192 + n / 16777216 % 32))) := hbB.setCell hsz1 _
        have hWr := hw.below hbB2
        have hcb : (wr.setCell ⟨w1.heap.size, 0, none⟩ (.int .u8 (192 + n / 16777216 % 32))).cell? ⟨b, 0, none⟩ = some v := hWr.1.cell 0
        clear hlt hk
        go_wp2_with (at_builtin; refine wpList_append_own_at _ rfl (.tmp 60) (.tmp 61) 62 rfl base 5 i0 (.int .u8 0) 1 1 Try.underlying62 hi hz0 hz1 hz2 rfl (by decide) v bs.length (u8s bs) rfl hWr.2 ⟨w1.heap.size, 0, none⟩ 4 4 (u8s (numB n)) rfl ?len hB2.lies (u8s_one _) ?b1 ?b2 ?bb ?go)
        case len => rw [u8s_length, HL.out]
        case b1 => unfold maxLen; omega
        case b2 => omega
        case bb => have := hbB2.size; omega
        case go =>
          intro v' w2 hown hg _ hat
          obtain ⟨g', cap', rfl⟩ := shape_of hown (by omega)
          obtain ⟨k1, k2, k3⟩ := wrote_of hw hbB2 HL.out hown hg hat hbB.size
          have K3 := Lib.hid k3
          clear k3 hat hg hown hbit hbit2
          go_wp2
          go_end0
          exact ⟨rfl, K3.out⟩
  · have hs' : ((sizeN n : Nat) : Int) = 9 := by omega
    have hnb := numB_9 n hs
    have hnl := (numB_length n).trans hs
    have hmk : ∀ w, (Instr.makeSlice 62 (.int .i64 9) (.int .i64 9)).run Try.prog w = .ok (.slice (some ⟨w.heap.size, 0, none⟩) 9 9) (w.alloc (.cells #[.int .u8 0, .int .u8 0, .int .u8 0, .int .u8 0, .int .u8 0, .int .u8 0, .int .u8 0, .int .u8 0, .int .u8 0] 5)) := fun _ => by kernel_rfl
    have HS := Lib.hid hs
    have HN := Lib.hid hnb
    have HL := Lib.hid hnl
    clear hs hnb hnl
    go_enter Try.func33, Try.ntmps33
    go_wp2_with (go_at_call 14; refine (size_any _ _ h0 h1).mono ?_; rintro e w1 ⟨rfl, hb1⟩; simp only [hs'])
    have hsz1 := hb1.size
    clear hs' hmk
    go_loopw [6, 13] (fun _ i wr => ∃ k : Nat, k ≤ 8 ∧ i = .int .i64 k ∧ Blk wr w1.heap.size 5 (List.replicate (9 - k) (.int .u8 0) ++ u8s (revB n k)) ∧ Below w1.heap.size w1 wr) (fun _ i _ => 8 - (intOf i).toNat)
    case atStart => exact ⟨0, by omega, rfl, Blk.new _ _ _, (Below.refl _ _).alloc (Nat.le_refl _) _⟩
    case round =>
      obtain ⟨k, hk, rfl, hB, hb2⟩ := hrel
      by_cases hlt : k < 8
      · have hc : wr.cell? ⟨w1.heap.size, 8 - k, none⟩ = some (.int .u8 0) := (hB.cell (9 - 1 - k)).trans (rep_at 9 k (by omega) _)
        have hf : wr.frozen? ⟨w1.heap.size, 8 - k, none⟩ = false := hB.frozen (9 - 1 - k)
        go_wp2
        go_roundw
        case rel =>
          refine ⟨k + 1, by omega, by go_num, ?_, hb2.setCell (Nat.le_refl _) _⟩
          rw [← revB_step n 9 k (by omega)]
          exact hB.set_ _ _
        case measure => simp [intOf]; omega
      · obtain rfl : k = 8 := by omega
        have hbB : Below w.heap.size w wr := hb1.trans (hb2.mono hsz1)
        have hf0 := hB.frozen 0
        have hc0 : wr.cell? ⟨w1.heap.size, 0, none⟩ = some (.int .u8 0) := (hB.cell 0).trans (by rfl)
        have hB2 : Blk (wr.setCell ⟨w1.heap.size, 0, none⟩ (.int .u8 224)) w1.heap.size 5 (u8s (numB n)) := by
          have := hB.set_ 0 (.int .u8 224)
          have e : (List.replicate (9 - 8) (Value.int .u8 0) ++ u8s (revB n 8)).set 0 (.int .u8 224) = u8s (numB n) := by
            rw [HN.out, u8s_cons]; rfl
          rwa [e] at this
        have hbB2 : Below w.heap.size w (wr.setCell ⟨w1.heap.size, 0, none⟩ (.int .u8 224)) := hbB.setCell hsz1 _
        have hWr := hw.below hbB2
        have hcb : (wr.setCell ⟨w1.heap.size, 0, none⟩ (.int .u8 224)).cell? ⟨b, 0, none⟩ = some v := hWr.1.cell 0
        clear hlt hk
        go_wp2_with (at_builtin; refine wpList_append_own_at _ rfl (.tmp 60) (.tmp 61) 62 rfl base 5 i0 (.int .u8 0) 1 1 Try.underlying62 hi hz0 hz1 hz2 rfl (by decide) v bs.length (u8s bs) rfl hWr.2 ⟨w1.heap.size, 0, none⟩ 9 9 (u8s (numB n)) rfl ?len hB2.lies (u8s_one _) ?b1 ?b2 ?bb ?go)
        case len => rw [u8s_length, HL.out]
        case b1 => unfold maxLen; omega
        case b2 => omega
        case bb => have := hbB2.size; omega
        case go =>
          intro v' w2 hown hg _ hat
          obtain ⟨g', cap', rfl⟩ := shape_of hown (by omega)
          obtain ⟨k1, k2, k3⟩ := wrote_of hw hbB2 HL.out hown hg hat hbB.size
          have K3 := Lib.hid k3
          clear k3 hat hg hown
          go_wp2
          go_end0
          exact ⟨rfl, K3.out⟩
end Go.Proofs.Yteendimoopmakaa
