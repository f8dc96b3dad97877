/- Bits of a writer at the nil slice, and the reference's Bits: the same bytes. For at most 65536 bools, a writer with fewer than 10^10 bytes. -/
import Derived.Test.YteendimoopmakaaT9
import Derived.Test.YteendimoopmakaaT13
import Derived.Deep.RegionWith
namespace Go.Proofs.Yteendimoopmakaa
open Go.RowKit Go.Shelf

section
attribute [local go_sem] Oper.semAt_some
set_option maxRecDepth 100000 in
set_option maxHeartbeats 1000000 in
theorem chunk1_empty_in (ao : Option Addr) (cp : Nat) (n : Nat) (l B1 B2 : Nat) (J : List Nat → World → Prop) (W : World) (h1 : W.cell? ⟨B1, 0, none⟩ = some (.slice ao 0 cp)) (h0 : J [] W) :
    CallsIn Fence.wide n Try.prog 82 #[.func (.yield l) #[] #[], .pointer (some ⟨B1, 0, none⟩), .pointer (some ⟨B2, 0, none⟩)] W fun e W' => (∃ v, e = .returned v) ∧ J [] W' := by
  refine callsIn_of_wp Try.func82 rfl trivial ?_ rfl
  simp only [Try.ntmps82, List.size_toArray, List.length_cons, List.length_nil, Nat.reduceAdd, Nat.reduceSub, Array.replicate_succ, Array.replicate_zero, List.push_toArray, List.append_toArray, List.nil_append, List.cons_append]
  gi_wp2
  gi_loopw [4] (fun i wr => i = .int .i64 0 ∧ J [] wr ∧ wr.cell? ⟨B1, 0, none⟩ = some (.slice ao 0 cp)) (fun _ _ => 0)
  case atStart => exact ⟨rfl, h0, h1⟩
  case round =>
    obtain ⟨rfl, hJs, hc1⟩ := hrel
    gi_wp2
    go_end0
    exact ⟨⟨_, rfl⟩, hJs⟩
theorem chunk_stops_empty (ao : Option Addr) (cp : Nat) (n : Nat) (B1 B2 : Nat) (w : World) (h1 : w.heap[B1]? = some (.cells #[.slice ao 0 cp] 33 (0, 0))) :
    SeqStopsK Fence.wide n Try.prog 82 #[.pointer (some ⟨B1, 0, none⟩), .pointer (some ⟨B2, 0, none⟩)] (fun x : Nat => #[chunkV 0 0 0 x]) (KpB B1 B2) (fun ys => ys = []) (fun _ => False) 0 w := fun l J Jx W hW hJ _ hY h0 => by
  have e1 := (hW.block B1 (Array.getElem?_eq_some_iff.1 h1).1).trans h1
  exact (chunk1_empty_in ao cp n l B1 B2 J W (cell_of_row W B1 0 _ _ _ e1) h0).mono fun e W' ⟨he, h⟩ => ⟨he, .inl ⟨_, rfl, h⟩⟩
set_option maxRecDepth 100000 in
set_option maxHeartbeats 3200000 in
theorem Bits_none (ao : Option Addr) (cp : Nat) (base b : Nat) (v : Value) (bs : List UInt8) (w : World) (hlen : bs.length ≤ 10000000000) (hw : WrAt w base b v bs) (hbase : base ≤ w.heap.size) :
    Calls Try.prog 30 #[.pointer (some ⟨b, 0, none⟩), .slice ao 0 cp] w fun e w' => e = .returned (.int .i64 0) ∧ Wrote w w' base b v (bs ++ bitB []) := by
  have hw1 := hw.below (w' := w.alloc (.cells #[.pointer (some ⟨b, 0, none⟩)] 23)) ((Below.refl _ _).alloc (Nat.le_refl _) _)
  refine (callsIn_wide (n := 3)).1 ?_
  refine callsIn_of_wp_marks Try.func30 rfl trivial ?_
  simp only [Try.ntmps30, List.size_toArray, List.length_cons, List.length_nil, Nat.reduceAdd, Nat.reduceSub, Array.replicate_succ, Array.replicate_zero, List.push_toArray, List.append_toArray, List.nil_append, List.cons_append]
  gi_wp2_with fail
  refine ⟨trivial, ?_⟩
  refine (callsIn_wide.2 (number_any 0 base b v bs _ (by omega) (by omega) (by omega) (by exact hw1) (by simp; omega))).mono ?_
  rintro e w2 ⟨rfl, v2, hw2, hf2, ha2⟩
  have hsz2 := hf2.size
  simp at hsz2
  gi_wp2_with fail
  refine ⟨trivial, ?_⟩
  refine (callsIn_wide.2 (chunk_any _ _ _ _)).mono ?_
  rintro e w3 ⟨rfl, rfl⟩
  gi_wp2_with fail
  obtain ⟨W0, hW0⟩ : ∃ W0, (w2.alloc (.cells #[.slice ao 0 cp] 33)).alloc (.cells #[.int .i64 8] 3) = W0 := ⟨_, rfl⟩
  have hs0 : W0.heap.size = w2.heap.size + 2 := by rw [← hW0]; simp
  have hb20 : Below w2.heap.size w2 W0 := by rw [← hW0]; exact ((Below.refl _ _).alloc (Nat.le_refl _) _).alloc (by simp) _
  have hB1 : Blk W0 w2.heap.size 33 [.slice ao 0 cp] := by rw [← hW0]; exact (Blk.new w2 33 [.slice ao 0 cp]).alloc _
  have hw20 := hw2.below hb20
  have hfW0 : Fr w W0 b v.ownBlock := by
    refine ⟨hb20.os.trans hf2.os, hb20.tape.trans hf2.tape, hb20.output.trans hf2.output, by omega, fun k hk hb hr => ?_⟩
    rw [hb20.block k (by omega), hf2.block k (by simp; omega) hb hr, Below.heap_alloc _ _ _ hk]
  have ha0 : v2.ownBlock = v.ownBlock ∨ ∀ k, v2.ownBlock = some k → w.heap.size ≤ k := ha2.imp id fun h k hk => by have := h k hk; simp at this; omega
  rw [hW0]
  have HW0 := Lib.hid hW0
  clear hW0
  refine wpIn_rangeFunc_ownF rfl (by omega) (gf := 82) (lb := #[.pointer (some ⟨w2.heap.size, 0, none⟩), .pointer (some ⟨w2.heap.size + 1, 0, none⟩)]) rfl trivial (enters_of Try.func82 (by kernel_rfl) rfl)
    (chunk_stops_empty ao cp 2 w2.heap.size (w2.heap.size + 1) W0 hB1) (fun h k => ⟨k.1.trans h.1, k.2.trans h.2⟩)
    (fun W l o o' hl _ _ _ => ⟨World.putObj_heap_other (by omega), World.putObj_heap_other (by omega)⟩) (Below.refl _ _) (fun _ => rfl)
    (fun pre W => Wrote W0 W base b v2 (bs ++ numB 0 ++ pre.map (chunkB []))) (fun _ _ _ => False) (wrote_own (Nat.le_refl _)) (fun _ _ _ _ _ h _ _ => h)
    (by rw [List.map_nil, List.append_nil]; exact Wrote.same hw20 (Below.refl _ _))
    (fun x => { tmps := #[.pointer (some ⟨b, 0, none⟩), .slice ao 0 cp, .pointer (some ⟨w.heap.size, 0, none⟩), undef, .int .i64 0, chunkV 0 0 0 x, undef, undef, undef, .bool false, .pointer (some ⟨b, 0, none⟩), .bool false, .bool false, .slice ao 0 cp, .int .i64 0, .bool false, .pointer (some ⟨b, 0, none⟩), .slice ao 0 cp, .int .i64 0, .tuple #[], .slice ao 0 cp, .func (.func 82) #[] #[.pointer (some ⟨w2.heap.size, 0, none⟩), .pointer (some ⟨w2.heap.size + 1, 0, none⟩)], chunkV 0 0 0 x, undef, undef, undef, undef, undef, undef, undef, undef, undef, undef, undef, undef, undef, undef, undef, undef, undef, undef, undef, undef, undef, undef, undef], defers := [] }) ?assign ?body ?done ?stop
  case assign =>
    intro l x W K hK
    gi_wp2
    exact hK
  case body =>
    rintro l pre x W _ hpl
    exact absurd hpl (Nat.not_lt_zero _)
  case done =>
    rintro D ys W hD rfl hI hK
    gi_wp2
    have hI2 := (wrote_own (w := W0) (B := W0.heap.size) (base := base) (b := b) (v := v2) (f := fun pre => bs ++ numB 0 ++ pre.map (chunkB [])) (Nat.le_refl _)).putObj (o' := .deferred none) hI hD hK rfl
    refine ⟨by simp, .inl ⟨_, _, rfl, run_takeDeferred hK, ?_⟩⟩
    refine ⟨_, results_tmp rfl _ _ _, rfl, ?_⟩
    have e : bs ++ bitB [] = bs ++ numB 0 ++ ([] : List Nat).map (chunkB []) := by unfold bitB; rw [List.append_assoc]; rfl
    rw [e]
    exact Wrote.trans hfW0 ha0 hI2
  case stop =>
    rintro D c pre W _ h _ _
    exact h.elim
end

/-- the byte j when i bools have been read -/
def chunkP (L : List Bool) (i j : Nat) : Nat := pk (fun t => L.getD (8 * j + t) false) (min 8 (i - 8 * j))
def chunkCells (L : List Bool) (i m : Nat) : List Value := (List.range m).map fun j => .int .u8 (chunkP L i j : Int)
theorem chunkP_lt (L : List Bool) (i j : Nat) : chunkP L i j < 256 := pk_lt _ _
theorem chunkP_end (L : List Bool) (j : Nat) : chunkB L j = UInt8.ofNat (chunkP L L.length j) := rfl
theorem chunkP_other (L : List Bool) (i j : Nat) (h : j ≠ i / 8) : chunkP L (i + 1) j = chunkP L i j := by
  unfold chunkP; rw [show min 8 (i + 1 - 8 * j) = min 8 (i - 8 * j) by omega]
theorem chunkP_here (L : List Bool) (i : Nat) (h : L.getD i false = true) : (chunkP L (i + 1) (i / 8) : Int) = bits .or .u8 (chunkP L i (i / 8) : Int) (128 / 2 ^ (i % 8)) := by
  unfold chunkP
  rw [show min 8 (i + 1 - 8 * (i / 8)) = i % 8 + 1 by omega, show min 8 (i - 8 * (i / 8)) = i % 8 by omega]
  exact pk_step _ _ (by show L.getD (8 * (i / 8) + i % 8) false = true; rw [show 8 * (i / 8) + i % 8 = i by omega]; exact h)
theorem chunkP_skip (L : List Bool) (i : Nat) (h : L.getD i false = false) (j : Nat) : chunkP L (i + 1) j = chunkP L i j := by
  by_cases hj : j = i / 8
  · subst hj
    unfold chunkP
    rw [show min 8 (i + 1 - 8 * (i / 8)) = i % 8 + 1 by omega, show min 8 (i - 8 * (i / 8)) = i % 8 by omega]
    exact pk_skip _ _ (by show L.getD (8 * (i / 8) + i % 8) false = false; rw [show 8 * (i / 8) + i % 8 = i by omega]; exact h)
  · exact chunkP_other L i j hj
theorem chunkCells_skip (L : List Bool) (i m : Nat) (h : L.getD i false = false) : chunkCells L (i + 1) m = chunkCells L i m := by
  unfold chunkCells; exact List.map_congr_left fun j _ => by rw [chunkP_skip L i h j]
theorem chunkCells_set (L : List Bool) (i m : Nat) (h : L.getD i false = true) : (chunkCells L i m).set (i / 8) (.int .u8 (bits .or .u8 (chunkP L i (i / 8) : Int) (128 / 2 ^ (i % 8)))) = chunkCells L (i + 1) m := by
  rw [← chunkP_here L i h]
  apply List.ext_getElem
  · simp [chunkCells]
  · intro j h1 h2
    simp only [chunkCells, List.length_map, List.length_range] at h2
    rw [List.getElem_set]
    by_cases hj : i / 8 = j
    · subst hj; simp [chunkCells]
    · rw [if_neg hj]; simp only [chunkCells, List.getElem_map, List.getElem_range]; rw [chunkP_other L i j (fun e => hj e.symm)]
theorem chunkCells_at (L : List Bool) (i m j : Nat) (hj : j < m) : (chunkCells L i m)[j]? = some (.int .u8 (chunkP L i j : Int)) := by simp [chunkCells, hj]
theorem chunkCells_zero (L : List Bool) (m : Nat) : chunkCells L 0 m = List.replicate m (.int .u8 0) := by
  unfold chunkCells
  apply List.ext_getElem <;> simp [chunkP, pk]
theorem chunkCells_end (L : List Bool) (m : Nat) : chunkCells L L.length m = u8s ((upto m).map (chunkB L)) := by
  unfold chunkCells u8s upto
  rw [List.map_map]
  refine List.map_congr_left fun j _ => ?_
  show Value.int .u8 _ = Value.int .u8 (((UInt8.ofNat (chunkP L L.length j)).toNat : Nat) : Int)
  rw [UInt8.toNat_ofNat', Nat.mod_eq_of_lt (chunkP_lt _ _ _)]
theorem blk_of_full {w : World} {base g e m : Nat} {xs : List Value} (h : w.ownsRow base e 1 (.slice (some ⟨g, 0, none⟩) m m) m xs) : Blk w g e xs := by
  rcases h.2 with ⟨h1, _⟩ | ⟨g', cap, cur, h1, _, hh, _, _, hs, ht⟩
  · cases h1
  · injection h1 with h1 _ h2
    injection h1 with h1
    injection h1 with h1
    subst h1 h2
    unfold Blk
    rw [hh, ← ht, List.take_of_length_le (by simp; omega)]
theorem own_of_blk {w : World} {g e m : Nat} {xs : List Value} (h : Blk w g e xs) (hm : xs.length = m) (hm2 : m ≤ maxLen) : w.ownsRow 0 e 1 (.slice (some ⟨g, 0, none⟩) m m) m xs :=
  ⟨by omega, .inr ⟨g, m, xs.toArray, rfl, Nat.zero_le _, h, Nat.le_refl _, hm2, by simp; omega, by rw [Nat.mul_one]; exact List.take_of_length_le (by simp; omega)⟩⟩

/-- A slice of bools below block B: an empty one, or one whose cells read so. -/
def Bools (w : World) (B : Nat) (sl : Value) (L : List Bool) : Prop :=
  ((∃ ao cp, sl = .slice ao 0 cp) ∧ L = []) ∨ ∃ bb off cap, sl = .slice (some ⟨bb, off, none⟩) L.length cap ∧ bb < B ∧ L.length ≤ cap ∧ cap ≤ 140737488351232 ∧ ∀ j, j < L.length → w.cell? ⟨bb, off + j, none⟩ = some (.bool (L.getD j false))
theorem Bools.below {w w' : World} {B : Nat} {sl : Value} {L : List Bool} (h : Bools w B sl L) (hb : Below B w w') : Bools w' B sl L := by
  rcases h with h | ⟨bb, off, cap, h1, h2, h3, h4, h5⟩
  · exact .inl h
  · exact .inr ⟨bb, off, cap, h1, h2, h3, h4, fun j hj => (hb.cell (p := ⟨bb, off + j, none⟩) h2).trans (h5 j hj)⟩

theorem refBits_limit (ao : Option Addr) (len cap : Nat) (w : World) (hs : 65536 < len) : Calls Try.prog 40 #[.slice ao len cap] w (RefPost w [] 3) := by
  go_enter Try.func40, Try.ntmps40
  go_wp2
  go_ret2
  exact refPost_err (Below.refl _ _)
set_option maxRecDepth 100000 in
set_option maxHeartbeats 1600000 in
theorem refBits_none (ao : Option Addr) (cp : Nat) (w : World) : Calls Try.prog 40 #[.slice ao 0 cp] w (RefPost w (bitB []) 0) := by
  have hmk : ∀ w, (Instr.makeSlice 62 (.int .i64 0) (.int .i64 0)).run Try.prog w = .ok (.slice (some ⟨w.heap.size, 0, none⟩) 0 0) (w.alloc (.cells #[] 5)) := fun _ => by kernel_rfl
  go_enter Try.func40, Try.ntmps40
  go_wp2_with fail
  go_loopw [5] (fun i wr => i = .int .i64 0 ∧ w.alloc (.cells #[] 5) = wr) (fun _ _ => 0)
  case atStart => exact ⟨rfl, rfl⟩
  case round =>
    obtain ⟨rfl, rfl⟩ := hrel
    go_wp2_with fail
    have hown : (w.alloc (.cells #[] 5)).ownsRow 0 5 1 (.slice (some ⟨w.heap.size, 0, none⟩) 0 0) 0 (u8s []) := World.ownsRow_lit (base := 0) (size := 1) (e := 5) w #[] 0 (Nat.zero_le _) (by unfold maxLen; omega) rfl
    have hcv := conv_bytes hown.drew
    have HO := Lib.hid hown
    clear hown
    have hb0 : Below w.heap.size w (w.alloc (.cells #[] 5)).drew := ((Below.refl _ _).alloc (Nat.le_refl _) _).drew
    have HS := Lib.hid (str_append (numB 0) ⟨#[]⟩)
    have hnl : (numB 0).length ≤ 9 := by decide
    go_region_with (go_at_call 38; refine (refNumber_any 0 _).mono ?_; rintro e w1 ⟨rfl, hb1⟩; have hcv1 := conv_bytes (own_below HO.out.drew hb1); have hbe : Below w.heap.size w w1 := hb0.trans (hb1.mono hb0.size))
    all_goals
      go_wp2
      go_ret2
      refine ⟨?_, hbe⟩
      rw [show bitB [] = numB 0 ++ [] from rfl, ← HS.out]
      rfl
set_option maxRecDepth 100000 in
set_option maxHeartbeats 1600000 in
theorem refBits_any (bb off cap : Nat) (L : List Bool) (w : World) (hL : L.length ≤ 65536) (hcap : L.length ≤ cap) (hcap2 : cap ≤ 140737488351232) (hbb : bb < w.heap.size)
    (hc : ∀ j, j < L.length → w.cell? ⟨bb, off + j, none⟩ = some (.bool (L.getD j false))) : Calls Try.prog 40 #[.slice (some ⟨bb, off, none⟩) L.length cap] w (RefPost w (bitB L) 0) := by
  obtain ⟨i0, hi, hz0, hz1, hz2⟩ := info_parts Try.info5
  obtain ⟨m, hm⟩ : ∃ m, m = (L.length + 7) / 8 := ⟨_, rfl⟩
  have hm1 : m ≤ 8192 := by omega
  have HM := Lib.hid hm
  have HC := Lib.hid hc
  have hdiv : ((L.length : Int) + 7) / 8 = (m : Int) := by omega
  clear hm hc
  go_enter Try.func40, Try.ntmps40
  go_wp2_with (at_make; refine wpList_make_full _ rfl (.tmp 12) (.tmp 12) 62 rfl w.heap.size 5 i0 (.int .u8 0) 1 Try.underlying62 hi hz0 hz1 .i64 .i64 (((L.length : Int) + 7) / 8) (((L.length : Int) + 7) / 8) m rfl rfl hdiv hdiv ?b2 ?b3 (Nat.le_refl _) ?go)
  case b2 => rw [hz2]; omega
  case b3 => unfold maxLen; omega
  case go =>
    intro w1 hown hg
    have hB0 := blk_of_full hown
    rw [toList_madeCells_one, ← chunkCells_zero L] at hB0
    have hb1 : Below w.heap.size w w1 := (Below.refl _ _).grown hg (Nat.le_refl _) (fun k e => by cases e)
    clear hown hg hdiv
    have hb1s := hb1.size
    go_wp2_with fail
    go_loopw [5] (fun i wr => ∃ k : Nat, k ≤ L.length ∧ i = .int .i64 k ∧ Blk wr w.heap.size 5 (chunkCells L k m) ∧ Below w.heap.size w wr) (fun i _ => L.length - (intOf i).toNat)
    case atStart => exact ⟨0, by omega, rfl, hB0, hb1⟩
    case round =>
      obtain ⟨k, hk, rfl, hB, hb⟩ := hrel
      have hbs := hb.size
      by_cases hlt : k < L.length
      · have hck := (hb.cell (p := ⟨bb, off + k, none⟩) hbb).trans (HC.out k hlt)
        have hkm : k / 8 < m := by have := HM.out; omega
        cases hf : L.getD k false
        · rw [hf] at hck
          have HS := Lib.hid (chunkCells_skip L k m hf)
          clear hf
          go_wp2
          go_roundw
          case rel => exact ⟨k + 1, by omega, by go_num, by rw [HS.out]; exact hB, hb⟩
          case measure => simp [intOf]; omega
        · rw [hf] at hck
          have HS := Lib.hid (chunkCells_set L k m hf)
          clear hf
          have hc1 : wr.cell? ⟨w.heap.size, k / 8, none⟩ = some (.int .u8 (chunkP L k (k / 8) : Int)) := (hB.cell (k / 8)).trans (chunkCells_at L k m _ hkm)
          have hf1 : wr.frozen? ⟨w.heap.size, k / 8, none⟩ = false := hB.frozen _
          have hi1 : (0 : Int) ≤ (k : Int) / 8 := by omega
          have hi2 : (k : Int) / 8 < (m : Int) := by omega
          have hi3 : ((k : Int) / 8).toNat = k / 8 := by omega
          have hi4 : (0 : Int) ≤ (k : Int) % 8 := by omega
          have hi5 : ((k : Int) % 8).toNat = k % 8 := by omega
          go_wp2_with fail
          go_region
          all_goals
            go_wp2
            go_roundw
            case rel => exact ⟨k + 1, by omega, by go_num, by rw [← HS.out]; exact Blk.set_ (w := wr.drew) hB _ _, (hb.drew).setCell (Nat.le_refl _) _⟩
            case measure => simp [intOf]; omega
      · obtain rfl : k = L.length := by omega
        have hnl : (numB L.length).length ≤ 9 := by rw [numB_length]; rcases sizeN_cases L.length with h | h | h | h <;> omega
        rw [chunkCells_end] at hB
        have hown : wr.ownsRow 0 5 1 (.slice (some ⟨w.heap.size, 0, none⟩) m m) m (u8s ((upto m).map (chunkB L))) := own_of_blk hB (by rw [u8s_length, List.length_map, upto_length]) (by unfold maxLen; omega)
        have HE := Lib.hid (show bitB L = numB L.length ++ (upto m).map (chunkB L) by unfold bitB; rw [HM.out])
        have hml : ((upto m).map (chunkB L)).length ≤ 8192 := by rw [List.length_map, upto_length]; exact hm1
        generalize (upto m).map (chunkB L) = C at hown HE hml
        have hcv := conv_bytes hown.drew
        have HO := Lib.hid hown
        have HB := Lib.hid hb
        have HS := Lib.hid (str_append (numB L.length) ⟨C.toArray⟩)
        clear hown hB hb HM HC
        go_wp2_with fail
        go_region_with (go_at_call 38; refine (refNumber_any L.length _).mono ?_; rintro e w2 ⟨rfl, hb2⟩; have hcv1 := conv_bytes (own_below HO.out.drew hb2); have hbe : Below w.heap.size w w2 := HB.out.drew.trans (hb2.mono hbs))
        all_goals
          go_wp2
          go_ret2
          refine ⟨?_, hbe⟩
          rw [HE.out, ← HS.out]
          rfl
end Go.Proofs.Yteendimoopmakaa
