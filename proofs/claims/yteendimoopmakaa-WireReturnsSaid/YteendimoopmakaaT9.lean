/- Bits of a writer appends the bit map. For a writer with fewer than 10^10 bytes, and bools that lie outside the writer. -/
import Derived.Test.YteendimoopmakaaT8
import Derived.Sort.QuietIn
import Derived.Stop.RegionWithIn
namespace Go.Proofs.Yteendimoopmakaa
open Go.RowKit Go.Shelf
attribute [local go_sem] Oper.semAt_some

/-- An append's run under a name of its own, so that a region's walk does not lay it open. -/
noncomputable def appSem (ts : Array TypeId) (ty : TypeId) (args : Array Value) : Sem Value := Builtin.append_ ts ty args
theorem run_appSem (ts : Array TypeId) (ty : TypeId) (args : Array Value) : Builtin.append_ ts ty args = appSem ts ty args := rfl
/-- The byte of eight bools. -/
def pk (f : Nat → Bool) : Nat → Nat
  | 0 => 0
  | k + 1 => if f k = true then pk f k ||| 128 / 2 ^ k else pk f k
theorem pk_lt (f : Nat → Bool) (k : Nat) : pk f k < 256 := by
  induction k with
  | zero => simp [pk]
  | succ k ih =>
    unfold pk
    have h : 128 / 2 ^ k < 2 ^ 8 := Nat.lt_of_le_of_lt (Nat.div_le_self _ _) (by omega)
    split
    · exact Nat.or_lt_two_pow (n := 8) ih h
    · exact ih
def chunkB (L : List Bool) (x : Nat) : UInt8 := UInt8.ofNat (pk (fun i => L.getD (8 * x + i) false) (min 8 (L.length - 8 * x)))
def bitB (L : List Bool) : List UInt8 := numB L.length ++ (upto ((L.length + 7) / 8)).map (chunkB L)

theorem Fr.cell {w w' : World} {b : Nat} {r : Option Nat} (h : Fr w w' b r) {p : Addr} (h1 : p.block < w.heap.size) (h2 : p.block ≠ b) (h3 : some p.block ≠ r) : w'.cell? p = w.cell? p := World.cell?_of_block (h.block _ h1 h2 h3)
theorem Fr.blk {w w' : World} {b : Nat} {r : Option Nat} (h : Fr w w' b r) {g : Nat} {t : TypeId} {cs : List Value} (hg : Blk w g t cs) (h2 : g ≠ b) (h3 : some g ≠ r) : Blk w' g t cs := (h.block g hg.lt h2 h3).trans hg

theorem wrote_own {w : World} {base b B : Nat} {v : Value} {f : List Nat → List UInt8} (hB : w.heap.size ≤ B) : OwnFrom B (fun pre W => Wrote w W base b v (f pre)) := by
  intro pre W W' row hs hg hr
  obtain ⟨v', h1, h2, h3⟩ := hs
  have hne : ∀ g : Nat, ∀ cs t fr, W.heap[g]? = some (.cells cs t fr) → some g ≠ row := by
    intro g cs t fr hc e
    obtain ⟨_, o, ho, hk⟩ := hr g e.symm
    rw [hc] at ho; injection ho with ho; subst ho; cases hk
  refine ⟨v', ⟨h1.1.grown hg (hne _ _ _ _ h1.1), h1.2.kept hg ?_⟩, ⟨hg.os.trans h2.os, hg.tape.trans h2.tape, hg.output.trans h2.output, Nat.le_trans h2.size hg.size, fun k hk hb hrr => ?_⟩, h3⟩
  · rcases h1.2.2 with ⟨rfl, _⟩ | ⟨g, cap, cur, rfl, _, hh, _⟩
    · exact .inl rfl
    · exact .inr (hne g _ _ _ hh)
  · rw [hg.block k (Nat.lt_of_lt_of_le hk h2.size) (fun e => by have := (hr k e.symm).1; omega), h2.block k hk hb hrr]

theorem Bits_nilw (sl : Value) (w : World) : Calls Try.prog 30 #[.pointer none, sl] w fun e w' => e = .returned (.int .i64 6) ∧ Below w.heap.size w w' := by
  go_enter Try.func30, Try.ntmps30
  go_wp2
  go_ret
  exact ⟨rfl, (Below.refl _ _).alloc (Nat.le_refl _) _⟩
theorem Bits_limit (a : Option Addr) (len cap : Nat) (b : Nat) (w : World) (hl : 65536 < len) : Calls Try.prog 30 #[.pointer (some ⟨b, 0, none⟩), .slice a len cap] w fun e w' => e = .returned (.int .i64 3) ∧ Below w.heap.size w w' := by
  go_enter Try.func30, Try.ntmps30
  go_wp2
  go_ret
  exact ⟨rfl, (Below.refl _ _).alloc (Nat.le_refl _) _⟩

theorem keeps_of_fr {W W' : World} {base b : Nat} {v : Value} {bs : List UInt8} (hw : WrAt W base b v bs) (hf : Fr W W' b v.ownBlock) : KeepsOthers W W' := by
  refine ⟨hf.size, fun k o hk ho => ?_⟩
  have hkl := (Array.getElem?_eq_some_iff.1 hk).1
  refine (hf.block k hkl ?_ ?_).trans hk
  · rintro rfl
    have := hw.1; unfold Blk at this; rw [hk] at this; injection this with this; subst this; cases ho
  · intro e
    rcases hw.2.2 with ⟨rfl, _⟩ | ⟨g, cap, cur, rfl, _, hh, _⟩
    · cases e
    · have : g = k := by simpa [Value.ownBlock] using e.symm
      subst this
      rw [hk] at hh; injection hh with hh; subst hh; cases ho
theorem keeps_of_wrote {W W' : World} {base b : Nat} {v : Value} {bs bs' : List UInt8} (hw : WrAt W base b v bs) (h : Wrote W W' base b v bs') : KeepsOthers W W' := by
  obtain ⟨_, _, hf, _⟩ := h; exact keeps_of_fr hw hf
theorem kp_of_wrote {W W' : World} {base b B1 B2 : Nat} {v : Value} {cs1 cs2 : List Value} {us us' : List UInt8} {t1 t2 : TypeId} (hw : WrAt W base b v us) (h : Wrote W W' base b v us') (h1 : Blk W B1 t1 cs1) (h2 : Blk W B2 t2 cs2) (n1 : B1 ≠ b) (n2 : B2 ≠ b) (e1 : 5 ≠ t1) (e2 : 5 ≠ t2) : KpB B1 B2 W W' := by
  obtain ⟨_, _, hf, _⟩ := h
  exact ⟨hf.block _ h1.lt n1 (own_ne hw.2 h1 e1).symm, hf.block _ h2.lt n2 (own_ne hw.2 h2 e2).symm⟩
theorem pk_step (f : Nat → Bool) (k : Nat) (hf : f k = true) : (pk f (k + 1) : Int) = bits .or .u8 (pk f k : Int) (128 / 2 ^ k) := by
  rw [show (128 / 2 ^ k : Int) = ((128 / 2 ^ k : Nat) : Int) by simp]
  rw [u8_or_nat _ _ (pk_lt f k) (Nat.lt_of_le_of_lt (Nat.div_le_self _ _) (by omega))]
  show ((if f k = true then pk f k ||| 128 / 2 ^ k else pk f k : Nat) : Int) = _
  rw [if_pos hf]
theorem pk_skip (f : Nat → Bool) (k : Nat) (hf : f k = false) : pk f (k + 1) = pk f k := by
  show (if f k = true then pk f k ||| 128 / 2 ^ k else pk f k) = _
  rw [if_neg (by rw [hf]; simp)]

attribute [local go_sem ↓] run_appSem
set_option maxRecDepth 100000 in
set_option maxHeartbeats 3200000 in
theorem Bits_any (base b : Nat) (v : Value) (bs : List UInt8) (bb off cap : Nat) (L : List Bool) (w : World) (hlen : bs.length ≤ 10000000000) (hw : WrAt w base b v bs) (hbase : base ≤ w.heap.size)
    (hL : L.length ≤ 65536) (hcap : L.length ≤ cap) (hcap2 : cap ≤ 140737488351232) (hbb : bb < w.heap.size) (hbb1 : bb ≠ b) (hbb2 : v.ownBlock ≠ some bb) (hc : ∀ j, j < L.length → w.cell? ⟨bb, off + j, none⟩ = some (.bool (L.getD j false))) :
    Calls Try.prog 30 #[.pointer (some ⟨b, 0, none⟩), .slice (some ⟨bb, off, none⟩) L.length cap] w fun e w' => e = .returned (.int .i64 0) ∧ Wrote w w' base b v (bs ++ bitB L) := by
  obtain ⟨i0, hi, hz0, hz1, hz2⟩ := info_parts Try.info5
  have hw1 := hw.below (w' := w.alloc (.cells #[.pointer (some ⟨b, 0, none⟩)] 23)) ((Below.refl _ _).alloc (Nat.le_refl _) _)
  have hd : decide ((65536 : Int) < (L.length : Int)) = false := by rw [decide_eq_false_iff_not]; omega
  refine (callsIn_wide (n := 3)).1 ?_
  refine callsIn_of_wp_marks Try.func30 rfl trivial ?_
  simp only [Try.ntmps30, List.size_toArray, List.length_cons, List.length_nil, Nat.reduceAdd, Nat.reduceSub, Array.replicate_succ, Array.replicate_zero, List.push_toArray, List.append_toArray, List.nil_append, List.cons_append]
  gi_wp2_with fail
  refine ⟨trivial, ?_⟩
  refine (callsIn_wide.2 (number_any L.length base b v bs _ (by omega) (by omega) (by omega) (by exact hw1) (by simp; omega))).mono ?_
  rintro e w2 ⟨rfl, v2, hw2, hf2, ha2⟩
  have hsz2 := hf2.size
  simp at hsz2
  gi_wp2_with fail
  refine ⟨trivial, ?_⟩
  refine (callsIn_wide.2 (chunk_any _ _ _ _)).mono ?_
  rintro e w3 ⟨rfl, rfl⟩
  gi_wp2_with fail
  clear hd
  obtain ⟨W0, hW0⟩ : ∃ W0, (w2.alloc (.cells #[.slice (some ⟨bb, off, none⟩) L.length cap] 33)).alloc (.cells #[.int .i64 8] 3) = W0 := ⟨_, rfl⟩
  have hs0 : W0.heap.size = w2.heap.size + 2 := by rw [← hW0]; simp
  have hb20 : Below w2.heap.size w2 W0 := by rw [← hW0]; exact ((Below.refl _ _).alloc (Nat.le_refl _) _).alloc (by simp) _
  have hB1 : Blk W0 w2.heap.size 33 [.slice (some ⟨bb, off, none⟩) L.length cap] := by rw [← hW0]; exact (Blk.new w2 33 [.slice (some ⟨bb, off, none⟩) L.length cap]).alloc _
  have hB2 : Blk W0 (w2.heap.size + 1) 3 [.int .i64 8] := by rw [← hW0]; have := Blk.new (w2.alloc (.cells #[.slice (some ⟨bb, off, none⟩) L.length cap] 33)) 3 [.int .i64 8]; rwa [World.size_alloc] at this
  have hbl := hw.1.lt
  have hw20 := hw2.below hb20
  have hv2bb : v2.ownBlock ≠ some bb := by
    intro e
    rcases ha2 with h | h
    · exact hbb2 (h ▸ e)
    · have := h bb e; simp at this; omega
  have hv2w : v2.ownBlock ≠ some w.heap.size := by
    intro e
    rcases ha2 with h | h
    · have := (hw.2.lt w.heap.size (h ▸ e)).2; omega
    · have := h _ e; simp at this; omega
  have hv2s : ∀ k, v2.ownBlock = some k → k < w2.heap.size := fun k e => (hw2.2.lt k e).2
  have hcW0 : ∀ j, j < L.length → W0.cell? ⟨bb, off + j, none⟩ = some (.bool (L.getD j false)) := fun j hj => by
    rw [hb20.cell (p := ⟨bb, off + j, none⟩) (show bb < w2.heap.size by omega), hf2.cell (p := ⟨bb, off + j, none⟩) (show bb < _ by simp; omega) hbb1 (Ne.symm hbb2), World.cell?_alloc_lt _ _ _ hbb]
    exact hc j hj
  have hbox : Blk W0 w.heap.size 23 [.pointer (some ⟨b, 0, none⟩)] := by
    refine Blk.below (Fr.blk hf2 (Blk.new w 23 [.pointer (some ⟨b, 0, none⟩)]) (by omega) ?_) hb20 (by omega)
    intro e
    have := (hw.2.lt _ e.symm).2
    omega
  have hfW0 : Fr w W0 b v.ownBlock := by
    refine ⟨hb20.os.trans hf2.os, hb20.tape.trans hf2.tape, hb20.output.trans hf2.output, by omega, fun k hk hb hr => ?_⟩
    rw [hb20.block k (by omega), hf2.block k (by simp; omega) hb hr, Below.heap_alloc _ _ _ hk]
  have ha0 : v2.ownBlock = v.ownBlock ∨ ∀ k, v2.ownBlock = some k → w.heap.size ≤ k := ha2.imp id fun h k hk => by have := h k hk; simp at this; omega
  rw [hW0]
  have HW0 := Lib.hid hW0
  clear hW0 hc
  refine wpIn_rangeFunc_ownF rfl (by omega) (gf := 82) (lb := #[.pointer (some ⟨w2.heap.size, 0, none⟩), .pointer (some ⟨w2.heap.size + 1, 0, none⟩)]) rfl trivial (enters_of Try.func82 (by kernel_rfl) rfl)
    (chunk_stops 2 (by omega) w2.heap.size (w2.heap.size + 1) bb off L.length cap hL hcap hcap2 W0 hB1 hB2) (fun h k => ⟨k.1.trans h.1, k.2.trans h.2⟩)
    (fun W l o o' hl _ _ _ => ⟨World.putObj_heap_other (by omega), World.putObj_heap_other (by omega)⟩) (Below.refl _ _) (fun _ => rfl)
    (fun pre W => Wrote W0 W base b v2 (bs ++ numB L.length ++ pre.map (chunkB L))) (fun _ _ _ => False) (wrote_own (Nat.le_refl _)) (fun _ _ _ _ _ h _ _ => h)
    (by rw [List.map_nil, List.append_nil]; exact Wrote.same hw20 (Below.refl _ _))
    (fun x => { tmps := #[.pointer (some ⟨b, 0, none⟩), .slice (some ⟨bb, off, none⟩) L.length cap, .pointer (some ⟨w.heap.size, 0, none⟩), undef, .int .i64 0, chunkV bb off L.length x, undef, undef, undef, .bool false, .pointer (some ⟨b, 0, none⟩), .bool false, .bool false, .slice (some ⟨bb, off, none⟩) L.length cap, .int .i64 L.length, .bool false, .pointer (some ⟨b, 0, none⟩), .slice (some ⟨bb, off, none⟩) L.length cap, .int .i64 L.length, .tuple #[], .slice (some ⟨bb, off, none⟩) L.length cap, .func (.func 82) #[] #[.pointer (some ⟨w2.heap.size, 0, none⟩), .pointer (some ⟨w2.heap.size + 1, 0, none⟩)], chunkV bb off L.length x, undef, undef, undef, undef, undef, undef, undef, undef, undef, undef, undef, undef, undef, undef, undef, undef, undef, undef, undef, undef, undef, undef, undef], defers := [] }) ?assign ?body ?done ?stop
  case assign =>
    intro l x W K hK
    gi_wp2
    exact hK
  case body =>
    rintro l pre x W ⟨v3, hw3, hf3, ha3⟩ hpl
    have hsW := hf3.size
    have hcbox : W.cell? ⟨w.heap.size, 0, none⟩ = some (.pointer (some ⟨b, 0, none⟩)) := (hf3.blk hbox (by omega) hv2w.symm).cell 0
    have hB1W := hf3.blk hB1 (by omega) (fun e => by have := hv2s _ e.symm; omega)
    have hB2W := hf3.blk hB2 (by omega) (fun e => by have := hv2s _ e.symm; omega)
    have hcb : W.cell? ⟨b, 0, none⟩ = some v3 := hw3.1.cell 0
    have hbW : b < W.heap.size := hw3.1.lt
    have hwW : w.heap.size < W.heap.size := by omega
    have hcW : ∀ j, j < L.length → W.cell? ⟨bb, off + j, none⟩ = some (.bool (L.getD j false)) := fun j hj => by
      rw [hf3.cell (p := ⟨bb, off + j, none⟩) (show bb < W0.heap.size by omega) hbb1 hv2bb.symm]; exact hcW0 j hj
    have hlen3 : (bs ++ numB L.length ++ pre.map (chunkB L)).length ≤ 20000000000 := by
      have := numB_length L.length
      rcases sizeN_cases L.length with h | h | h | h <;> simp only [List.length_append, List.length_map, this, h] <;> omega
    obtain ⟨B3, hB3⟩ : ∃ B3, bs ++ numB L.length ++ pre.map (chunkB L) = B3 := ⟨_, rfl⟩
    rw [hB3] at hlen3 hw3
    obtain ⟨c, hcc⟩ : ∃ c, c = min 8 (L.length - 8 * x) := ⟨_, rfl⟩
    have hc8 : c ≤ 8 := by omega
    have hcl : ∀ k, k < c → 8 * x + k < L.length := by omega
    have hch : chunkB L x = UInt8.ofNat (pk (fun i => L.getD (8 * x + i) false) c) := by rw [hcc]; rfl
    unfold chunkV
    rw [← hcc]
    obtain ⟨f, hf⟩ : ∃ f : Nat → Bool, f = fun i => L.getD (8 * x + i) false := ⟨_, rfl⟩
    rw [← hf] at hch
    have hcf : ∀ k, k < c → W.cell? ⟨bb, off + 8 * x + k, none⟩ = some (.bool (f k)) := fun k hk => by
      rw [show off + 8 * x + k = off + (8 * x + k) by omega, hcW _ (hcl k hk), hf]
    have HCC := Lib.hid hcc
    have HCH := Lib.hid hch
    have HCF := Lib.hid hcf
    have HB3 := Lib.hid hB3
    clear hcc hch hcf hcW hf hB3
    gi_wp2
    gi_loop [6, 7, 8, 25] (fun y _ _ i => ∃ k : Nat, k ≤ c ∧ i = .int .i64 k ∧ y = .int .u8 (pk f k)) (fun _ _ _ i => c - (intOf i).toNat)
    case atStart => exact ⟨0, by omega, rfl, rfl⟩
    case round =>
      obtain ⟨k, hk, rfl, rfl⟩ := hrel
      by_cases hlt : k < c
      · have hck := HCF.out k hlt
        cases hfk : f k
        · rw [hfk] at hck
          have HS := Lib.hid (pk_skip f k hfk)
          clear hfk
          gi_wp2
          go_round
          case rel => exact ⟨k + 1, by omega, by go_num, by rw [HS.out]⟩
          case measure => simp [intOf]; omega
        · rw [hfk] at hck
          have HS := Lib.hid (pk_step f k hfk)
          clear hfk
          gi_wp2
          go_round
          case rel => exact ⟨k + 1, by omega, by go_num, by rw [HS.out]⟩
          case measure => simp [intOf]; omega
      · obtain rfl : k = c := by omega
        have hpl := pk_lt f k
        gi_wp2_with fail
        have hns : u8s [UInt8.ofNat (pk f k)] = [.int .u8 (pk f k)] := by
          show [Value.int .u8 ((UInt8.ofNat (pk f k)).toNat : Int)] = _
          rw [UInt8.toNat_ofNat', Nat.mod_eq_of_lt hpl]
        obtain ⟨v4, w4, hrun, hown, hgr, _, hat⟩ := run_append_own_at (P := Try.prog) ((W.alloc (.cells #[.int .u8 (pk f k)] 5)).drew) base 62 62 5 i0 (.int .u8 0) 1 1 Try.underlying62 hi hz0 hz1 hz2 rfl (by decide) v3 B3.length (u8s B3) ((hw3.2.alloc _).drew)
          ⟨W.heap.size, 0, none⟩ 1 1 [.int .u8 (pk f k)] rfl (World.news_of_block (cs := #[.int .u8 (pk f k)]) (t := 5) (fr := (0, 0)) (heap_alloc_new W _)) (by simp [Value.oneCell']) (by unfold maxLen; omega) (by omega) (by have := hw3.2.lt; simp; omega)
        obtain ⟨g, cap4, rfl⟩ := shape_of hown (by omega)
        rw [run_appSem] at hrun
        rw [← hns] at hown
        obtain ⟨q1, q2, q3⟩ := wrote_of (W := (W.alloc (.cells #[.int .u8 (pk f k)] 5)).drew) hw3 (((Below.refl _ _).alloc (Nat.le_refl _) _).drew) rfl hown hgr hat (by simp)
        have hbx4 : w4.cell? ⟨w.heap.size, 0, none⟩ = some (.pointer (some ⟨b, 0, none⟩)) := by
          rw [World.cell?_of_block (hgr.block w.heap.size (by simp; omega) (own_ne hw3.2 (hf3.blk hbox (by omega) hv2w.symm) (by decide)).symm), World.cell?_drew, World.cell?_alloc_lt _ _ _ (by simpa using hwW)]
          exact hcbox
        have FIN := Lib.hid (show KeepsOthers W (w4.setCell ⟨b, 0, none⟩ (.slice (some ⟨g, 0, none⟩) (B3.length + 1) cap4)) ∧ KpB w2.heap.size (w2.heap.size + 1) W (w4.setCell ⟨b, 0, none⟩ (.slice (some ⟨g, 0, none⟩) (B3.length + 1) cap4)) ∧
            Wrote W0 (w4.setCell ⟨b, 0, none⟩ (.slice (some ⟨g, 0, none⟩) (B3.length + 1) cap4)) base b v2 (bs ++ numB L.length ++ (pre ++ [x]).map (chunkB L)) from by
          have e : bs ++ numB L.length ++ (pre ++ [x]).map (chunkB L) = B3 ++ [UInt8.ofNat (pk f k)] := by
            rw [List.map_append, ← List.append_assoc, HB3.out, ← HCH.out]; rfl
          rw [e]
          exact ⟨keeps_of_wrote hw3 q3, kp_of_wrote hw3 q3 hB1W hB2W (by omega) (by omega) (by decide) (by decide), Wrote.trans hf3 ha3 q3⟩)
        clear q3 hown hgr hat hns HCC HCF HCH HB3 hc8 hcl hlt hk hpl hlen3 hB1W hB2W hw3 hf3 ha3 hsW hfW0 ha0 hbox hcW0 hv2s hv2bb hv2w hw20 hbl hB1 hB2 hb20 hs0 HW0 hsz2 ha2 hf2 hw2 hw1 hi hz0 hz1 hz2 hbb2 hbb1 hbb hcap2 hcap hL hbase hw hlen
        gi_region
        all_goals first
          | exact FIN.out
          | (gi_wp2; exact FIN.out)
  case done =>
    rintro D ys W hD rfl hI hK
    gi_wp2
    have hI2 := (wrote_own (w := W0) (B := W0.heap.size) (base := base) (b := b) (v := v2) (f := fun pre => bs ++ numB L.length ++ pre.map (chunkB L)) (Nat.le_refl _)).putObj (o' := .deferred none) hI hD hK rfl
    refine ⟨by simp, .inl ⟨_, _, rfl, run_takeDeferred hK, ?_⟩⟩
    refine ⟨_, results_tmp rfl _ _ _, rfl, ?_⟩
    have e : bs ++ bitB L = bs ++ numB L.length ++ (upto ((L.length + 7) / 8)).map (chunkB L) := by unfold bitB; rw [List.append_assoc]
    rw [e]
    exact Wrote.trans hfW0 ha0 hI2
  case stop =>
    rintro D c pre W _ _ h _
    exact h.elim
end Go.Proofs.Yteendimoopmakaa
