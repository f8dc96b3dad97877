/- Chunks and Bits of a writer over a slice of any capacity, and the law's write of items of up to 65536. -/
import Derived.Test.YteendimoopmakaaT15
import Derived.Sort.QuietIn
import Derived.Stop.RegionWithIn
namespace Go.Proofs.Yteendimoopmakaa
open Go.RowKit Go.Shelf
attribute [local go_sem] Oper.semAt_some

set_option maxRecDepth 100000 in
set_option maxHeartbeats 2000000 in
theorem chunk1_inw (n : Nat) (hn : 1 ≤ n) (l B1 B2 b off len cap : Nat) (hlen : len ≤ 65536) (hcap : len ≤ cap) (hcap2 : cap ≤ 9223372036854775807) (J Jx : List Nat → World → Prop)
    (hY : ∀ pre x W, J pre W → pre.length < (len + 7) / 8 → YieldAt Fence.wide (n - 1) Try.prog l #[chunkV b off len x] W fun e W' =>
      (e = .returned (.bool true) ∧ J (pre ++ [x]) W' ∧ KpB B1 B2 W W') ∨ (e = .returned (.bool false) ∧ Jx (pre ++ [x]) W'))
    (hdr : ∀ pre W n, J pre W → J pre (W.drewN n)) (W : World) (h1 : W.heap[B1]? = some (.cells #[.slice (some ⟨b, off, none⟩) len cap] 33 (0, 0))) (h2 : W.heap[B2]? = some (.cells #[.int .i64 8] 3 (0, 0))) (h0 : J [] W) :
    CallsIn Fence.wide n Try.prog 82 #[.func (.yield l) #[] #[], .pointer (some ⟨B1, 0, none⟩), .pointer (some ⟨B2, 0, none⟩)] W fun e W' => (∃ v, e = .returned v) ∧
      ((∃ ys, ys = upto ((len + 7) / 8) ∧ J ys W') ∨ (∃ pre, (∃ k, k ≤ (len + 7) / 8 ∧ pre = upto k) ∧ Jx pre W')) := by
  refine callsIn_of_wp Try.func82 rfl trivial ?_ rfl
  simp only [Try.ntmps82, List.size_toArray, List.length_cons, List.length_nil, Nat.reduceAdd, Nat.reduceSub, Array.replicate_succ, Array.replicate_zero, List.push_toArray, List.append_toArray, List.nil_append, List.cons_append]
  gi_wp2
  gi_loopw [4] (fun i wr => ∃ k : Nat, k ≤ (len + 7) / 8 ∧ i = .int .i64 ((8 * k : Nat) : Int) ∧ J (upto k) wr ∧ wr.heap[B1]? = some (.cells #[.slice (some ⟨b, off, none⟩) len cap] 33 (0, 0)) ∧ wr.heap[B2]? = some (.cells #[.int .i64 8] 3 (0, 0)))
    (fun i _ => (len + 8) - (intOf i).toNat)
  case atStart => exact ⟨0, Nat.zero_le _, rfl, h0, h1, h2⟩
  case round =>
    obtain ⟨k, hk, rfl, hJs, hb1, hb2⟩ := hrel
    have hc1 : wr.cell? ⟨B1, 0, none⟩ = some (.slice (some ⟨b, off, none⟩) len cap) := cell_of_row wr B1 0 _ _ _ hb1
    have hc2 : wr.cell? ⟨B2, 0, none⟩ = some (.int .i64 8) := cell_of_row wr B2 0 _ _ _ hb2
    by_cases hlt : 8 * k < len
    · by_cases hfull : 8 * k + 8 ≤ len
      · obtain ⟨q, rfl⟩ : ∃ q, len = 8 * k + (8 + q) := ⟨len - (8 * k + 8), by omega⟩
        have x0 : ((8 * k : Nat) : Int) ≤ ((8 * k + (8 + q) : Nat) : Int) := by omega
        have x2 : ((8 * k : Nat) : Int) ≤ (cap : Int) := by omega
        have x3 : (0 : Int) ≤ ((8 * k : Nat) : Int) := by omega
        have x9 : ¬ cap = 8 * k := by omega
        have x4 : 8 * k + (8 + q) - 8 * k = 8 + q := by omega
        have x5 : min 8 (8 + q) = 8 := by omega
        have x6 : (8 * (k : Int) + 8).toNat = 8 * k + 8 := by omega
        have x7 : 8 * k + 8 - 8 * k = 8 := by omega
        have x8 : (8 : Int) ≤ 8 + (q : Int) := by omega
        gi_wp2_with fail
        gi_quiet (fail)
        rename_i nq
        obtain ⟨fn, tmps, assign, body, hy, hR⟩ := hY _ k (wr.drewN nq) (hdr _ _ _ hJs) (by rw [upto_length]; omega)
        unfold chunkV at hy
        rw [x4, x5] at hy
        gi_wp2
        refine hR.mono ?_
        rintro e W3 (⟨rfl, hJ3, hk3⟩ | ⟨rfl, hJx3⟩)
        · have hc3 : W3.cell? ⟨B2, 0, none⟩ = some (.int .i64 8) := cell_of_row W3 B2 0 _ _ _ (hk3.2.trans hb2)
          gi_wp2
          go_roundw
          case rel => exact ⟨k + 1, by omega, by go_num, by rw [upto_succ]; exact hJ3, hk3.1.trans hb1, hk3.2.trans hb2⟩
          case measure => simp [intOf]; omega
        · gi_wp2
          refine bodyPost_ret (results_none rfl _ _ _) rfl ?_
          exact ⟨⟨_, rfl⟩, .inr ⟨_, ⟨k + 1, by omega, (upto_succ _).symm⟩, hJx3⟩⟩
      · obtain ⟨q, rfl⟩ : ∃ q, len = 8 * k + q := ⟨len - 8 * k, by omega⟩
        have x0 : ((8 * k : Nat) : Int) ≤ ((8 * k + q : Nat) : Int) := by omega
        have x2 : ((8 * k : Nat) : Int) ≤ (cap : Int) := by omega
        have x3 : (0 : Int) ≤ ((8 * k : Nat) : Int) := by omega
        have x9 : ¬ cap = 8 * k := by omega
        have x4 : 8 * k + q - 8 * k = q := by omega
        have x5 : min 8 q = q := by omega
        have x6 : (8 * (k : Int) + (q : Int)).toNat = 8 * k + q := by omega
        have x8 : ¬ (8 : Int) ≤ (q : Int) := by omega
        gi_wp2_with fail
        gi_quiet (fail)
        rename_i nq
        obtain ⟨fn, tmps, assign, body, hy, hR⟩ := hY _ k (wr.drewN nq) (hdr _ _ _ hJs) (by rw [upto_length]; omega)
        unfold chunkV at hy
        rw [x4, x5] at hy
        gi_wp2
        refine hR.mono ?_
        rintro e W3 (⟨rfl, hJ3, hk3⟩ | ⟨rfl, hJx3⟩)
        · have hc3 : W3.cell? ⟨B2, 0, none⟩ = some (.int .i64 8) := cell_of_row W3 B2 0 _ _ _ (hk3.2.trans hb2)
          gi_wp2
          go_roundw
          case rel => exact ⟨k + 1, by omega, by go_num, by rw [upto_succ]; exact hJ3, hk3.1.trans hb1, hk3.2.trans hb2⟩
          case measure => simp [intOf]; omega
        · gi_wp2
          refine bodyPost_ret (results_none rfl _ _ _) rfl ?_
          exact ⟨⟨_, rfl⟩, .inr ⟨_, ⟨k + 1, by omega, (upto_succ _).symm⟩, hJx3⟩⟩
    · obtain rfl : k = (len + 7) / 8 := by omega
      have x1 : ¬ ((8 * ((len + 7) / 8) : Nat) : Int) < (len : Int) := by omega
      gi_wp2
      go_end0
      first
        | exact ⟨⟨_, rfl⟩, .inl ⟨_, rfl, hJs⟩⟩
        | exact ⟨⟨_, rfl⟩, .inl hJs⟩

theorem chunk_stopsw (n : Nat) (hn : 1 ≤ n) (B1 B2 b off len cap : Nat) (hlen : len ≤ 65536) (hcap : len ≤ cap) (hcap2 : cap ≤ 9223372036854775807) (w : World)
    (h1 : w.heap[B1]? = some (.cells #[.slice (some ⟨b, off, none⟩) len cap] 33 (0, 0))) (h2 : w.heap[B2]? = some (.cells #[.int .i64 8] 3 (0, 0))) :
    SeqStopsK Fence.wide n Try.prog 82 #[.pointer (some ⟨B1, 0, none⟩), .pointer (some ⟨B2, 0, none⟩)] (fun x : Nat => #[chunkV b off len x]) (KpB B1 B2) (fun ys => ys = upto ((len + 7) / 8)) (fun pre => ∃ k, k ≤ (len + 7) / 8 ∧ pre = upto k) ((len + 7) / 8) w := fun l J Jx W hW hJ _ hY h0 => by
  have e1 := (hW.block B1 (Array.getElem?_eq_some_iff.1 h1).1).trans h1
  have e2 := (hW.block B2 (Array.getElem?_eq_some_iff.1 h2).1).trans h2
  exact (chunk1_inw n hn l B1 B2 b off len cap hlen hcap hcap2 J Jx hY (abides_drewN hJ) W e1 e2 h0).mono fun e W' ⟨he, h⟩ => ⟨he, h.imp (fun ⟨ys, hy, hj⟩ => ⟨ys, hy, hj⟩) (fun ⟨pre, hp, hj⟩ => ⟨pre, hp, hj⟩)⟩
attribute [local go_sem ↓] run_appSem
set_option maxRecDepth 100000 in
set_option maxHeartbeats 3200000 in
theorem Bits_anyw (base b : Nat) (v : Value) (bs : List UInt8) (bb off cap : Nat) (L : List Bool) (w : World) (hlen : bs.length ≤ 10000000000) (hw : WrAt w base b v bs) (hbase : base ≤ w.heap.size)
    (hL : L.length ≤ 65536) (hcap : L.length ≤ cap) (hcap2 : cap ≤ 9223372036854775807) (hbb : bb < w.heap.size) (hbb1 : bb ≠ b) (hbb2 : v.ownBlock ≠ some bb) (hc : ∀ j, j < L.length → w.cell? ⟨bb, off + j, none⟩ = some (.bool (L.getD j false))) :
    Calls Try.prog 30 #[.pointer (some ⟨b, 0, none⟩), .slice (some ⟨bb, off, none⟩) L.length cap] w fun e w' => e = .returned (.int .i64 0) ∧ Wrote w w' base b v (bs ++ bitB L) := by
  obtain ⟨i0, hi, hz0, hz1, hz2⟩ := info_parts Try.info5
  have hw1 := hw.below (w' := w.alloc (.cells #[.pointer (some ⟨b, 0, none⟩)] 23)) ((Below.refl _ _).alloc (Nat.le_refl _) _)
  have hd : decide ((65536 : Int) < (L.length : Int)) = false := by rw [decide_eq_false_iff_not]; omega
  refine (callsIn_wide (n := 3)).1 ?_
  refine callsIn_of_wp_marks Try.func30 rfl trivial ?_
  simp only [Try.ntmps30, List.size_toArray, List.length_cons, List.length_nil, Nat.reduceAdd, Nat.reduceSub, Array.replicate_succ, Array.replicate_zero, List.push_toArray, List.append_toArray, List.nil_append, List.cons_append]
  gi_wp2_with fail
  refine ⟨trivial, ?_⟩
  refine (callsIn_wide.2 (number_any L.length base b v bs _ (by omega) (by omega) (by omega) (by exact hw1) (by simp; omega))).mono ?_
  rintro e w2 ⟨rfl, v2, hw2, hf2, ha2⟩
  have hsz2 := hf2.size
  simp at hsz2
  gi_wp2_with fail
  refine ⟨trivial, ?_⟩
  refine (callsIn_wide.2 (chunk_any _ _ _ _)).mono ?_
  rintro e w3 ⟨rfl, rfl⟩
  gi_wp2_with fail
  clear hd
  obtain ⟨W0, hW0⟩ : ∃ W0, (w2.alloc (.cells #[.slice (some ⟨bb, off, none⟩) L.length cap] 33)).alloc (.cells #[.int .i64 8] 3) = W0 := ⟨_, rfl⟩
  have hs0 : W0.heap.size = w2.heap.size + 2 := by rw [← hW0]; simp
  have hb20 : Below w2.heap.size w2 W0 := by rw [← hW0]; exact ((Below.refl _ _).alloc (Nat.le_refl _) _).alloc (by simp) _
  have hB1 : Blk W0 w2.heap.size 33 [.slice (some ⟨bb, off, none⟩) L.length cap] := by rw [← hW0]; exact (Blk.new w2 33 [.slice (some ⟨bb, off, none⟩) L.length cap]).alloc _
  have hB2 : Blk W0 (w2.heap.size + 1) 3 [.int .i64 8] := by rw [← hW0]; have := Blk.new (w2.alloc (.cells #[.slice (some ⟨bb, off, none⟩) L.length cap] 33)) 3 [.int .i64 8]; rwa [World.size_alloc] at this
  have hbl := hw.1.lt
  have hw20 := hw2.below hb20
  have hv2bb : v2.ownBlock ≠ some bb := by
    intro e
    rcases ha2 with h | h
    · exact hbb2 (h ▸ e)
    · have := h bb e; simp at this; omega
  have hv2w : v2.ownBlock ≠ some w.heap.size := by
    intro e
    rcases ha2 with h | h
    · have := (hw.2.lt w.heap.size (h ▸ e)).2; omega
    · have := h _ e; simp at this; omega
  have hv2s : ∀ k, v2.ownBlock = some k → k < w2.heap.size := fun k e => (hw2.2.lt k e).2
  have hcW0 : ∀ j, j < L.length → W0.cell? ⟨bb, off + j, none⟩ = some (.bool (L.getD j false)) := fun j hj => by
    rw [hb20.cell (p := ⟨bb, off + j, none⟩) (show bb < w2.heap.size by omega), hf2.cell (p := ⟨bb, off + j, none⟩) (show bb < _ by simp; omega) hbb1 (Ne.symm hbb2), World.cell?_alloc_lt _ _ _ hbb]
    exact hc j hj
  have hbox : Blk W0 w.heap.size 23 [.pointer (some ⟨b, 0, none⟩)] := by
    refine Blk.below (Fr.blk hf2 (Blk.new w 23 [.pointer (some ⟨b, 0, none⟩)]) (by omega) ?_) hb20 (by omega)
    intro e
    have := (hw.2.lt _ e.symm).2
    omega
  have hfW0 : Fr w W0 b v.ownBlock := by
    refine ⟨hb20.os.trans hf2.os, hb20.tape.trans hf2.tape, hb20.output.trans hf2.output, by omega, fun k hk hb hr => ?_⟩
    rw [hb20.block k (by omega), hf2.block k (by simp; omega) hb hr, Below.heap_alloc _ _ _ hk]
  have ha0 : v2.ownBlock = v.ownBlock ∨ ∀ k, v2.ownBlock = some k → w.heap.size ≤ k := ha2.imp id fun h k hk => by have := h k hk; simp at this; omega
  rw [hW0]
  have HW0 := Lib.hid hW0
  clear hW0 hc
  refine wpIn_rangeFunc_ownF rfl (by omega) (gf := 82) (lb := #[.pointer (some ⟨w2.heap.size, 0, none⟩), .pointer (some ⟨w2.heap.size + 1, 0, none⟩)]) rfl trivial (enters_of Try.func82 (by kernel_rfl) rfl)
    (chunk_stopsw 2 (by omega) w2.heap.size (w2.heap.size + 1) bb off L.length cap hL hcap hcap2 W0 hB1 hB2) (fun h k => ⟨k.1.trans h.1, k.2.trans h.2⟩)
    (fun W l o o' hl _ _ _ => ⟨World.putObj_heap_other (by omega), World.putObj_heap_other (by omega)⟩) (Below.refl _ _) (fun _ => rfl)
    (fun pre W => Wrote W0 W base b v2 (bs ++ numB L.length ++ pre.map (chunkB L))) (fun _ _ _ => False) (wrote_own (Nat.le_refl _)) (fun _ _ _ _ _ h _ _ => h)
    (by rw [List.map_nil, List.append_nil]; exact Wrote.same hw20 (Below.refl _ _))
    (fun x => { tmps := #[.pointer (some ⟨b, 0, none⟩), .slice (some ⟨bb, off, none⟩) L.length cap, .pointer (some ⟨w.heap.size, 0, none⟩), undef, .int .i64 0, chunkV bb off L.length x, undef, undef, undef, .bool false, .pointer (some ⟨b, 0, none⟩), .bool false, .bool false, .slice (some ⟨bb, off, none⟩) L.length cap, .int .i64 L.length, .bool false, .pointer (some ⟨b, 0, none⟩), .slice (some ⟨bb, off, none⟩) L.length cap, .int .i64 L.length, .tuple #[], .slice (some ⟨bb, off, none⟩) L.length cap, .func (.func 82) #[] #[.pointer (some ⟨w2.heap.size, 0, none⟩), .pointer (some ⟨w2.heap.size + 1, 0, none⟩)], chunkV bb off L.length x, undef, undef, undef, undef, undef, undef, undef, undef, undef, undef, undef, undef, undef, undef, undef, undef, undef, undef, undef, undef, undef, undef, undef], defers := [] }) ?assign ?body ?done ?stop
  case assign =>
    intro l x W K hK
    gi_wp2
    exact hK
  case body =>
    rintro l pre x W ⟨v3, hw3, hf3, ha3⟩ hpl
    have hsW := hf3.size
    have hcbox : W.cell? ⟨w.heap.size, 0, none⟩ = some (.pointer (some ⟨b, 0, none⟩)) := (hf3.blk hbox (by omega) hv2w.symm).cell 0
    have hB1W := hf3.blk hB1 (by omega) (fun e => by have := hv2s _ e.symm; omega)
    have hB2W := hf3.blk hB2 (by omega) (fun e => by have := hv2s _ e.symm; omega)
    have hcb : W.cell? ⟨b, 0, none⟩ = some v3 := hw3.1.cell 0
    have hbW : b < W.heap.size := hw3.1.lt
    have hwW : w.heap.size < W.heap.size := by omega
    have hcW : ∀ j, j < L.length → W.cell? ⟨bb, off + j, none⟩ = some (.bool (L.getD j false)) := fun j hj => by
      rw [hf3.cell (p := ⟨bb, off + j, none⟩) (show bb < W0.heap.size by omega) hbb1 hv2bb.symm]; exact hcW0 j hj
    have hlen3 : (bs ++ numB L.length ++ pre.map (chunkB L)).length ≤ 20000000000 := by
      have := numB_length L.length
      rcases sizeN_cases L.length with h | h | h | h <;> simp only [List.length_append, List.length_map, this, h] <;> omega
    obtain ⟨B3, hB3⟩ : ∃ B3, bs ++ numB L.length ++ pre.map (chunkB L) = B3 := ⟨_, rfl⟩
    rw [hB3] at hlen3 hw3
    obtain ⟨c, hcc⟩ : ∃ c, c = min 8 (L.length - 8 * x) := ⟨_, rfl⟩
    have hc8 : c ≤ 8 := by omega
    have hcl : ∀ k, k < c → 8 * x + k < L.length := by omega
    have hch : chunkB L x = UInt8.ofNat (pk (fun i => L.getD (8 * x + i) false) c) := by rw [hcc]; rfl
    unfold chunkV
    rw [← hcc]
    obtain ⟨f, hf⟩ : ∃ f : Nat → Bool, f = fun i => L.getD (8 * x + i) false := ⟨_, rfl⟩
    rw [← hf] at hch
    have hcf : ∀ k, k < c → W.cell? ⟨bb, off + 8 * x + k, none⟩ = some (.bool (f k)) := fun k hk => by
      rw [show off + 8 * x + k = off + (8 * x + k) by omega, hcW _ (hcl k hk), hf]
    have HCC := Lib.hid hcc
    have HCH := Lib.hid hch
    have HCF := Lib.hid hcf
    have HB3 := Lib.hid hB3
    clear hcc hch hcf hcW hf hB3
    gi_wp2
    gi_loop [6, 7, 8, 25] (fun y _ _ i => ∃ k : Nat, k ≤ c ∧ i = .int .i64 k ∧ y = .int .u8 (pk f k)) (fun _ _ _ i => c - (intOf i).toNat)
    case atStart => exact ⟨0, by omega, rfl, rfl⟩
    case round =>
      obtain ⟨k, hk, rfl, rfl⟩ := hrel
      by_cases hlt : k < c
      · have hck := HCF.out k hlt
        cases hfk : f k
        · rw [hfk] at hck
          have HS := Lib.hid (pk_skip f k hfk)
          clear hfk
          gi_wp2
          go_round
          case rel => exact ⟨k + 1, by omega, by go_num, by rw [HS.out]⟩
          case measure => simp [intOf]; omega
        · rw [hfk] at hck
          have HS := Lib.hid (pk_step f k hfk)
          clear hfk
          gi_wp2
          go_round
          case rel => exact ⟨k + 1, by omega, by go_num, by rw [HS.out]⟩
          case measure => simp [intOf]; omega
      · obtain rfl : k = c := by omega
        have hpl := pk_lt f k
        gi_wp2_with fail
        have hns : u8s [UInt8.ofNat (pk f k)] = [.int .u8 (pk f k)] := by
          show [Value.int .u8 ((UInt8.ofNat (pk f k)).toNat : Int)] = _
          rw [UInt8.toNat_ofNat', Nat.mod_eq_of_lt hpl]
        obtain ⟨v4, w4, hrun, hown, hgr, _, hat⟩ := run_append_own_at (P := Try.prog) ((W.alloc (.cells #[.int .u8 (pk f k)] 5)).drew) base 62 62 5 i0 (.int .u8 0) 1 1 Try.underlying62 hi hz0 hz1 hz2 rfl (by decide) v3 B3.length (u8s B3) ((hw3.2.alloc _).drew)
          ⟨W.heap.size, 0, none⟩ 1 1 [.int .u8 (pk f k)] rfl (World.news_of_block (cs := #[.int .u8 (pk f k)]) (t := 5) (fr := (0, 0)) (heap_alloc_new W _)) (by simp [Value.oneCell']) (by unfold maxLen; omega) (by omega) (by have := hw3.2.lt; simp; omega)
        obtain ⟨g, cap4, rfl⟩ := shape_of hown (by omega)
        rw [run_appSem] at hrun
        rw [← hns] at hown
        obtain ⟨q1, q2, q3⟩ := wrote_of (W := (W.alloc (.cells #[.int .u8 (pk f k)] 5)).drew) hw3 (((Below.refl _ _).alloc (Nat.le_refl _) _).drew) rfl hown hgr hat (by simp)
        have hbx4 : w4.cell? ⟨w.heap.size, 0, none⟩ = some (.pointer (some ⟨b, 0, none⟩)) := by
          rw [World.cell?_of_block (hgr.block w.heap.size (by simp; omega) (own_ne hw3.2 (hf3.blk hbox (by omega) hv2w.symm) (by decide)).symm), World.cell?_drew, World.cell?_alloc_lt _ _ _ (by simpa using hwW)]
          exact hcbox
        have FIN := Lib.hid (show KeepsOthers W (w4.setCell ⟨b, 0, none⟩ (.slice (some ⟨g, 0, none⟩) (B3.length + 1) cap4)) ∧ KpB w2.heap.size (w2.heap.size + 1) W (w4.setCell ⟨b, 0, none⟩ (.slice (some ⟨g, 0, none⟩) (B3.length + 1) cap4)) ∧
            Wrote W0 (w4.setCell ⟨b, 0, none⟩ (.slice (some ⟨g, 0, none⟩) (B3.length + 1) cap4)) base b v2 (bs ++ numB L.length ++ (pre ++ [x]).map (chunkB L)) from by
          have e : bs ++ numB L.length ++ (pre ++ [x]).map (chunkB L) = B3 ++ [UInt8.ofNat (pk f k)] := by
            rw [List.map_append, ← List.append_assoc, HB3.out, ← HCH.out]; rfl
          rw [e]
          exact ⟨keeps_of_wrote hw3 q3, kp_of_wrote hw3 q3 hB1W hB2W (by omega) (by omega) (by decide) (by decide), Wrote.trans hf3 ha3 q3⟩)
        clear q3 hown hgr hat hns HCC HCF HCH HB3 hc8 hcl hlt hk hpl hlen3 hB1W hB2W hw3 hf3 ha3 hsW hfW0 ha0 hbox hcW0 hv2s hv2bb hv2w hw20 hbl hB1 hB2 hb20 hs0 HW0 hsz2 ha2 hf2 hw2 hw1 hi hz0 hz1 hz2 hbb2 hbb1 hbb hcap2 hcap hL hbase hw hlen
        gi_region
        all_goals first
          | exact FIN.out
          | (gi_wp2; exact FIN.out)
  case done =>
    rintro D ys W hD rfl hI hK
    gi_wp2
    have hI2 := (wrote_own (w := W0) (B := W0.heap.size) (base := base) (b := b) (v := v2) (f := fun pre => bs ++ numB L.length ++ pre.map (chunkB L)) (Nat.le_refl _)).putObj (o' := .deferred none) hI hD hK rfl
    refine ⟨by simp, .inl ⟨_, _, rfl, run_takeDeferred hK, ?_⟩⟩
    refine ⟨_, results_tmp rfl _ _ _, rfl, ?_⟩
    have e : bs ++ bitB L = bs ++ numB L.length ++ (upto ((L.length + 7) / 8)).map (chunkB L) := by unfold bitB; rw [List.append_assoc]
    rw [e]
    exact Wrote.trans hfW0 ha0 hI2
  case stop =>
    rintro D c pre W _ _ h _
    exact h.elim

section
variable {w : World} {base b B : Nat} {v : Value} {bs : List UInt8}

set_option maxRecDepth 100000 in
set_option maxHeartbeats 1600000 in
theorem write_k3b (size n : Int) (s : ByteArray) (so : Option Addr) (ls cs : Nat) (hs : s.size ≤ 65536) (hlen : bs.length ≤ 100000) (hw : WrAt w base b v bs) (hbase : base ≤ w.heap.size) :
    Calls Try.prog 19 #[.pointer (some ⟨b, 0, none⟩), .agg #[.int .i64 3, .int .i64 size, .int .i64 n, .string s, .slice so ls cs]] w (WritePost w base b v bs (0) (numB s.size ++ s.data.toList)) := by
  have hb0 : Below w.heap.size w (w.alloc (.cells #[.int .i64 3, .int .i64 size, .int .i64 n, .string s, .slice so ls cs] 35)) := (Below.refl _ _).alloc (Nat.le_refl _) _
  have hw0 := hw.below hb0
  go_enter Try.func19, Try.ntmps19
  go_wp2_with fail
  refine (String_any s base b v bs _ (by omega) hlen (by exact hw0) (by simp; omega)).mono ?_
  rintro e w1 ⟨rfl, hq⟩
  have HQ := Lib.hid hq
  clear hq
  go_wp2
  go_ret
  exact ⟨rfl, Wrote.below hb0 HQ.out⟩

set_option maxRecDepth 100000 in
set_option maxHeartbeats 1600000 in
theorem write_k4b (size n : Int) (s : ByteArray) (bb off cap : Nat) (L : List Bool) (hL : L.length ≤ 65536) (hcap : L.length ≤ cap) (hcap2 : cap ≤ 9223372036854775807) (hbb : bb < w.heap.size) (hbb1 : bb ≠ b) (hbb2 : v.ownBlock ≠ some bb) (hc : ∀ j, j < L.length → w.cell? ⟨bb, off + j, none⟩ = some (.bool (L.getD j false))) (hlen : bs.length ≤ 100000) (hw : WrAt w base b v bs) (hbase : base ≤ w.heap.size) :
    Calls Try.prog 19 #[.pointer (some ⟨b, 0, none⟩), .agg #[.int .i64 4, .int .i64 size, .int .i64 n, .string s, .slice (some ⟨bb, off, none⟩) L.length cap]] w (WritePost w base b v bs (0) (bitB L)) := by
  have hb0 : Below w.heap.size w (w.alloc (.cells #[.int .i64 4, .int .i64 size, .int .i64 n, .string s, .slice (some ⟨bb, off, none⟩) L.length cap] 35)) := (Below.refl _ _).alloc (Nat.le_refl _) _
  have hw0 := hw.below hb0
  have hc' := fun j (hj : j < L.length) => (hb0.cell (p := ⟨bb, off + j, none⟩) hbb).trans (hc j hj)
  have HC := Lib.hid hc'
  clear hc hc'
  go_enter Try.func19, Try.ntmps19
  go_wp2_with fail
  refine (Bits_anyw base b v bs bb off cap L _ (by omega) (by exact hw0) (by simp; omega) (by omega) hcap hcap2 (by simp; omega) hbb1 hbb2 (by exact HC.out)).mono ?_
  rintro e w1 ⟨rfl, hq⟩
  have HQ := Lib.hid hq
  clear hq
  go_wp2
  go_ret
  exact ⟨rfl, Wrote.below hb0 HQ.out⟩

set_option maxRecDepth 100000 in
set_option maxHeartbeats 1600000 in
theorem write_rawb (kind size n : Int) (s : ByteArray) (so : Option Addr) (ls cs : Nat) (hk : kind ≠ 0 ∧ kind ≠ 1 ∧ kind ≠ 2 ∧ kind ≠ 6 ∧ kind ≠ 3 ∧ kind ≠ 4) (hs : s.size ≤ 65536) (hlen : bs.length ≤ 100000) (hw : WrAt w base b v bs) (hbase : base ≤ w.heap.size) :
    Calls Try.prog 19 #[.pointer (some ⟨b, 0, none⟩), .agg #[.int .i64 kind, .int .i64 size, .int .i64 n, .string s, .slice so ls cs]] w (WritePost w base b v bs 0 s.data.toList) := by
  have hb0 : Below w.heap.size w (w.alloc (.cells #[.int .i64 kind, .int .i64 size, .int .i64 n, .string s, .slice so ls cs] 35)) := (Below.refl _ _).alloc (Nat.le_refl _) _
  have hw0 := hw.below hb0
  obtain ⟨k0, k1, k2, k6, k3, k4⟩ := hk
  have e0 : (kind == 0) = false := by rw [beq_eq_false_iff_ne]; exact k0
  have e1 : (kind == 1) = false := by rw [beq_eq_false_iff_ne]; exact k1
  have e2 : (kind == 2) = false := by rw [beq_eq_false_iff_ne]; exact k2
  have e6 : (kind == 6) = false := by rw [beq_eq_false_iff_ne]; exact k6
  have e3 : (kind == 3) = false := by rw [beq_eq_false_iff_ne]; exact k3
  have e4 : (kind == 4) = false := by rw [beq_eq_false_iff_ne]; exact k4
  clear k0 k1 k2 k6 k3 k4
  go_enter Try.func19, Try.ntmps19
  go_wp2_with fail
  refine (Raw_any s base b v bs _ (by omega) hlen (by exact hw0) (by simp; omega)).mono ?_
  rintro e w1 ⟨rfl, hq⟩
  have HQ := Lib.hid hq
  clear hq
  go_wp2
  go_ret
  exact ⟨rfl, Wrote.below hb0 HQ.out⟩

/-- The law's write of an item of up to 65536, whose bools lie outside the writer. -/
theorem write_big (x : It) (h0 : -9223372036854775808 ≤ x.n) (h1 : x.n ≤ 9223372036854775807) (hs : x.s.size ≤ 65536) (hL : x.L.length ≤ 65536)
    (hbl : (∃ ao cp, x.sl = .slice ao 0 cp ∧ x.L = []) ∨ ∃ bb off cap, x.sl = .slice (some ⟨bb, off, none⟩) x.L.length cap ∧ bb < w.heap.size ∧ bb ≠ b ∧ v.ownBlock ≠ some bb ∧ x.L.length ≤ cap ∧ cap ≤ 9223372036854775807 ∧ ∀ j, j < x.L.length → w.cell? ⟨bb, off + j, none⟩ = some (.bool (x.L.getD j false)))
    (hlen : bs.length ≤ 100000) (hw : WrAt w base b v bs) (hbase : base ≤ w.heap.size) :
    Calls Try.prog 19 #[.pointer (some ⟨b, 0, none⟩), x.val] w (WritePost w base b v bs (wrE x) (wrB x)) := by
  obtain ⟨kind, size, n, s, sl, L⟩ := x
  dsimp only at h0 h1 hbl hs hL
  have hsl : ∃ so ls cs, sl = .slice so ls cs := by
    rcases hbl with ⟨ao, cp, rfl, _⟩ | ⟨bb, off, cap, rfl, _⟩
    · exact ⟨_, _, _, rfl⟩
    · exact ⟨_, _, _, rfl⟩
  unfold wrE wrB It.val
  dsimp only
  by_cases k0 : kind = 0
  · obtain ⟨so, ls, cs, rfl⟩ := hsl
    subst k0
    exact write_k0 size n s so ls cs h0 h1 hlen hw hbase
  rw [if_neg k0, if_neg k0]
  by_cases k1 : kind = 1
  · obtain ⟨so, ls, cs, rfl⟩ := hsl
    subst k1
    exact write_k1 size n s so ls cs h0 h1 hlen hw hbase
  rw [if_neg k1, if_neg k1]
  by_cases k2 : kind = 2
  · obtain ⟨so, ls, cs, rfl⟩ := hsl
    subst k2
    exact write_k2 size n s so ls cs h0 h1 hlen hw hbase
  by_cases k6 : kind = 6
  · obtain ⟨so, ls, cs, rfl⟩ := hsl
    subst k6
    exact write_k6 size n s so ls cs h0 h1 hlen hw hbase
  rw [if_neg (by rintro (h | h); exact k2 h; exact k6 h)]
  by_cases k3 : kind = 3
  · obtain ⟨so, ls, cs, rfl⟩ := hsl
    subst k3
    exact write_k3b size n s so ls cs hs hlen hw hbase
  rw [if_neg k3]
  by_cases k4 : kind = 4
  · subst k4
    rw [if_pos rfl]
    rcases hbl with ⟨ao, cp, rfl, rfl⟩ | ⟨bb, off, cap, rfl, hb1, hb2, hb3, hc1, hc2, hc⟩
    · exact write_k4n size n s ao cp hlen hw hbase
    · exact write_k4b size n s bb off cap L hL hc1 hc2 hb1 hb2 hb3 hc hlen hw hbase
  · obtain ⟨so, ls, cs, rfl⟩ := hsl
    rw [if_neg k4]
    exact write_rawb kind size n s so ls cs ⟨k0, k1, k2, k6, k3, k4⟩ hs hlen hw hbase
end
end Go.Proofs.Yteendimoopmakaa
