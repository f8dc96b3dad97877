/- The reference's Stream (func 38) and Mask (func 40). -/
import Derived.Test.YtmblnacckboggaaDoorT2
import Derived.Test.YtmblnacckboggaaDoorR3
import Derived.Deep.AppendLies
namespace Go.Proofs.YtmblnacckboggaaDoor
open Go.RowKit
theorem info5 : (Tryd.prog.info? 5).map (fun i => (i.zero, i.size, i.bytes)) = some (some (Value.int .u8 0), 1, 1) := by kernel_rfl
theorem own_below {B : Nat} {a w w1 : World} {e : TypeId} {size n : Nat} {v : Value} {xs : List Value} (h : Below B a w) (ho : w.ownsRow B e size v n xs) (hg : w.grownBy w1 v.ownBlock) (hB : B ≤ a.heap.size) : Below B a w1 := by
  obtain ⟨h1, h2, h3, h4, h5⟩ := hg
  refine h.trans ⟨h1, h2, h3, h4, fun k hk => h5 k (Nat.lt_of_lt_of_le hk (Nat.le_trans hB h.size)) fun e => ?_⟩
  rcases ho.2 with ⟨rfl, _⟩ | ⟨g, cap, cur, rfl, hbg, _⟩
  · cases e
  · simp only [Value.ownBlock, Option.some.injEq] at e
    omega
theorem own0 (w : World) : (w.alloc (.cells #[] 5)).ownsRow w.heap.size 5 1 (.slice (some ⟨w.heap.size, 0, none⟩) 0 0) 0 [] :=
  ⟨rfl, .inr ⟨w.heap.size, 0, #[], rfl, Nat.le_refl _, heap_alloc_new w _, Nat.le_refl _, Nat.zero_le _, rfl, rfl⟩⟩
theorem own_back {w : World} {B g n cap : Nat} {l : List UInt8} (ho : w.ownsRow B 5 1 (.slice (some ⟨g, 0, none⟩) n cap) n (Lib.byteCells l)) : (convert 29 9 (.slice (some ⟨g, 0, none⟩) n cap)).run Tryd.prog w = .ok (.string ⟨l.toArray⟩) w := by
  have hl : n = l.length := by have := ho.1; rw [Lib.byteCells_length] at this; omega
  subst hl
  exact run_convert_bytes_back w 29 9 5 ⟨g, 0, none⟩ cap l Tryd.underlying29 Tryd.underlying5 Tryd.underlying9 (fun j hj => ho.cells (g := g) rfl j _ (by rw [Lib.byteCells, List.getElem?_map, List.getElem?_eq_getElem hj]; rfl))
theorem ownsBelow {B : Nat} {w w' : World} {e : TypeId} {size n : Nat} {v : Value} {xs : List Value} (h : w.ownsRow B e size v n xs) (hb : Below w.heap.size w w') : w'.ownsRow B e size v n xs :=
  h.kept (row := none) ⟨hb.os, hb.tape, hb.output, hb.size, fun k hk _ => hb.block k hk⟩ (by cases hv : v.ownBlock <;> simp)
theorem kst_snoc (KL : List UInt8) (nonce a q : Nat) : Lib.byteCells (kst KL nonce a (q + 1)) = Lib.byteCells (kst KL nonce a q) ++ [.int .u8 ((kbyte KL nonce (a + q)).toNat : Nat)] := by
  rw [kst, Lib.byteCells_append]; rfl
set_option maxRecDepth 100000 in
set_option maxHeartbeats 3200000 in
theorem rstream_any (key : ByteArray) (nonce a n : Nat) (hk : key.size < 1000000) (ha : a ≤ 1048576) (hn : n ≤ 1048576) (w : World) :
    Calls Tryd.prog 46 #[.string key, .int .i64 nonce, .int .i64 a, .int .i64 n] w fun e w' => e = .returned (.string ⟨(kst key.data.toList nonce a n).toArray⟩) ∧ Below w.heap.size w w' := by
  obtain ⟨i0, hi, hz0, hz1, hz2⟩ := info_parts info5
  have t3 : IntKind.i64.wrap ((a : Int) + n) = (a : Int) + n := IntWalk.i64_in _ (by omega)
  obtain ⟨KL, hKL⟩ : ∃ K, K = key.data.toList := ⟨_, rfl⟩
  rw [← hKL]
  have HKL := Lib.hid hKL
  clear hKL
  go_enter Tryd.func46, Tryd.ntmps46
  go_wp2_with fail
  go_loopw [9, 10, 11, 12] (fun s9 s10 s11 s12 wr => ∃ (q p g cap N : Nat) (BB : ByteArray) (lst : Int), q ≤ n ∧ p = a + q ∧ N = q ∧ s12 = .int .i64 p ∧ s9 = .slice (some ⟨g, 0, none⟩) N cap ∧ s10 = .string BB ∧ s11 = .int .i64 lst ∧ (lst = -1 ∨ (0 ≤ lst ∧ lst < 100000 ∧ BB.data.toList = kblk KL nonce lst.toNat)) ∧ wr.ownsRow w.heap.size 5 1 (.slice (some ⟨g, 0, none⟩) N cap) N (Lib.byteCells (kst KL nonce a q)) ∧ Below w.heap.size w wr) (fun _ _ _ s12 _ => a + n - (intOf s12).toNat)
  case atStart => exact ⟨0, a, _, 0, 0, ⟨#[]⟩, -1, by omega, rfl, rfl, rfl, rfl, rfl, rfl, .inl rfl, own0 w, (Below.refl _ _).alloc (Nat.le_refl _) _⟩
  case round =>
    obtain ⟨q, p, g, cap, N, BB, lst, hq, hp, hN, rfl, rfl, rfl, rfl, hls, hown, hB⟩ := hrel
    have HO := Lib.hid hown
    have HB := Lib.hid hB
    have HP := Lib.hid hp
    have HN := Lib.hid hN
    have HLS := Lib.hid hls
    clear hown hB hp hN hls
    have hpb : p ≤ 3000000 := by have := HP.out; omega
    have hNb : N ≤ 2000000 := by have := HN.out; omega
    by_cases hlt : q < n
    · have q1 : (p : Int) < (a : Int) + n := by have := HP.out; omega
      obtain ⟨c, hc⟩ : ∃ c, c = p / 32 := ⟨_, rfl⟩
      obtain ⟨r, hr⟩ : ∃ r, r = p % 32 := ⟨_, rfl⟩
      have e1 : Int.tdiv (p : Int) 32 = (c : Int) := by rw [hc]; exact (Int.ofNat_tdiv p 32).symm
      have e2 : IntKind.i64.wrap (c : Int) = (c : Int) := IntWalk.i64_in _ (by omega)
      have e3 : Int.tmod (p : Int) 32 = (r : Int) := by rw [hr]; exact (Int.ofNat_tmod p 32).symm
      have e4 : IntKind.i64.wrap (r : Int) = (r : Int) := IntWalk.i64_in _ (by omega)
      have e5 : IntKind.i64.wrap ((p : Int) + 1) = (((p + 1 : Nat)) : Int) := by rw [IntWalk.i64_in _ (by omega)]; omega
      have HKB := Lib.hid (show kbyte KL nonce (a + q) = (kblk KL nonce c).getD r 0 by unfold kbyte; rw [← HP.out, hc, hr])
      have hr32 : r < 32 := by omega
      have hc1 : c < 100000 := by omega
      have r0 : (0 : Int) ≤ r := by omega
      clear hc hr
      by_cases hcl : (c : Int) = lst
      · obtain ⟨_, _, hbb⟩ : 0 ≤ lst ∧ lst < 100000 ∧ BB.data.toList = kblk KL nonce lst.toNat := by
          rcases HLS.out with h | h
          · omega
          · exact h
        have hbb2 : BB.data.toList = kblk KL nonce c := by rw [hbb, ← hcl]; rfl
        have hBs : BB.size = 32 := by rw [← bytes_len, hbb2, kblk_len]
        have r1 : (r : Int) < BB.size := by omega
        have r2 : r < BB.size := by omega
        have HBY := Lib.hid (show BB[r] = kbyte KL nonce (a + q) by rw [HKB.out, ← hbb2, getD_str BB r r2])
        have n1 : ((c : Int) != lst) = false := by rw [hcl]; simp
        have HLS2 := Lib.hid (show (lst = -1 ∨ (0 ≤ lst ∧ lst < 100000 ∧ BB.data.toList = kblk KL nonce lst.toNat)) from HLS.out)
        clear hbb hbb2 hBs hcl
        go_wp2_with (refine wpList_append_lies _ rfl _ _ 29 rfl w.heap.size 5 i0 _ 1 1 Tryd.underlying29 hi hz0 hz1 hz2 rfl (by omega) (.slice (some ⟨g, 0, none⟩) N cap) N (Lib.byteCells (kst KL nonce a q)) rfl (HO.out.alloc _) ⟨wr.heap.size, 0, none⟩ 1 1 [.int .u8 (BB[r].toNat : Nat)] rfl rfl (World.news_of_block (cs := #[.int .u8 (BB[r].toNat : Nat)]) (t := 5) (fr := (0, 0)) (heap_alloc_new wr _)) (by simp [Value.oneCell']) (by omega) (by unfold maxLen; omega) (by omega) (by have := HB.out.size; simp; omega) (wr.heap.size + 1) (by simp) ?_; intro g1 cap1 w1 hown1 hgrow _ _; have O1 := Lib.hid hown1; have G1 := Lib.hid hgrow; clear hown1 hgrow)
        refine ⟨⟨q + 1, p + 1, g1, cap1, N + 1, BB, lst, by omega, by have := HP.out; omega, by have := HN.out; omega, rfl, rfl, rfl, rfl, HLS2.out, ?_, own_below (HB.out.alloc HB.out.size _) (HO.out.alloc _) G1.out (Nat.le_refl _)⟩, by have := HP.out; simp [intOf]; omega⟩
        rw [kst_snoc, ← HBY.out]
        exact O1.out
      · have n1 : ((c : Int) != lst) = true := by rw [bne_iff_ne]; exact hcl
        obtain ⟨EA, hEA⟩ : ∃ E : ByteArray, E = ⟨(SH.bytes8 nonce).toArray⟩ := ⟨_, rfl⟩
        obtain ⟨EB, hEB⟩ : ∃ E : ByteArray, E = ⟨(SH.bytes8 c).toArray⟩ := ⟨_, rfl⟩
        have hEAs : EA.size = 8 := by rw [← bytes_len, hEA]; rfl
        have hEBs : EB.size = 8 := by rw [← bytes_len, hEB]; rfl
        have CE1 := Lib.hid (fun W => (Bytes8_any nonce W).mono (fun e w' h => by rw [← hEA] at h; exact h))
        have CE2 := Lib.hid (fun W => (Bytes8_any c W).mono (fun e w' h => by rw [← hEB] at h; exact h))
        obtain ⟨MB, hMB⟩ : ∃ M : ByteArray, M = ⟨(SH.mac key.data.toList (EA ++ EB).data.toList).toArray⟩ := ⟨_, rfl⟩
        have hMs : MB.size = 32 := by rw [hMB, str_size]; exact sum_len _
        have CM := Lib.hid (fun W => (rmac_any key (EA ++ EB) (by omega) (by rw [ByteArray.size_append]; omega) W).mono (fun e w' h => by rw [← hMB] at h; exact h))
        have hmb : MB.data.toList = kblk KL nonce c := by rw [hMB, str_list, ap_list, hEA, hEB, str_list, str_list, HKL.out]; rfl
        have HMB := Lib.hid hmb
        have k1 : ¬ 9223372036854775807 < EA.size + EB.size := by omega
        have r1 : (r : Int) < MB.size := by omega
        have r2 : r < MB.size := by omega
        have HBY := Lib.hid (show MB[r] = kbyte KL nonce (a + q) by rw [HKB.out, ← hmb, getD_str MB r r2])
        clear hEA hEB hMB hEAs hEBs hMs hmb hcl
        go_wp2_with (first
          | (go_at_call 35; have tok := N2; clear tok; refine (CM.out _).mono ?_; rintro e v3 ⟨rfl, hb⟩; have O3 := Lib.hid (ownsBelow O2.out hb); have N3 := Lib.hid (keepBelow N2.out hb); clear hb)
          | (go_at_call 33; have tok := N1; clear tok; refine (CE2.out _).mono ?_; rintro e v2 ⟨rfl, hb⟩; have O2 := Lib.hid (ownsBelow OA.out hb); have N2 := Lib.hid (keepBelow N1.out hb); clear hb)
          | (go_at_call 33; refine (CE1.out _).mono ?_; rintro e v1 ⟨rfl, hb⟩; have OA := Lib.hid (ownsBelow HO.out hb); have N1 := Lib.hid (keepBelow HB.out hb); clear hb)
          | (refine wpList_append_lies _ rfl _ _ 29 rfl w.heap.size 5 i0 _ 1 1 Tryd.underlying29 hi hz0 hz1 hz2 rfl (by omega) (.slice (some ⟨g, 0, none⟩) N cap) N (Lib.byteCells (kst KL nonce a q)) rfl (O3.out.alloc _) ⟨v3.heap.size, 0, none⟩ 1 1 [.int .u8 (MB[r].toNat : Nat)] rfl rfl (World.news_of_block (cs := #[.int .u8 (MB[r].toNat : Nat)]) (t := 5) (fr := (0, 0)) (heap_alloc_new v3 _)) (by simp [Value.oneCell']) (by omega) (by unfold maxLen; omega) (by omega) (by have := N3.out.size; simp; omega) (v3.heap.size + 1) (by simp) ?_; intro g1 cap1 w1 hown1 hgrow _ _; have O1 := Lib.hid hown1; have G1 := Lib.hid hgrow; clear hown1 hgrow))
        refine ⟨⟨q + 1, p + 1, g1, cap1, N + 1, MB, c, by omega, by have := HP.out; omega, by have := HN.out; omega, rfl, rfl, rfl, rfl, .inr ⟨by omega, by omega, HMB.out⟩, ?_, own_below (N3.out.alloc N3.out.size _) (O3.out.alloc _) G1.out (Nat.le_refl _)⟩, by have := HP.out; simp [intOf]; omega⟩
        rw [kst_snoc, ← HBY.out]
        exact O1.out
    · obtain rfl : q = n := by omega
      have q1 : ¬ (p : Int) < (a : Int) + q := by have := HP.out; omega
      have hcv := own_back HO.out
      go_wp2_with fail
      go_ret
      exact ⟨rfl, HB.out⟩
set_option maxRecDepth 100000 in
set_option maxHeartbeats 1600000 in
theorem rmask_any (s key : ByteArray) (nonce : Nat) (hk : key.size < 1000000) (hs : s.size < 1000000) (w : World) :
    Calls Tryd.prog 34 #[.string s, .string key, .int .i64 nonce] w fun e w' => e = .returned (.string ⟨(mk s.data.toList (kst key.data.toList nonce 0 s.size) s.size).toArray⟩) ∧ Below w.heap.size w w' := by
  obtain ⟨KB, hKB⟩ : ∃ K : ByteArray, K = ⟨(kst key.data.toList nonce 0 s.size).toArray⟩ := ⟨_, rfl⟩
  have hKs : KB.size = s.size := by rw [hKB, str_size, kst_len]
  have C := Lib.hid ((rstream_any key nonce 0 s.size hk (by omega) (by omega) w).mono (fun e w' h => by rw [← hKB] at h; exact h))
  have hcv := fun W : World => run_bytes_of_string W 9 29 5 s Tryd.underlying9 Tryd.underlying29 Tryd.underlying5
  obtain ⟨KL, hKL⟩ : ∃ K, K = kst key.data.toList nonce 0 s.size := ⟨_, rfl⟩
  rw [← hKL]
  obtain ⟨L, hL⟩ : ∃ L, L = s.data.toList := ⟨_, rfl⟩
  rw [← hL]
  have HL := Lib.hid hL
  have HKL := Lib.hid (show KB.data.toList = KL by rw [hKB, hKL])
  clear hKB hKL hL
  go_enter Tryd.func34, Tryd.ntmps34
  go_wp2_with (go_at_call 46; refine C.out.mono ?_; rintro e v9 ⟨rfl, hb⟩; have B9 := Lib.hid hb; clear hb)
  obtain ⟨cap, hcap⟩ : ∃ c, c = grownCap v9 s.size 0 5 := ⟨_, rfl⟩
  rw [← hcap]
  have hrow : (bytesRow s cap).size = s.size + (cap - s.size) := by simp [bytesRow]
  obtain ⟨W1, hW1⟩ : ∃ W1, W1 = (v9.alloc (.cells (bytesRow s cap) 5 ((bytesRow s cap).size, (bytesRow s cap).size + 1))).drew := ⟨_, rfl⟩
  have hs1 : W1.heap[v9.heap.size]? = some (.cells (bytesRow s cap) 5 ((bytesRow s cap).size, (bytesRow s cap).size + 1)) := by rw [hW1]; exact heap_alloc_new v9 _
  have hB1 : Below w.heap.size w W1 := by rw [hW1]; exact ((B9.out).alloc B9.out.size _).drew
  have hgs : w.heap.size ≤ v9.heap.size := B9.out.size
  have hL := HL.out
  have hLs : L.length = s.size := by rw [hL, bytes_len]
  have hc1 : ∀ j, j < L.length → W1.cell? ⟨v9.heap.size, j, none⟩ = some (.int .u8 (((mk L KL 0).getD j 0).toNat : Nat)) ∧ W1.frozen? ⟨v9.heap.size, j, none⟩ = false := by
    intro j hj
    have hj' : j < s.data.size := by rw [hL] at hj; simpa using hj
    refine ⟨?_, ?_⟩
    · rw [cell_of_row W1 v9.heap.size j _ 5 _ hs1, bytesRow_at s cap j hj']
      show some _ = some (Value.int .u8 ((L.getD j 0).toNat : Nat))
      rw [List.getD_eq_getElem?_getD, List.getElem?_eq_getElem hj]
      subst hL
      rfl
    · unfold World.frozen?
      rw [hs1]
      have h1 : s.data.size = s.size := rfl
      simp [hrow]; omega
  rw [← hW1]
  have HC1 := Lib.hid hc1
  have HB1 := Lib.hid hB1
  have HLS := Lib.hid hLs
  have HGS := Lib.hid hgs
  generalize v9.heap.size = g at *
  clear hc1 hB1 hs1 hW1 hrow hcap hLs hL hgs hcv
  go_loopw [9] (fun i wr => ∃ u : Nat, u ≤ s.size ∧ i = .int .i64 u ∧ (∀ j, j < L.length → wr.cell? ⟨g, j, none⟩ = some (.int .u8 (((mk L KL u).getD j 0).toNat : Nat)) ∧ wr.frozen? ⟨g, j, none⟩ = false) ∧ Below w.heap.size w wr) (fun i _ => s.size - (intOf i).toNat)
  case atStart => exact ⟨0, by omega, rfl, HC1.out, HB1.out⟩
  case round =>
    obtain ⟨u, hu, rfl, hC, hB⟩ := hrel
    have HC := Lib.hid hC
    have HB := Lib.hid hB
    clear hC hB HC1 HB1
    by_cases hul : u < s.size
    · have p8 : (0 : Int) ≤ u := by omega
      have p9 : (u : Int) < s.size := by omega
      have p10 : (u : Int) < KB.size := by omega
      have hkb : u < KB.size := by omega
      have hul2 : u < L.length := by rw [HLS.out]; exact hul
      have ck0 := (HC.out u hul2).1
      have fk0 := (HC.out u hul2).2
      have HFL := Lib.hid (show mk L KL (u + 1) = (mk L KL u).set u ((mk L KL u).getD u 0 ^^^ KL.getD u 0) from rfl)
      have HLEN := Lib.hid (mk_len L KL u)
      have hkat : KL.getD u 0 = KB[u] := by rw [← HKL.out, getD_str KB u hkb]
      rw [hkat] at HFL
      have HX := Lib.hid (xor_byte ((mk L KL u).getD u 0) KB[u])
      generalize hb0 : (mk L KL u).getD u 0 = b0 at *
      clear hkat hb0
      go_wp2_with fail
      go_region
      go_wp2_with fail
      refine ⟨⟨u + 1, by omega, rfl, ?_, (HB.out.setCell HGS.out _).drew⟩, by simp [intOf]; omega⟩
      intro q hq
      rw [HX.out]
      by_cases hqk : q = u
      · subst hqk
        refine ⟨?_, by rw [World.frozen?_drew, World.frozen?_setCell]; exact fk0⟩
        rw [World.cell?_drew]
        refine (World.cell?_setCell_same (h := ck0) ..).trans ?_
        rw [HFL.out, List.getD_eq_getElem?_getD, List.getElem?_set_self (by rw [HLEN.out]; exact hq)]
        rfl
      · refine ⟨?_, by rw [World.frozen?_drew, World.frozen?_setCell]; exact (HC.out q hq).2⟩
        rw [World.cell?_drew]
        refine (World.cell?_setCell_other (h := fun e => hqk (Addr.mk.inj e).2.1.symm) ..).trans ((HC.out q hq).1.trans ?_)
        rw [HFL.out, List.getD_eq_getElem?_getD, List.getD_eq_getElem?_getD, List.getElem?_set_ne (fun h => hqk h.symm)]
    · obtain rfl : u = s.size := by omega
      have hfl : (mk L KL s.size).length = s.size := by rw [mk_len]; exact HLS.out
      have hcv2 : (convert 29 9 (.slice (some ⟨g, 0, none⟩) s.size cap)).run Tryd.prog wr = .ok (.string ⟨(mk L KL s.size).toArray⟩) wr := by
        have := run_convert_bytes_back wr 29 9 5 ⟨g, 0, none⟩ cap (mk L KL s.size) Tryd.underlying29 Tryd.underlying5 Tryd.underlying9 (fun j hj => by
          rw [Addr.add_mid, Nat.zero_add, (HC.out j (by rw [mk_len] at hj; exact hj)).1, List.getD_eq_getElem?_getD, List.getElem?_eq_getElem hj]
          rfl)
        rw [hfl] at this
        exact this
      clear hfl
      go_wp2_with fail
      go_ret
      exact ⟨rfl, HB.out⟩
end Go.Proofs.YtmblnacckboggaaDoor
