/- DigestStreams: the law's walk. -/
import Derived.Test.YtklikkmnemooeaaDoorDF
import Derived.Test.YtklikkmnemooeaaDoorT3
namespace Go.Proofs.YtklikkmnemooeaaDoor
open Go.RowKit
theorem mask_two (s key : ByteArray) (nonce : Nat) (MB : ByteArray) (hMB : MB = ⟨(mk s.data.toList (kst key.data.toList nonce 0 s.size) s.size).toArray⟩) : MB.size = s.size ∧ (⟨(mk MB.data.toList (kst key.data.toList nonce 0 MB.size) MB.size).toArray⟩ : ByteArray) = s := by
  have hs : MB.size = s.size := by rw [hMB, str_size, mk_len, bytes_len]
  refine ⟨hs, ?_⟩
  have h := mk_twice s.data.toList (kst key.data.toList nonce 0 s.size)
  rw [bytes_len] at h
  have e : MB.data.toList = mk s.data.toList (kst key.data.toList nonce 0 s.size) s.size := by rw [hMB]
  rw [hs, e, h]
set_option maxRecDepth 100000 in
set_option maxHeartbeats 1600000 in
theorem streams_k (key s : ByteArray) (nn fr ct : Int) (hk : 200 < key.size) (w : World) (hT : Tabs w) : Calls Tryd.prog 9 #[.string key, .string s, .agg #[.int .i64 nn, .int .i64 fr, .int .i64 ct]] w fun e w' => e = .returned (.bool true) ∧ Below w.heap.size w w' := by
  have CA := Lib.hid (fun W (hW : Tabs W) => awake_any W hW)
  have HT := Lib.hid hT
  have g1 : (200 : Int) < key.size := by omega
  clear hk
  clear hT
  go_enter Tryd.func9, Tryd.ntmps9
  go_upto_region 3 with (go_at_call 11; refine (CA.out _ (HT.out.alloc _)).mono ?_; rintro e v0 ⟨rfl, hb⟩; have G0 := Lib.hid (keepBlk hb (Blk.new w 49 [.int .i64 nn, .int .i64 fr, .int .i64 ct])); have B00 := Lib.hid (keepBelow ((Below.refl w.heap.size w).alloc (Nat.le_refl _) _) hb); have cc0 : v0.cell? ⟨w.heap.size, 0, none⟩ = some (.int .i64 nn) := G0.out.cell 0; have cc1 : v0.cell? ⟨w.heap.size, 1, none⟩ = some (.int .i64 fr) := G0.out.cell 1; have cc2 : v0.cell? ⟨w.heap.size, 2, none⟩ = some (.int .i64 ct) := G0.out.cell 2; clear hb)
  go_quiet (fail)
  generalize hvq : v0.drewN nq = vq
  have B0 := Lib.hid (show Below w.heap.size w vq by rw [← hvq]; exact below_drewNd B00.out nq)
  clear hvq cc0 cc1 cc2 G0 B00
  go_wp2_with fail
  go_ret
  exact ⟨rfl, B0.out⟩
set_option maxRecDepth 100000 in
set_option maxHeartbeats 1600000 in
theorem streams_s (key s : ByteArray) (nn fr ct : Int) (hk : ¬ 200 < key.size) (hs : 300 < s.size) (w : World) (hT : Tabs w) : Calls Tryd.prog 9 #[.string key, .string s, .agg #[.int .i64 nn, .int .i64 fr, .int .i64 ct]] w fun e w' => e = .returned (.bool true) ∧ Below w.heap.size w w' := by
  have CA := Lib.hid (fun W (hW : Tabs W) => awake_any W hW)
  have HT := Lib.hid hT
  have g1 : ¬ (200 : Int) < key.size := by omega
  have g2 : (300 : Int) < s.size := by omega
  clear hk hs
  clear hT
  go_enter Tryd.func9, Tryd.ntmps9
  go_upto_region 3 with (go_at_call 11; refine (CA.out _ (HT.out.alloc _)).mono ?_; rintro e v0 ⟨rfl, hb⟩; have G0 := Lib.hid (keepBlk hb (Blk.new w 49 [.int .i64 nn, .int .i64 fr, .int .i64 ct])); have B00 := Lib.hid (keepBelow ((Below.refl w.heap.size w).alloc (Nat.le_refl _) _) hb); have cc0 : v0.cell? ⟨w.heap.size, 0, none⟩ = some (.int .i64 nn) := G0.out.cell 0; have cc1 : v0.cell? ⟨w.heap.size, 1, none⟩ = some (.int .i64 fr) := G0.out.cell 1; have cc2 : v0.cell? ⟨w.heap.size, 2, none⟩ = some (.int .i64 ct) := G0.out.cell 2; clear hb)
  go_quiet (fail)
  generalize hvq : v0.drewN nq = vq
  have B0 := Lib.hid (show Below w.heap.size w vq by rw [← hvq]; exact below_drewNd B00.out nq)
  clear hvq cc0 cc1 cc2 G0 B00
  go_wp2_with fail
  go_ret
  exact ⟨rfl, B0.out⟩
set_option maxRecDepth 100000 in
set_option maxHeartbeats 1600000 in
theorem streams_c (key s : ByteArray) (nn fr ct : Int) (hk : ¬ 200 < key.size) (hs : ¬ 300 < s.size) (h1 : 300 < ct) (h2 : ct ≤ 1048576) (w : World) (hT : Tabs w) : Calls Tryd.prog 9 #[.string key, .string s, .agg #[.int .i64 nn, .int .i64 fr, .int .i64 ct]] w fun e w' => e = .returned (.bool true) ∧ Below w.heap.size w w' := by
  have CA := Lib.hid (fun W (hW : Tabs W) => awake_any W hW)
  have HT := Lib.hid hT
  have g1 : ¬ (200 : Int) < key.size := by omega
  have g2 : ¬ (300 : Int) < s.size := by omega
  clear hk hs
  clear hT
  go_enter Tryd.func9, Tryd.ntmps9
  go_upto_region 3 with (go_at_call 11; refine (CA.out _ (HT.out.alloc _)).mono ?_; rintro e v0 ⟨rfl, hb⟩; have G0 := Lib.hid (keepBlk hb (Blk.new w 49 [.int .i64 nn, .int .i64 fr, .int .i64 ct])); have B00 := Lib.hid (keepBelow ((Below.refl w.heap.size w).alloc (Nat.le_refl _) _) hb); have cc0 : v0.cell? ⟨w.heap.size, 0, none⟩ = some (.int .i64 nn) := G0.out.cell 0; have cc1 : v0.cell? ⟨w.heap.size, 1, none⟩ = some (.int .i64 fr) := G0.out.cell 1; have cc2 : v0.cell? ⟨w.heap.size, 2, none⟩ = some (.int .i64 ct) := G0.out.cell 2; clear hb)
  go_quiet (fail)
  generalize hvq : v0.drewN nq = vq
  have B0 := Lib.hid (show Below w.heap.size w vq by rw [← hvq]; exact below_drewNd B00.out nq)
  clear hvq cc0 cc1 cc2 G0 B00
  go_wp2_with fail
  go_ret
  exact ⟨rfl, B0.out⟩
set_option maxRecDepth 100000 in
set_option maxHeartbeats 1600000 in
theorem streams_fn (key s : ByteArray) (nn fr ct : Int) (hk : ¬ 200 < key.size) (hs : ¬ 300 < s.size) (hc : ct < 0) (h1 : 5000 < fr) (h2 : fr ≤ 1048576) (w : World) (hT : Tabs w) : Calls Tryd.prog 9 #[.string key, .string s, .agg #[.int .i64 nn, .int .i64 fr, .int .i64 ct]] w fun e w' => e = .returned (.bool true) ∧ Below w.heap.size w w' := by
  have CA := Lib.hid (fun W (hW : Tabs W) => awake_any W hW)
  have HT := Lib.hid hT
  have g1 : ¬ (200 : Int) < key.size := by omega
  have g2 : ¬ (300 : Int) < s.size := by omega
  have x1 : ¬ 300 < ct := by omega
  have x2 : ct < 0 := hc
  clear hk hs hc
  clear hT
  go_enter Tryd.func9, Tryd.ntmps9
  go_upto_region 3 with (go_at_call 11; refine (CA.out _ (HT.out.alloc _)).mono ?_; rintro e v0 ⟨rfl, hb⟩; have G0 := Lib.hid (keepBlk hb (Blk.new w 49 [.int .i64 nn, .int .i64 fr, .int .i64 ct])); have B00 := Lib.hid (keepBelow ((Below.refl w.heap.size w).alloc (Nat.le_refl _) _) hb); have cc0 : v0.cell? ⟨w.heap.size, 0, none⟩ = some (.int .i64 nn) := G0.out.cell 0; have cc1 : v0.cell? ⟨w.heap.size, 1, none⟩ = some (.int .i64 fr) := G0.out.cell 1; have cc2 : v0.cell? ⟨w.heap.size, 2, none⟩ = some (.int .i64 ct) := G0.out.cell 2; clear hb)
  go_quiet (fail)
  generalize hvq : v0.drewN nq = vq
  have B0 := Lib.hid (show Below w.heap.size w vq by rw [← hvq]; exact below_drewNd B00.out nq)
  clear hvq cc0 cc1 cc2 G0 B00
  go_wp2_with fail
  go_ret
  exact ⟨rfl, B0.out⟩
set_option maxRecDepth 100000 in
set_option maxHeartbeats 1600000 in
theorem streams_fm (key s : ByteArray) (nn fr ct : Int) (hk : ¬ 200 < key.size) (hs : ¬ 300 < s.size) (hc : 0 ≤ ct ∧ ct ≤ 300) (h1 : 5000 < fr) (h2 : fr ≤ 1048576) (w : World) (hT : Tabs w) : Calls Tryd.prog 9 #[.string key, .string s, .agg #[.int .i64 nn, .int .i64 fr, .int .i64 ct]] w fun e w' => e = .returned (.bool true) ∧ Below w.heap.size w w' := by
  have CA := Lib.hid (fun W (hW : Tabs W) => awake_any W hW)
  have HT := Lib.hid hT
  have g1 : ¬ (200 : Int) < key.size := by omega
  have g2 : ¬ (300 : Int) < s.size := by omega
  have x1 : ¬ 300 < ct := by omega
  have x2 : ¬ ct < 0 := by omega
  have x3 : ¬ 1048576 < ct := by omega
  clear hk hs hc
  clear hT
  go_enter Tryd.func9, Tryd.ntmps9
  go_upto_region 3 with (go_at_call 11; refine (CA.out _ (HT.out.alloc _)).mono ?_; rintro e v0 ⟨rfl, hb⟩; have G0 := Lib.hid (keepBlk hb (Blk.new w 49 [.int .i64 nn, .int .i64 fr, .int .i64 ct])); have B00 := Lib.hid (keepBelow ((Below.refl w.heap.size w).alloc (Nat.le_refl _) _) hb); have cc0 : v0.cell? ⟨w.heap.size, 0, none⟩ = some (.int .i64 nn) := G0.out.cell 0; have cc1 : v0.cell? ⟨w.heap.size, 1, none⟩ = some (.int .i64 fr) := G0.out.cell 1; have cc2 : v0.cell? ⟨w.heap.size, 2, none⟩ = some (.int .i64 ct) := G0.out.cell 2; clear hb)
  go_quiet (fail)
  generalize hvq : v0.drewN nq = vq
  have B0 := Lib.hid (show Below w.heap.size w vq by rw [← hvq]; exact below_drewNd B00.out nq)
  clear hvq cc0 cc1 cc2 G0 B00
  go_wp2_with fail
  go_ret
  exact ⟨rfl, B0.out⟩
set_option maxRecDepth 100000 in
set_option maxHeartbeats 1600000 in
theorem streams_fb (key s : ByteArray) (nn fr ct : Int) (hk : ¬ 200 < key.size) (hs : ¬ 300 < s.size) (hc : 1048576 < ct) (h1 : 5000 < fr) (h2 : fr ≤ 1048576) (w : World) (hT : Tabs w) : Calls Tryd.prog 9 #[.string key, .string s, .agg #[.int .i64 nn, .int .i64 fr, .int .i64 ct]] w fun e w' => e = .returned (.bool true) ∧ Below w.heap.size w w' := by
  have CA := Lib.hid (fun W (hW : Tabs W) => awake_any W hW)
  have HT := Lib.hid hT
  have g1 : ¬ (200 : Int) < key.size := by omega
  have g2 : ¬ (300 : Int) < s.size := by omega
  have x1 : 300 < ct := by omega
  have x2 : ¬ ct < 0 := by omega
  have x3 : 1048576 < ct := hc
  have x4 : ¬ ct ≤ 1048576 := by omega
  clear hk hs hc
  clear hT
  go_enter Tryd.func9, Tryd.ntmps9
  go_upto_region 3 with (go_at_call 11; refine (CA.out _ (HT.out.alloc _)).mono ?_; rintro e v0 ⟨rfl, hb⟩; have G0 := Lib.hid (keepBlk hb (Blk.new w 49 [.int .i64 nn, .int .i64 fr, .int .i64 ct])); have B00 := Lib.hid (keepBelow ((Below.refl w.heap.size w).alloc (Nat.le_refl _) _) hb); have cc0 : v0.cell? ⟨w.heap.size, 0, none⟩ = some (.int .i64 nn) := G0.out.cell 0; have cc1 : v0.cell? ⟨w.heap.size, 1, none⟩ = some (.int .i64 fr) := G0.out.cell 1; have cc2 : v0.cell? ⟨w.heap.size, 2, none⟩ = some (.int .i64 ct) := G0.out.cell 2; clear hb)
  go_quiet (fail)
  generalize hvq : v0.drewN nq = vq
  have B0 := Lib.hid (show Below w.heap.size w vq by rw [← hvq]; exact below_drewNd B00.out nq)
  clear hvq cc0 cc1 cc2 G0 B00
  go_wp2_with fail
  go_ret
  exact ⟨rfl, B0.out⟩
set_option maxRecDepth 100000 in
set_option maxHeartbeats 1600000 in
theorem streams_nnn (key s : ByteArray) (nn fr ct : Int) (hk : ¬ 200 < key.size) (hs : ¬ 300 < s.size) (hn : nn < 0) (hf : fr < 0) (hc : ct < 0) (w : World) (hT : Tabs w) : Calls Tryd.prog 9 #[.string key, .string s, .agg #[.int .i64 nn, .int .i64 fr, .int .i64 ct]] w fun e w' => e = .returned (.bool true) ∧ Below w.heap.size w w' := by
  have CA := Lib.hid (fun W (hW : Tabs W) => awake_any W hW)
  have HT := Lib.hid hT
  have g1 : ¬ (200 : Int) < key.size := by omega
  have g2 : ¬ (300 : Int) < s.size := by omega
  have x1 : ¬ 300 < ct := by omega
  have x2 : ct < 0 := hc
  have y1 : ¬ 5000 < fr := by omega
  have y2 : fr < 0 := hf
  have z1 : nn < 0 := hn
  have hbad : sBad nn fr ct := by unfold sBad; omega
  have CS := Lib.hid (fun W (_ : Below w.heap.size w W) => stream_bad key nn fr ct hbad W)
  have CM := Lib.hid (fun W (_ : Below w.heap.size w W) => mask_bad s key nn hn W)
  clear hk hs hc hf hbad
  clear hT
  go_enter Tryd.func9, Tryd.ntmps9
  go_upto_region 3 with (go_at_call 11; refine (CA.out _ (HT.out.alloc _)).mono ?_; rintro e v0 ⟨rfl, hb⟩; have G0 := Lib.hid (keepBlk hb (Blk.new w 49 [.int .i64 nn, .int .i64 fr, .int .i64 ct])); have B00 := Lib.hid (keepBelow ((Below.refl w.heap.size w).alloc (Nat.le_refl _) _) hb); have cc0 : v0.cell? ⟨w.heap.size, 0, none⟩ = some (.int .i64 nn) := G0.out.cell 0; have cc1 : v0.cell? ⟨w.heap.size, 1, none⟩ = some (.int .i64 fr) := G0.out.cell 1; have cc2 : v0.cell? ⟨w.heap.size, 2, none⟩ = some (.int .i64 ct) := G0.out.cell 2; clear hb)
  go_quiet (fail)
  generalize hvq : v0.drewN nq = vq
  have B0 := Lib.hid (show Below w.heap.size w vq by rw [← hvq]; exact below_drewNd B00.out nq)
  clear hvq cc0 cc1 cc2 G0 B00
  go_wp2_with (first
      | (go_at_call 37; have tok := B0; clear tok; refine (CS.out _ ?_).mono ?_; exact B0.out; rintro e v1 ⟨rfl, hb1⟩; have B1 := Lib.hid (keepBelow B0.out hb1); clear hb1 B0)
      | (go_at_call 39; have tok := B1; clear tok; refine (CM.out _ ?_).mono ?_; exact B1.out; rintro e v2 ⟨rfl, hb2⟩; have B2 := Lib.hid (keepBelow B1.out hb2); clear hb2 B1))
  go_ret
  exact ⟨rfl, B2.out⟩
set_option maxRecDepth 100000 in
set_option maxHeartbeats 1600000 in
theorem streams_pnn (key s : ByteArray) (nn : Nat) (hno : nn < 9223372036854775808) (fr ct : Int) (hk : ¬ 200 < key.size) (hs : ¬ 300 < s.size) (hf : fr < 0) (hc : ct < 0) (w : World) (hT : Tabs w) : Calls Tryd.prog 9 #[.string key, .string s, .agg #[.int .i64 nn, .int .i64 fr, .int .i64 ct]] w fun e w' => e = .returned (.bool true) ∧ Below w.heap.size w w' := by
  have CA := Lib.hid (fun W (hW : Tabs W) => awake_any W hW)
  have HT := Lib.hid hT
  have g1 : ¬ (200 : Int) < key.size := by omega
  have g2 : ¬ (300 : Int) < s.size := by omega
  have x1 : ¬ 300 < ct := by omega
  have x2 : ct < 0 := hc
  have y1 : ¬ 5000 < fr := by omega
  have y2 : fr < 0 := hf
  have z1 : ¬ (nn : Int) < 0 := by omega
  have hbad : sBad (nn : Int) fr ct := by unfold sBad; omega
  have CS := Lib.hid (fun W (_ : Below w.heap.size w W) => stream_bad key nn fr ct hbad W)
  obtain ⟨MB, hMB⟩ : ∃ M : ByteArray, M = ⟨(mk s.data.toList (kst key.data.toList nn 0 s.size) s.size).toArray⟩ := ⟨_, rfl⟩
  obtain ⟨hm1, hm2⟩ := mask_two s key nn MB hMB
  have CM := Lib.hid (fun W (hb : Below w.heap.size w W) => (mask_good s key nn (by omega) hno (by omega) W (hT.keep hb)).mono (fun e w' h => by rw [← hMB] at h; exact h))
  have CN := Lib.hid (fun W (hb : Below w.heap.size w W) => (mask_good MB key nn (by omega) hno (by omega) W (hT.keep hb)).mono (fun e w' h => by rw [hm2] at h; exact h))
  have CR := Lib.hid (fun W (_ : Below w.heap.size w W) => (rmask_any s key nn (by omega) (by omega) W).mono (fun e w' h => by rw [← hMB] at h; exact h))
  clear hk hs hc hf hbad hMB hm1 hm2
  clear hT
  go_enter Tryd.func9, Tryd.ntmps9
  go_upto_region 3 with (go_at_call 11; refine (CA.out _ (HT.out.alloc _)).mono ?_; rintro e v0 ⟨rfl, hb⟩; have G0 := Lib.hid (keepBlk hb (Blk.new w 49 [.int .i64 nn, .int .i64 fr, .int .i64 ct])); have B00 := Lib.hid (keepBelow ((Below.refl w.heap.size w).alloc (Nat.le_refl _) _) hb); have cc0 : v0.cell? ⟨w.heap.size, 0, none⟩ = some (.int .i64 nn) := G0.out.cell 0; have cc1 : v0.cell? ⟨w.heap.size, 1, none⟩ = some (.int .i64 fr) := G0.out.cell 1; have cc2 : v0.cell? ⟨w.heap.size, 2, none⟩ = some (.int .i64 ct) := G0.out.cell 2; clear hb)
  go_quiet (fail)
  generalize hvq : v0.drewN nq = vq
  have B0 := Lib.hid (show Below w.heap.size w vq by rw [← hvq]; exact below_drewNd B00.out nq)
  clear hvq cc0 cc1 cc2 G0 B00
  go_wp2_with (first
      | (go_at_call 37; have tok := B0; clear tok; refine (CS.out _ ?_).mono ?_; exact B0.out; rintro e v1 ⟨rfl, hb1⟩; have B1 := Lib.hid (keepBelow B0.out hb1); clear hb1 B0)
      | (go_at_call 39; have tok := B1; clear tok; refine (CM.out _ ?_).mono ?_; exact B1.out; rintro e v2 ⟨rfl, hb2⟩; have B2 := Lib.hid (keepBelow B1.out hb2); clear hb2 B1)
      | (go_at_call 39; have tok := B2; clear tok; refine (CN.out _ ?_).mono ?_; exact B2.out; rintro e v3 ⟨rfl, hb3⟩; have B3 := Lib.hid (keepBelow B2.out hb3); clear hb3 B2)
      | (go_at_call 40; have tok := B3; clear tok; refine (CR.out _ ?_).mono ?_; exact B3.out; rintro e v4 ⟨rfl, hb4⟩; have B4 := Lib.hid (keepBelow B3.out hb4); clear hb4 B3))
  go_ret
  exact ⟨rfl, B4.out⟩
set_option maxRecDepth 100000 in
set_option maxHeartbeats 1600000 in
theorem streams_nnm (key s : ByteArray) (nn fr ct : Int) (hk : ¬ 200 < key.size) (hs : ¬ 300 < s.size) (hn : nn < 0) (hf : fr < 0) (hc : 0 ≤ ct ∧ ct ≤ 300) (w : World) (hT : Tabs w) : Calls Tryd.prog 9 #[.string key, .string s, .agg #[.int .i64 nn, .int .i64 fr, .int .i64 ct]] w fun e w' => e = .returned (.bool true) ∧ Below w.heap.size w w' := by
  have CA := Lib.hid (fun W (hW : Tabs W) => awake_any W hW)
  have HT := Lib.hid hT
  have g1 : ¬ (200 : Int) < key.size := by omega
  have g2 : ¬ (300 : Int) < s.size := by omega
  have x1 : ¬ 300 < ct := by omega
  have x2 : ¬ ct < 0 := by omega
  have x3 : ¬ 1048576 < ct := by omega
  have y1 : ¬ 5000 < fr := by omega
  have y2 : fr < 0 := hf
  have z1 : nn < 0 := hn
  have hbad : sBad nn fr ct := by unfold sBad; omega
  have CS := Lib.hid (fun W (_ : Below w.heap.size w W) => stream_bad key nn fr ct hbad W)
  have CM := Lib.hid (fun W (_ : Below w.heap.size w W) => mask_bad s key nn hn W)
  clear hk hs hc hf hbad
  clear hT
  go_enter Tryd.func9, Tryd.ntmps9
  go_upto_region 3 with (go_at_call 11; refine (CA.out _ (HT.out.alloc _)).mono ?_; rintro e v0 ⟨rfl, hb⟩; have G0 := Lib.hid (keepBlk hb (Blk.new w 49 [.int .i64 nn, .int .i64 fr, .int .i64 ct])); have B00 := Lib.hid (keepBelow ((Below.refl w.heap.size w).alloc (Nat.le_refl _) _) hb); have cc0 : v0.cell? ⟨w.heap.size, 0, none⟩ = some (.int .i64 nn) := G0.out.cell 0; have cc1 : v0.cell? ⟨w.heap.size, 1, none⟩ = some (.int .i64 fr) := G0.out.cell 1; have cc2 : v0.cell? ⟨w.heap.size, 2, none⟩ = some (.int .i64 ct) := G0.out.cell 2; clear hb)
  go_quiet (fail)
  generalize hvq : v0.drewN nq = vq
  have B0 := Lib.hid (show Below w.heap.size w vq by rw [← hvq]; exact below_drewNd B00.out nq)
  clear hvq cc0 cc1 cc2 G0 B00
  go_wp2_with (first
      | (go_at_call 37; have tok := B0; clear tok; refine (CS.out _ ?_).mono ?_; exact B0.out; rintro e v1 ⟨rfl, hb1⟩; have B1 := Lib.hid (keepBelow B0.out hb1); clear hb1 B0)
      | (go_at_call 39; have tok := B1; clear tok; refine (CM.out _ ?_).mono ?_; exact B1.out; rintro e v2 ⟨rfl, hb2⟩; have B2 := Lib.hid (keepBelow B1.out hb2); clear hb2 B1))
  go_ret
  exact ⟨rfl, B2.out⟩
set_option maxRecDepth 100000 in
set_option maxHeartbeats 1600000 in
theorem streams_pnm (key s : ByteArray) (nn : Nat) (hno : nn < 9223372036854775808) (fr ct : Int) (hk : ¬ 200 < key.size) (hs : ¬ 300 < s.size) (hf : fr < 0) (hc : 0 ≤ ct ∧ ct ≤ 300) (w : World) (hT : Tabs w) : Calls Tryd.prog 9 #[.string key, .string s, .agg #[.int .i64 nn, .int .i64 fr, .int .i64 ct]] w fun e w' => e = .returned (.bool true) ∧ Below w.heap.size w w' := by
  have CA := Lib.hid (fun W (hW : Tabs W) => awake_any W hW)
  have HT := Lib.hid hT
  have g1 : ¬ (200 : Int) < key.size := by omega
  have g2 : ¬ (300 : Int) < s.size := by omega
  have x1 : ¬ 300 < ct := by omega
  have x2 : ¬ ct < 0 := by omega
  have x3 : ¬ 1048576 < ct := by omega
  have y1 : ¬ 5000 < fr := by omega
  have y2 : fr < 0 := hf
  have z1 : ¬ (nn : Int) < 0 := by omega
  have hbad : sBad (nn : Int) fr ct := by unfold sBad; omega
  have CS := Lib.hid (fun W (_ : Below w.heap.size w W) => stream_bad key nn fr ct hbad W)
  obtain ⟨MB, hMB⟩ : ∃ M : ByteArray, M = ⟨(mk s.data.toList (kst key.data.toList nn 0 s.size) s.size).toArray⟩ := ⟨_, rfl⟩
  obtain ⟨hm1, hm2⟩ := mask_two s key nn MB hMB
  have CM := Lib.hid (fun W (hb : Below w.heap.size w W) => (mask_good s key nn (by omega) hno (by omega) W (hT.keep hb)).mono (fun e w' h => by rw [← hMB] at h; exact h))
  have CN := Lib.hid (fun W (hb : Below w.heap.size w W) => (mask_good MB key nn (by omega) hno (by omega) W (hT.keep hb)).mono (fun e w' h => by rw [hm2] at h; exact h))
  have CR := Lib.hid (fun W (_ : Below w.heap.size w W) => (rmask_any s key nn (by omega) (by omega) W).mono (fun e w' h => by rw [← hMB] at h; exact h))
  clear hk hs hc hf hbad hMB hm1 hm2
  clear hT
  go_enter Tryd.func9, Tryd.ntmps9
  go_upto_region 3 with (go_at_call 11; refine (CA.out _ (HT.out.alloc _)).mono ?_; rintro e v0 ⟨rfl, hb⟩; have G0 := Lib.hid (keepBlk hb (Blk.new w 49 [.int .i64 nn, .int .i64 fr, .int .i64 ct])); have B00 := Lib.hid (keepBelow ((Below.refl w.heap.size w).alloc (Nat.le_refl _) _) hb); have cc0 : v0.cell? ⟨w.heap.size, 0, none⟩ = some (.int .i64 nn) := G0.out.cell 0; have cc1 : v0.cell? ⟨w.heap.size, 1, none⟩ = some (.int .i64 fr) := G0.out.cell 1; have cc2 : v0.cell? ⟨w.heap.size, 2, none⟩ = some (.int .i64 ct) := G0.out.cell 2; clear hb)
  go_quiet (fail)
  generalize hvq : v0.drewN nq = vq
  have B0 := Lib.hid (show Below w.heap.size w vq by rw [← hvq]; exact below_drewNd B00.out nq)
  clear hvq cc0 cc1 cc2 G0 B00
  go_wp2_with (first
      | (go_at_call 37; have tok := B0; clear tok; refine (CS.out _ ?_).mono ?_; exact B0.out; rintro e v1 ⟨rfl, hb1⟩; have B1 := Lib.hid (keepBelow B0.out hb1); clear hb1 B0)
      | (go_at_call 39; have tok := B1; clear tok; refine (CM.out _ ?_).mono ?_; exact B1.out; rintro e v2 ⟨rfl, hb2⟩; have B2 := Lib.hid (keepBelow B1.out hb2); clear hb2 B1)
      | (go_at_call 39; have tok := B2; clear tok; refine (CN.out _ ?_).mono ?_; exact B2.out; rintro e v3 ⟨rfl, hb3⟩; have B3 := Lib.hid (keepBelow B2.out hb3); clear hb3 B2)
      | (go_at_call 40; have tok := B3; clear tok; refine (CR.out _ ?_).mono ?_; exact B3.out; rintro e v4 ⟨rfl, hb4⟩; have B4 := Lib.hid (keepBelow B3.out hb4); clear hb4 B3))
  go_ret
  exact ⟨rfl, B4.out⟩
set_option maxRecDepth 100000 in
set_option maxHeartbeats 1600000 in
theorem streams_nnb (key s : ByteArray) (nn fr ct : Int) (hk : ¬ 200 < key.size) (hs : ¬ 300 < s.size) (hn : nn < 0) (hf : fr < 0) (hc : 1048576 < ct) (w : World) (hT : Tabs w) : Calls Tryd.prog 9 #[.string key, .string s, .agg #[.int .i64 nn, .int .i64 fr, .int .i64 ct]] w fun e w' => e = .returned (.bool true) ∧ Below w.heap.size w w' := by
  have CA := Lib.hid (fun W (hW : Tabs W) => awake_any W hW)
  have HT := Lib.hid hT
  have g1 : ¬ (200 : Int) < key.size := by omega
  have g2 : ¬ (300 : Int) < s.size := by omega
  have x1 : 300 < ct := by omega
  have x2 : ¬ ct < 0 := by omega
  have x3 : 1048576 < ct := hc
  have x4 : ¬ ct ≤ 1048576 := by omega
  have y1 : ¬ 5000 < fr := by omega
  have y2 : fr < 0 := hf
  have z1 : nn < 0 := hn
  have hbad : sBad nn fr ct := by unfold sBad; omega
  have CS := Lib.hid (fun W (_ : Below w.heap.size w W) => stream_bad key nn fr ct hbad W)
  have CM := Lib.hid (fun W (_ : Below w.heap.size w W) => mask_bad s key nn hn W)
  clear hk hs hc hf hbad
  clear hT
  go_enter Tryd.func9, Tryd.ntmps9
  go_upto_region 3 with (go_at_call 11; refine (CA.out _ (HT.out.alloc _)).mono ?_; rintro e v0 ⟨rfl, hb⟩; have G0 := Lib.hid (keepBlk hb (Blk.new w 49 [.int .i64 nn, .int .i64 fr, .int .i64 ct])); have B00 := Lib.hid (keepBelow ((Below.refl w.heap.size w).alloc (Nat.le_refl _) _) hb); have cc0 : v0.cell? ⟨w.heap.size, 0, none⟩ = some (.int .i64 nn) := G0.out.cell 0; have cc1 : v0.cell? ⟨w.heap.size, 1, none⟩ = some (.int .i64 fr) := G0.out.cell 1; have cc2 : v0.cell? ⟨w.heap.size, 2, none⟩ = some (.int .i64 ct) := G0.out.cell 2; clear hb)
  go_quiet (fail)
  generalize hvq : v0.drewN nq = vq
  have B0 := Lib.hid (show Below w.heap.size w vq by rw [← hvq]; exact below_drewNd B00.out nq)
  clear hvq cc0 cc1 cc2 G0 B00
  go_wp2_with (first
      | (go_at_call 37; have tok := B0; clear tok; refine (CS.out _ ?_).mono ?_; exact B0.out; rintro e v1 ⟨rfl, hb1⟩; have B1 := Lib.hid (keepBelow B0.out hb1); clear hb1 B0)
      | (go_at_call 39; have tok := B1; clear tok; refine (CM.out _ ?_).mono ?_; exact B1.out; rintro e v2 ⟨rfl, hb2⟩; have B2 := Lib.hid (keepBelow B1.out hb2); clear hb2 B1))
  go_ret
  exact ⟨rfl, B2.out⟩
set_option maxRecDepth 100000 in
set_option maxHeartbeats 1600000 in
theorem streams_pnb (key s : ByteArray) (nn : Nat) (hno : nn < 9223372036854775808) (fr ct : Int) (hk : ¬ 200 < key.size) (hs : ¬ 300 < s.size) (hf : fr < 0) (hc : 1048576 < ct) (w : World) (hT : Tabs w) : Calls Tryd.prog 9 #[.string key, .string s, .agg #[.int .i64 nn, .int .i64 fr, .int .i64 ct]] w fun e w' => e = .returned (.bool true) ∧ Below w.heap.size w w' := by
  have CA := Lib.hid (fun W (hW : Tabs W) => awake_any W hW)
  have HT := Lib.hid hT
  have g1 : ¬ (200 : Int) < key.size := by omega
  have g2 : ¬ (300 : Int) < s.size := by omega
  have x1 : 300 < ct := by omega
  have x2 : ¬ ct < 0 := by omega
  have x3 : 1048576 < ct := hc
  have x4 : ¬ ct ≤ 1048576 := by omega
  have y1 : ¬ 5000 < fr := by omega
  have y2 : fr < 0 := hf
  have z1 : ¬ (nn : Int) < 0 := by omega
  have hbad : sBad (nn : Int) fr ct := by unfold sBad; omega
  have CS := Lib.hid (fun W (_ : Below w.heap.size w W) => stream_bad key nn fr ct hbad W)
  obtain ⟨MB, hMB⟩ : ∃ M : ByteArray, M = ⟨(mk s.data.toList (kst key.data.toList nn 0 s.size) s.size).toArray⟩ := ⟨_, rfl⟩
  obtain ⟨hm1, hm2⟩ := mask_two s key nn MB hMB
  have CM := Lib.hid (fun W (hb : Below w.heap.size w W) => (mask_good s key nn (by omega) hno (by omega) W (hT.keep hb)).mono (fun e w' h => by rw [← hMB] at h; exact h))
  have CN := Lib.hid (fun W (hb : Below w.heap.size w W) => (mask_good MB key nn (by omega) hno (by omega) W (hT.keep hb)).mono (fun e w' h => by rw [hm2] at h; exact h))
  have CR := Lib.hid (fun W (_ : Below w.heap.size w W) => (rmask_any s key nn (by omega) (by omega) W).mono (fun e w' h => by rw [← hMB] at h; exact h))
  clear hk hs hc hf hbad hMB hm1 hm2
  clear hT
  go_enter Tryd.func9, Tryd.ntmps9
  go_upto_region 3 with (go_at_call 11; refine (CA.out _ (HT.out.alloc _)).mono ?_; rintro e v0 ⟨rfl, hb⟩; have G0 := Lib.hid (keepBlk hb (Blk.new w 49 [.int .i64 nn, .int .i64 fr, .int .i64 ct])); have B00 := Lib.hid (keepBelow ((Below.refl w.heap.size w).alloc (Nat.le_refl _) _) hb); have cc0 : v0.cell? ⟨w.heap.size, 0, none⟩ = some (.int .i64 nn) := G0.out.cell 0; have cc1 : v0.cell? ⟨w.heap.size, 1, none⟩ = some (.int .i64 fr) := G0.out.cell 1; have cc2 : v0.cell? ⟨w.heap.size, 2, none⟩ = some (.int .i64 ct) := G0.out.cell 2; clear hb)
  go_quiet (fail)
  generalize hvq : v0.drewN nq = vq
  have B0 := Lib.hid (show Below w.heap.size w vq by rw [← hvq]; exact below_drewNd B00.out nq)
  clear hvq cc0 cc1 cc2 G0 B00
  go_wp2_with (first
      | (go_at_call 37; have tok := B0; clear tok; refine (CS.out _ ?_).mono ?_; exact B0.out; rintro e v1 ⟨rfl, hb1⟩; have B1 := Lib.hid (keepBelow B0.out hb1); clear hb1 B0)
      | (go_at_call 39; have tok := B1; clear tok; refine (CM.out _ ?_).mono ?_; exact B1.out; rintro e v2 ⟨rfl, hb2⟩; have B2 := Lib.hid (keepBelow B1.out hb2); clear hb2 B1)
      | (go_at_call 39; have tok := B2; clear tok; refine (CN.out _ ?_).mono ?_; exact B2.out; rintro e v3 ⟨rfl, hb3⟩; have B3 := Lib.hid (keepBelow B2.out hb3); clear hb3 B2)
      | (go_at_call 40; have tok := B3; clear tok; refine (CR.out _ ?_).mono ?_; exact B3.out; rintro e v4 ⟨rfl, hb4⟩; have B4 := Lib.hid (keepBelow B3.out hb4); clear hb4 B3))
  go_ret
  exact ⟨rfl, B4.out⟩
set_option maxRecDepth 100000 in
set_option maxHeartbeats 1600000 in
theorem streams_nmn (key s : ByteArray) (nn fr ct : Int) (hk : ¬ 200 < key.size) (hs : ¬ 300 < s.size) (hn : nn < 0) (hf : 0 ≤ fr ∧ fr ≤ 5000) (hc : ct < 0) (w : World) (hT : Tabs w) : Calls Tryd.prog 9 #[.string key, .string s, .agg #[.int .i64 nn, .int .i64 fr, .int .i64 ct]] w fun e w' => e = .returned (.bool true) ∧ Below w.heap.size w w' := by
  have CA := Lib.hid (fun W (hW : Tabs W) => awake_any W hW)
  have HT := Lib.hid hT
  have g1 : ¬ (200 : Int) < key.size := by omega
  have g2 : ¬ (300 : Int) < s.size := by omega
  have x1 : ¬ 300 < ct := by omega
  have x2 : ct < 0 := hc
  have y1 : ¬ 5000 < fr := by omega
  have y2 : ¬ fr < 0 := by omega
  have y3 : ¬ 1048576 < fr := by omega
  have z1 : nn < 0 := hn
  have hbad : sBad nn fr ct := by unfold sBad; omega
  have CS := Lib.hid (fun W (_ : Below w.heap.size w W) => stream_bad key nn fr ct hbad W)
  have CM := Lib.hid (fun W (_ : Below w.heap.size w W) => mask_bad s key nn hn W)
  clear hk hs hc hf hbad
  clear hT
  go_enter Tryd.func9, Tryd.ntmps9
  go_upto_region 3 with (go_at_call 11; refine (CA.out _ (HT.out.alloc _)).mono ?_; rintro e v0 ⟨rfl, hb⟩; have G0 := Lib.hid (keepBlk hb (Blk.new w 49 [.int .i64 nn, .int .i64 fr, .int .i64 ct])); have B00 := Lib.hid (keepBelow ((Below.refl w.heap.size w).alloc (Nat.le_refl _) _) hb); have cc0 : v0.cell? ⟨w.heap.size, 0, none⟩ = some (.int .i64 nn) := G0.out.cell 0; have cc1 : v0.cell? ⟨w.heap.size, 1, none⟩ = some (.int .i64 fr) := G0.out.cell 1; have cc2 : v0.cell? ⟨w.heap.size, 2, none⟩ = some (.int .i64 ct) := G0.out.cell 2; clear hb)
  go_quiet (fail)
  generalize hvq : v0.drewN nq = vq
  have B0 := Lib.hid (show Below w.heap.size w vq by rw [← hvq]; exact below_drewNd B00.out nq)
  clear hvq cc0 cc1 cc2 G0 B00
  go_wp2_with (first
      | (go_at_call 37; have tok := B0; clear tok; refine (CS.out _ ?_).mono ?_; exact B0.out; rintro e v1 ⟨rfl, hb1⟩; have B1 := Lib.hid (keepBelow B0.out hb1); clear hb1 B0)
      | (go_at_call 39; have tok := B1; clear tok; refine (CM.out _ ?_).mono ?_; exact B1.out; rintro e v2 ⟨rfl, hb2⟩; have B2 := Lib.hid (keepBelow B1.out hb2); clear hb2 B1))
  go_ret
  exact ⟨rfl, B2.out⟩
set_option maxRecDepth 100000 in
set_option maxHeartbeats 1600000 in
theorem streams_pmn (key s : ByteArray) (nn : Nat) (hno : nn < 9223372036854775808) (fr ct : Int) (hk : ¬ 200 < key.size) (hs : ¬ 300 < s.size) (hf : 0 ≤ fr ∧ fr ≤ 5000) (hc : ct < 0) (w : World) (hT : Tabs w) : Calls Tryd.prog 9 #[.string key, .string s, .agg #[.int .i64 nn, .int .i64 fr, .int .i64 ct]] w fun e w' => e = .returned (.bool true) ∧ Below w.heap.size w w' := by
  have CA := Lib.hid (fun W (hW : Tabs W) => awake_any W hW)
  have HT := Lib.hid hT
  have g1 : ¬ (200 : Int) < key.size := by omega
  have g2 : ¬ (300 : Int) < s.size := by omega
  have x1 : ¬ 300 < ct := by omega
  have x2 : ct < 0 := hc
  have y1 : ¬ 5000 < fr := by omega
  have y2 : ¬ fr < 0 := by omega
  have y3 : ¬ 1048576 < fr := by omega
  have z1 : ¬ (nn : Int) < 0 := by omega
  have hbad : sBad (nn : Int) fr ct := by unfold sBad; omega
  have CS := Lib.hid (fun W (_ : Below w.heap.size w W) => stream_bad key nn fr ct hbad W)
  obtain ⟨MB, hMB⟩ : ∃ M : ByteArray, M = ⟨(mk s.data.toList (kst key.data.toList nn 0 s.size) s.size).toArray⟩ := ⟨_, rfl⟩
  obtain ⟨hm1, hm2⟩ := mask_two s key nn MB hMB
  have CM := Lib.hid (fun W (hb : Below w.heap.size w W) => (mask_good s key nn (by omega) hno (by omega) W (hT.keep hb)).mono (fun e w' h => by rw [← hMB] at h; exact h))
  have CN := Lib.hid (fun W (hb : Below w.heap.size w W) => (mask_good MB key nn (by omega) hno (by omega) W (hT.keep hb)).mono (fun e w' h => by rw [hm2] at h; exact h))
  have CR := Lib.hid (fun W (_ : Below w.heap.size w W) => (rmask_any s key nn (by omega) (by omega) W).mono (fun e w' h => by rw [← hMB] at h; exact h))
  clear hk hs hc hf hbad hMB hm1 hm2
  clear hT
  go_enter Tryd.func9, Tryd.ntmps9
  go_upto_region 3 with (go_at_call 11; refine (CA.out _ (HT.out.alloc _)).mono ?_; rintro e v0 ⟨rfl, hb⟩; have G0 := Lib.hid (keepBlk hb (Blk.new w 49 [.int .i64 nn, .int .i64 fr, .int .i64 ct])); have B00 := Lib.hid (keepBelow ((Below.refl w.heap.size w).alloc (Nat.le_refl _) _) hb); have cc0 : v0.cell? ⟨w.heap.size, 0, none⟩ = some (.int .i64 nn) := G0.out.cell 0; have cc1 : v0.cell? ⟨w.heap.size, 1, none⟩ = some (.int .i64 fr) := G0.out.cell 1; have cc2 : v0.cell? ⟨w.heap.size, 2, none⟩ = some (.int .i64 ct) := G0.out.cell 2; clear hb)
  go_quiet (fail)
  generalize hvq : v0.drewN nq = vq
  have B0 := Lib.hid (show Below w.heap.size w vq by rw [← hvq]; exact below_drewNd B00.out nq)
  clear hvq cc0 cc1 cc2 G0 B00
  go_wp2_with (first
      | (go_at_call 37; have tok := B0; clear tok; refine (CS.out _ ?_).mono ?_; exact B0.out; rintro e v1 ⟨rfl, hb1⟩; have B1 := Lib.hid (keepBelow B0.out hb1); clear hb1 B0)
      | (go_at_call 39; have tok := B1; clear tok; refine (CM.out _ ?_).mono ?_; exact B1.out; rintro e v2 ⟨rfl, hb2⟩; have B2 := Lib.hid (keepBelow B1.out hb2); clear hb2 B1)
      | (go_at_call 39; have tok := B2; clear tok; refine (CN.out _ ?_).mono ?_; exact B2.out; rintro e v3 ⟨rfl, hb3⟩; have B3 := Lib.hid (keepBelow B2.out hb3); clear hb3 B2)
      | (go_at_call 40; have tok := B3; clear tok; refine (CR.out _ ?_).mono ?_; exact B3.out; rintro e v4 ⟨rfl, hb4⟩; have B4 := Lib.hid (keepBelow B3.out hb4); clear hb4 B3))
  go_ret
  exact ⟨rfl, B4.out⟩
set_option maxRecDepth 100000 in
set_option maxHeartbeats 1600000 in
theorem streams_nmm (key s : ByteArray) (nn fr ct : Int) (hk : ¬ 200 < key.size) (hs : ¬ 300 < s.size) (hn : nn < 0) (hf : 0 ≤ fr ∧ fr ≤ 5000) (hc : 0 ≤ ct ∧ ct ≤ 300) (w : World) (hT : Tabs w) : Calls Tryd.prog 9 #[.string key, .string s, .agg #[.int .i64 nn, .int .i64 fr, .int .i64 ct]] w fun e w' => e = .returned (.bool true) ∧ Below w.heap.size w w' := by
  have CA := Lib.hid (fun W (hW : Tabs W) => awake_any W hW)
  have HT := Lib.hid hT
  have g1 : ¬ (200 : Int) < key.size := by omega
  have g2 : ¬ (300 : Int) < s.size := by omega
  have x1 : ¬ 300 < ct := by omega
  have x2 : ¬ ct < 0 := by omega
  have x3 : ¬ 1048576 < ct := by omega
  have y1 : ¬ 5000 < fr := by omega
  have y2 : ¬ fr < 0 := by omega
  have y3 : ¬ 1048576 < fr := by omega
  have z1 : nn < 0 := hn
  have hbad : sBad nn fr ct := by unfold sBad; omega
  have CS := Lib.hid (fun W (_ : Below w.heap.size w W) => stream_bad key nn fr ct hbad W)
  have CM := Lib.hid (fun W (_ : Below w.heap.size w W) => mask_bad s key nn hn W)
  clear hk hs hc hf hbad
  clear hT
  go_enter Tryd.func9, Tryd.ntmps9
  go_upto_region 3 with (go_at_call 11; refine (CA.out _ (HT.out.alloc _)).mono ?_; rintro e v0 ⟨rfl, hb⟩; have G0 := Lib.hid (keepBlk hb (Blk.new w 49 [.int .i64 nn, .int .i64 fr, .int .i64 ct])); have B00 := Lib.hid (keepBelow ((Below.refl w.heap.size w).alloc (Nat.le_refl _) _) hb); have cc0 : v0.cell? ⟨w.heap.size, 0, none⟩ = some (.int .i64 nn) := G0.out.cell 0; have cc1 : v0.cell? ⟨w.heap.size, 1, none⟩ = some (.int .i64 fr) := G0.out.cell 1; have cc2 : v0.cell? ⟨w.heap.size, 2, none⟩ = some (.int .i64 ct) := G0.out.cell 2; clear hb)
  go_quiet (fail)
  generalize hvq : v0.drewN nq = vq
  have B0 := Lib.hid (show Below w.heap.size w vq by rw [← hvq]; exact below_drewNd B00.out nq)
  clear hvq cc0 cc1 cc2 G0 B00
  go_wp2_with (first
      | (go_at_call 37; have tok := B0; clear tok; refine (CS.out _ ?_).mono ?_; exact B0.out; rintro e v1 ⟨rfl, hb1⟩; have B1 := Lib.hid (keepBelow B0.out hb1); clear hb1 B0)
      | (go_at_call 39; have tok := B1; clear tok; refine (CM.out _ ?_).mono ?_; exact B1.out; rintro e v2 ⟨rfl, hb2⟩; have B2 := Lib.hid (keepBelow B1.out hb2); clear hb2 B1))
  go_ret
  exact ⟨rfl, B2.out⟩
set_option maxRecDepth 100000 in
set_option maxHeartbeats 1600000 in
theorem streams_nmb (key s : ByteArray) (nn fr ct : Int) (hk : ¬ 200 < key.size) (hs : ¬ 300 < s.size) (hn : nn < 0) (hf : 0 ≤ fr ∧ fr ≤ 5000) (hc : 1048576 < ct) (w : World) (hT : Tabs w) : Calls Tryd.prog 9 #[.string key, .string s, .agg #[.int .i64 nn, .int .i64 fr, .int .i64 ct]] w fun e w' => e = .returned (.bool true) ∧ Below w.heap.size w w' := by
  have CA := Lib.hid (fun W (hW : Tabs W) => awake_any W hW)
  have HT := Lib.hid hT
  have g1 : ¬ (200 : Int) < key.size := by omega
  have g2 : ¬ (300 : Int) < s.size := by omega
  have x1 : 300 < ct := by omega
  have x2 : ¬ ct < 0 := by omega
  have x3 : 1048576 < ct := hc
  have x4 : ¬ ct ≤ 1048576 := by omega
  have y1 : ¬ 5000 < fr := by omega
  have y2 : ¬ fr < 0 := by omega
  have y3 : ¬ 1048576 < fr := by omega
  have z1 : nn < 0 := hn
  have hbad : sBad nn fr ct := by unfold sBad; omega
  have CS := Lib.hid (fun W (_ : Below w.heap.size w W) => stream_bad key nn fr ct hbad W)
  have CM := Lib.hid (fun W (_ : Below w.heap.size w W) => mask_bad s key nn hn W)
  clear hk hs hc hf hbad
  clear hT
  go_enter Tryd.func9, Tryd.ntmps9
  go_upto_region 3 with (go_at_call 11; refine (CA.out _ (HT.out.alloc _)).mono ?_; rintro e v0 ⟨rfl, hb⟩; have G0 := Lib.hid (keepBlk hb (Blk.new w 49 [.int .i64 nn, .int .i64 fr, .int .i64 ct])); have B00 := Lib.hid (keepBelow ((Below.refl w.heap.size w).alloc (Nat.le_refl _) _) hb); have cc0 : v0.cell? ⟨w.heap.size, 0, none⟩ = some (.int .i64 nn) := G0.out.cell 0; have cc1 : v0.cell? ⟨w.heap.size, 1, none⟩ = some (.int .i64 fr) := G0.out.cell 1; have cc2 : v0.cell? ⟨w.heap.size, 2, none⟩ = some (.int .i64 ct) := G0.out.cell 2; clear hb)
  go_quiet (fail)
  generalize hvq : v0.drewN nq = vq
  have B0 := Lib.hid (show Below w.heap.size w vq by rw [← hvq]; exact below_drewNd B00.out nq)
  clear hvq cc0 cc1 cc2 G0 B00
  go_wp2_with (first
      | (go_at_call 37; have tok := B0; clear tok; refine (CS.out _ ?_).mono ?_; exact B0.out; rintro e v1 ⟨rfl, hb1⟩; have B1 := Lib.hid (keepBelow B0.out hb1); clear hb1 B0)
      | (go_at_call 39; have tok := B1; clear tok; refine (CM.out _ ?_).mono ?_; exact B1.out; rintro e v2 ⟨rfl, hb2⟩; have B2 := Lib.hid (keepBelow B1.out hb2); clear hb2 B1))
  go_ret
  exact ⟨rfl, B2.out⟩
set_option maxRecDepth 100000 in
set_option maxHeartbeats 1600000 in
theorem streams_pmb (key s : ByteArray) (nn : Nat) (hno : nn < 9223372036854775808) (fr ct : Int) (hk : ¬ 200 < key.size) (hs : ¬ 300 < s.size) (hf : 0 ≤ fr ∧ fr ≤ 5000) (hc : 1048576 < ct) (w : World) (hT : Tabs w) : Calls Tryd.prog 9 #[.string key, .string s, .agg #[.int .i64 nn, .int .i64 fr, .int .i64 ct]] w fun e w' => e = .returned (.bool true) ∧ Below w.heap.size w w' := by
  have CA := Lib.hid (fun W (hW : Tabs W) => awake_any W hW)
  have HT := Lib.hid hT
  have g1 : ¬ (200 : Int) < key.size := by omega
  have g2 : ¬ (300 : Int) < s.size := by omega
  have x1 : 300 < ct := by omega
  have x2 : ¬ ct < 0 := by omega
  have x3 : 1048576 < ct := hc
  have x4 : ¬ ct ≤ 1048576 := by omega
  have y1 : ¬ 5000 < fr := by omega
  have y2 : ¬ fr < 0 := by omega
  have y3 : ¬ 1048576 < fr := by omega
  have z1 : ¬ (nn : Int) < 0 := by omega
  have hbad : sBad (nn : Int) fr ct := by unfold sBad; omega
  have CS := Lib.hid (fun W (_ : Below w.heap.size w W) => stream_bad key nn fr ct hbad W)
  obtain ⟨MB, hMB⟩ : ∃ M : ByteArray, M = ⟨(mk s.data.toList (kst key.data.toList nn 0 s.size) s.size).toArray⟩ := ⟨_, rfl⟩
  obtain ⟨hm1, hm2⟩ := mask_two s key nn MB hMB
  have CM := Lib.hid (fun W (hb : Below w.heap.size w W) => (mask_good s key nn (by omega) hno (by omega) W (hT.keep hb)).mono (fun e w' h => by rw [← hMB] at h; exact h))
  have CN := Lib.hid (fun W (hb : Below w.heap.size w W) => (mask_good MB key nn (by omega) hno (by omega) W (hT.keep hb)).mono (fun e w' h => by rw [hm2] at h; exact h))
  have CR := Lib.hid (fun W (_ : Below w.heap.size w W) => (rmask_any s key nn (by omega) (by omega) W).mono (fun e w' h => by rw [← hMB] at h; exact h))
  clear hk hs hc hf hbad hMB hm1 hm2
  clear hT
  go_enter Tryd.func9, Tryd.ntmps9
  go_upto_region 3 with (go_at_call 11; refine (CA.out _ (HT.out.alloc _)).mono ?_; rintro e v0 ⟨rfl, hb⟩; have G0 := Lib.hid (keepBlk hb (Blk.new w 49 [.int .i64 nn, .int .i64 fr, .int .i64 ct])); have B00 := Lib.hid (keepBelow ((Below.refl w.heap.size w).alloc (Nat.le_refl _) _) hb); have cc0 : v0.cell? ⟨w.heap.size, 0, none⟩ = some (.int .i64 nn) := G0.out.cell 0; have cc1 : v0.cell? ⟨w.heap.size, 1, none⟩ = some (.int .i64 fr) := G0.out.cell 1; have cc2 : v0.cell? ⟨w.heap.size, 2, none⟩ = some (.int .i64 ct) := G0.out.cell 2; clear hb)
  go_quiet (fail)
  generalize hvq : v0.drewN nq = vq
  have B0 := Lib.hid (show Below w.heap.size w vq by rw [← hvq]; exact below_drewNd B00.out nq)
  clear hvq cc0 cc1 cc2 G0 B00
  go_wp2_with (first
      | (go_at_call 37; have tok := B0; clear tok; refine (CS.out _ ?_).mono ?_; exact B0.out; rintro e v1 ⟨rfl, hb1⟩; have B1 := Lib.hid (keepBelow B0.out hb1); clear hb1 B0)
      | (go_at_call 39; have tok := B1; clear tok; refine (CM.out _ ?_).mono ?_; exact B1.out; rintro e v2 ⟨rfl, hb2⟩; have B2 := Lib.hid (keepBelow B1.out hb2); clear hb2 B1)
      | (go_at_call 39; have tok := B2; clear tok; refine (CN.out _ ?_).mono ?_; exact B2.out; rintro e v3 ⟨rfl, hb3⟩; have B3 := Lib.hid (keepBelow B2.out hb3); clear hb3 B2)
      | (go_at_call 40; have tok := B3; clear tok; refine (CR.out _ ?_).mono ?_; exact B3.out; rintro e v4 ⟨rfl, hb4⟩; have B4 := Lib.hid (keepBelow B3.out hb4); clear hb4 B3))
  go_ret
  exact ⟨rfl, B4.out⟩
set_option maxRecDepth 100000 in
set_option maxHeartbeats 1600000 in
theorem streams_nbn (key s : ByteArray) (nn fr ct : Int) (hk : ¬ 200 < key.size) (hs : ¬ 300 < s.size) (hn : nn < 0) (hf : 1048576 < fr) (hc : ct < 0) (w : World) (hT : Tabs w) : Calls Tryd.prog 9 #[.string key, .string s, .agg #[.int .i64 nn, .int .i64 fr, .int .i64 ct]] w fun e w' => e = .returned (.bool true) ∧ Below w.heap.size w w' := by
  have CA := Lib.hid (fun W (hW : Tabs W) => awake_any W hW)
  have HT := Lib.hid hT
  have g1 : ¬ (200 : Int) < key.size := by omega
  have g2 : ¬ (300 : Int) < s.size := by omega
  have x1 : ¬ 300 < ct := by omega
  have x2 : ct < 0 := hc
  have y1 : 5000 < fr := by omega
  have y2 : ¬ fr < 0 := by omega
  have y3 : 1048576 < fr := hf
  have y4 : ¬ fr ≤ 1048576 := by omega
  have z1 : nn < 0 := hn
  have hbad : sBad nn fr ct := by unfold sBad; omega
  have CS := Lib.hid (fun W (_ : Below w.heap.size w W) => stream_bad key nn fr ct hbad W)
  have CM := Lib.hid (fun W (_ : Below w.heap.size w W) => mask_bad s key nn hn W)
  clear hk hs hc hf hbad
  clear hT
  go_enter Tryd.func9, Tryd.ntmps9
  go_upto_region 3 with (go_at_call 11; refine (CA.out _ (HT.out.alloc _)).mono ?_; rintro e v0 ⟨rfl, hb⟩; have G0 := Lib.hid (keepBlk hb (Blk.new w 49 [.int .i64 nn, .int .i64 fr, .int .i64 ct])); have B00 := Lib.hid (keepBelow ((Below.refl w.heap.size w).alloc (Nat.le_refl _) _) hb); have cc0 : v0.cell? ⟨w.heap.size, 0, none⟩ = some (.int .i64 nn) := G0.out.cell 0; have cc1 : v0.cell? ⟨w.heap.size, 1, none⟩ = some (.int .i64 fr) := G0.out.cell 1; have cc2 : v0.cell? ⟨w.heap.size, 2, none⟩ = some (.int .i64 ct) := G0.out.cell 2; clear hb)
  go_quiet (fail)
  generalize hvq : v0.drewN nq = vq
  have B0 := Lib.hid (show Below w.heap.size w vq by rw [← hvq]; exact below_drewNd B00.out nq)
  clear hvq cc0 cc1 cc2 G0 B00
  go_wp2_with (first
      | (go_at_call 37; have tok := B0; clear tok; refine (CS.out _ ?_).mono ?_; exact B0.out; rintro e v1 ⟨rfl, hb1⟩; have B1 := Lib.hid (keepBelow B0.out hb1); clear hb1 B0)
      | (go_at_call 39; have tok := B1; clear tok; refine (CM.out _ ?_).mono ?_; exact B1.out; rintro e v2 ⟨rfl, hb2⟩; have B2 := Lib.hid (keepBelow B1.out hb2); clear hb2 B1))
  go_ret
  exact ⟨rfl, B2.out⟩
set_option maxRecDepth 100000 in
set_option maxHeartbeats 1600000 in
theorem streams_pbn (key s : ByteArray) (nn : Nat) (hno : nn < 9223372036854775808) (fr ct : Int) (hk : ¬ 200 < key.size) (hs : ¬ 300 < s.size) (hf : 1048576 < fr) (hc : ct < 0) (w : World) (hT : Tabs w) : Calls Tryd.prog 9 #[.string key, .string s, .agg #[.int .i64 nn, .int .i64 fr, .int .i64 ct]] w fun e w' => e = .returned (.bool true) ∧ Below w.heap.size w w' := by
  have CA := Lib.hid (fun W (hW : Tabs W) => awake_any W hW)
  have HT := Lib.hid hT
  have g1 : ¬ (200 : Int) < key.size := by omega
  have g2 : ¬ (300 : Int) < s.size := by omega
  have x1 : ¬ 300 < ct := by omega
  have x2 : ct < 0 := hc
  have y1 : 5000 < fr := by omega
  have y2 : ¬ fr < 0 := by omega
  have y3 : 1048576 < fr := hf
  have y4 : ¬ fr ≤ 1048576 := by omega
  have z1 : ¬ (nn : Int) < 0 := by omega
  have hbad : sBad (nn : Int) fr ct := by unfold sBad; omega
  have CS := Lib.hid (fun W (_ : Below w.heap.size w W) => stream_bad key nn fr ct hbad W)
  obtain ⟨MB, hMB⟩ : ∃ M : ByteArray, M = ⟨(mk s.data.toList (kst key.data.toList nn 0 s.size) s.size).toArray⟩ := ⟨_, rfl⟩
  obtain ⟨hm1, hm2⟩ := mask_two s key nn MB hMB
  have CM := Lib.hid (fun W (hb : Below w.heap.size w W) => (mask_good s key nn (by omega) hno (by omega) W (hT.keep hb)).mono (fun e w' h => by rw [← hMB] at h; exact h))
  have CN := Lib.hid (fun W (hb : Below w.heap.size w W) => (mask_good MB key nn (by omega) hno (by omega) W (hT.keep hb)).mono (fun e w' h => by rw [hm2] at h; exact h))
  have CR := Lib.hid (fun W (_ : Below w.heap.size w W) => (rmask_any s key nn (by omega) (by omega) W).mono (fun e w' h => by rw [← hMB] at h; exact h))
  clear hk hs hc hf hbad hMB hm1 hm2
  clear hT
  go_enter Tryd.func9, Tryd.ntmps9
  go_upto_region 3 with (go_at_call 11; refine (CA.out _ (HT.out.alloc _)).mono ?_; rintro e v0 ⟨rfl, hb⟩; have G0 := Lib.hid (keepBlk hb (Blk.new w 49 [.int .i64 nn, .int .i64 fr, .int .i64 ct])); have B00 := Lib.hid (keepBelow ((Below.refl w.heap.size w).alloc (Nat.le_refl _) _) hb); have cc0 : v0.cell? ⟨w.heap.size, 0, none⟩ = some (.int .i64 nn) := G0.out.cell 0; have cc1 : v0.cell? ⟨w.heap.size, 1, none⟩ = some (.int .i64 fr) := G0.out.cell 1; have cc2 : v0.cell? ⟨w.heap.size, 2, none⟩ = some (.int .i64 ct) := G0.out.cell 2; clear hb)
  go_quiet (fail)
  generalize hvq : v0.drewN nq = vq
  have B0 := Lib.hid (show Below w.heap.size w vq by rw [← hvq]; exact below_drewNd B00.out nq)
  clear hvq cc0 cc1 cc2 G0 B00
  go_wp2_with (first
      | (go_at_call 37; have tok := B0; clear tok; refine (CS.out _ ?_).mono ?_; exact B0.out; rintro e v1 ⟨rfl, hb1⟩; have B1 := Lib.hid (keepBelow B0.out hb1); clear hb1 B0)
      | (go_at_call 39; have tok := B1; clear tok; refine (CM.out _ ?_).mono ?_; exact B1.out; rintro e v2 ⟨rfl, hb2⟩; have B2 := Lib.hid (keepBelow B1.out hb2); clear hb2 B1)
      | (go_at_call 39; have tok := B2; clear tok; refine (CN.out _ ?_).mono ?_; exact B2.out; rintro e v3 ⟨rfl, hb3⟩; have B3 := Lib.hid (keepBelow B2.out hb3); clear hb3 B2)
      | (go_at_call 40; have tok := B3; clear tok; refine (CR.out _ ?_).mono ?_; exact B3.out; rintro e v4 ⟨rfl, hb4⟩; have B4 := Lib.hid (keepBelow B3.out hb4); clear hb4 B3))
  go_ret
  exact ⟨rfl, B4.out⟩
set_option maxRecDepth 100000 in
set_option maxHeartbeats 1600000 in
theorem streams_nbm (key s : ByteArray) (nn fr ct : Int) (hk : ¬ 200 < key.size) (hs : ¬ 300 < s.size) (hn : nn < 0) (hf : 1048576 < fr) (hc : 0 ≤ ct ∧ ct ≤ 300) (w : World) (hT : Tabs w) : Calls Tryd.prog 9 #[.string key, .string s, .agg #[.int .i64 nn, .int .i64 fr, .int .i64 ct]] w fun e w' => e = .returned (.bool true) ∧ Below w.heap.size w w' := by
  have CA := Lib.hid (fun W (hW : Tabs W) => awake_any W hW)
  have HT := Lib.hid hT
  have g1 : ¬ (200 : Int) < key.size := by omega
  have g2 : ¬ (300 : Int) < s.size := by omega
  have x1 : ¬ 300 < ct := by omega
  have x2 : ¬ ct < 0 := by omega
  have x3 : ¬ 1048576 < ct := by omega
  have y1 : 5000 < fr := by omega
  have y2 : ¬ fr < 0 := by omega
  have y3 : 1048576 < fr := hf
  have y4 : ¬ fr ≤ 1048576 := by omega
  have z1 : nn < 0 := hn
  have hbad : sBad nn fr ct := by unfold sBad; omega
  have CS := Lib.hid (fun W (_ : Below w.heap.size w W) => stream_bad key nn fr ct hbad W)
  have CM := Lib.hid (fun W (_ : Below w.heap.size w W) => mask_bad s key nn hn W)
  clear hk hs hc hf hbad
  clear hT
  go_enter Tryd.func9, Tryd.ntmps9
  go_upto_region 3 with (go_at_call 11; refine (CA.out _ (HT.out.alloc _)).mono ?_; rintro e v0 ⟨rfl, hb⟩; have G0 := Lib.hid (keepBlk hb (Blk.new w 49 [.int .i64 nn, .int .i64 fr, .int .i64 ct])); have B00 := Lib.hid (keepBelow ((Below.refl w.heap.size w).alloc (Nat.le_refl _) _) hb); have cc0 : v0.cell? ⟨w.heap.size, 0, none⟩ = some (.int .i64 nn) := G0.out.cell 0; have cc1 : v0.cell? ⟨w.heap.size, 1, none⟩ = some (.int .i64 fr) := G0.out.cell 1; have cc2 : v0.cell? ⟨w.heap.size, 2, none⟩ = some (.int .i64 ct) := G0.out.cell 2; clear hb)
  go_quiet (fail)
  generalize hvq : v0.drewN nq = vq
  have B0 := Lib.hid (show Below w.heap.size w vq by rw [← hvq]; exact below_drewNd B00.out nq)
  clear hvq cc0 cc1 cc2 G0 B00
  go_wp2_with (first
      | (go_at_call 37; have tok := B0; clear tok; refine (CS.out _ ?_).mono ?_; exact B0.out; rintro e v1 ⟨rfl, hb1⟩; have B1 := Lib.hid (keepBelow B0.out hb1); clear hb1 B0)
      | (go_at_call 39; have tok := B1; clear tok; refine (CM.out _ ?_).mono ?_; exact B1.out; rintro e v2 ⟨rfl, hb2⟩; have B2 := Lib.hid (keepBelow B1.out hb2); clear hb2 B1))
  go_ret
  exact ⟨rfl, B2.out⟩
set_option maxRecDepth 100000 in
set_option maxHeartbeats 1600000 in
theorem streams_pbm (key s : ByteArray) (nn : Nat) (hno : nn < 9223372036854775808) (fr ct : Int) (hk : ¬ 200 < key.size) (hs : ¬ 300 < s.size) (hf : 1048576 < fr) (hc : 0 ≤ ct ∧ ct ≤ 300) (w : World) (hT : Tabs w) : Calls Tryd.prog 9 #[.string key, .string s, .agg #[.int .i64 nn, .int .i64 fr, .int .i64 ct]] w fun e w' => e = .returned (.bool true) ∧ Below w.heap.size w w' := by
  have CA := Lib.hid (fun W (hW : Tabs W) => awake_any W hW)
  have HT := Lib.hid hT
  have g1 : ¬ (200 : Int) < key.size := by omega
  have g2 : ¬ (300 : Int) < s.size := by omega
  have x1 : ¬ 300 < ct := by omega
  have x2 : ¬ ct < 0 := by omega
  have x3 : ¬ 1048576 < ct := by omega
  have y1 : 5000 < fr := by omega
  have y2 : ¬ fr < 0 := by omega
  have y3 : 1048576 < fr := hf
  have y4 : ¬ fr ≤ 1048576 := by omega
  have z1 : ¬ (nn : Int) < 0 := by omega
  have hbad : sBad (nn : Int) fr ct := by unfold sBad; omega
  have CS := Lib.hid (fun W (_ : Below w.heap.size w W) => stream_bad key nn fr ct hbad W)
  obtain ⟨MB, hMB⟩ : ∃ M : ByteArray, M = ⟨(mk s.data.toList (kst key.data.toList nn 0 s.size) s.size).toArray⟩ := ⟨_, rfl⟩
  obtain ⟨hm1, hm2⟩ := mask_two s key nn MB hMB
  have CM := Lib.hid (fun W (hb : Below w.heap.size w W) => (mask_good s key nn (by omega) hno (by omega) W (hT.keep hb)).mono (fun e w' h => by rw [← hMB] at h; exact h))
  have CN := Lib.hid (fun W (hb : Below w.heap.size w W) => (mask_good MB key nn (by omega) hno (by omega) W (hT.keep hb)).mono (fun e w' h => by rw [hm2] at h; exact h))
  have CR := Lib.hid (fun W (_ : Below w.heap.size w W) => (rmask_any s key nn (by omega) (by omega) W).mono (fun e w' h => by rw [← hMB] at h; exact h))
  clear hk hs hc hf hbad hMB hm1 hm2
  clear hT
  go_enter Tryd.func9, Tryd.ntmps9
  go_upto_region 3 with (go_at_call 11; refine (CA.out _ (HT.out.alloc _)).mono ?_; rintro e v0 ⟨rfl, hb⟩; have G0 := Lib.hid (keepBlk hb (Blk.new w 49 [.int .i64 nn, .int .i64 fr, .int .i64 ct])); have B00 := Lib.hid (keepBelow ((Below.refl w.heap.size w).alloc (Nat.le_refl _) _) hb); have cc0 : v0.cell? ⟨w.heap.size, 0, none⟩ = some (.int .i64 nn) := G0.out.cell 0; have cc1 : v0.cell? ⟨w.heap.size, 1, none⟩ = some (.int .i64 fr) := G0.out.cell 1; have cc2 : v0.cell? ⟨w.heap.size, 2, none⟩ = some (.int .i64 ct) := G0.out.cell 2; clear hb)
  go_quiet (fail)
  generalize hvq : v0.drewN nq = vq
  have B0 := Lib.hid (show Below w.heap.size w vq by rw [← hvq]; exact below_drewNd B00.out nq)
  clear hvq cc0 cc1 cc2 G0 B00
  go_wp2_with (first
      | (go_at_call 37; have tok := B0; clear tok; refine (CS.out _ ?_).mono ?_; exact B0.out; rintro e v1 ⟨rfl, hb1⟩; have B1 := Lib.hid (keepBelow B0.out hb1); clear hb1 B0)
      | (go_at_call 39; have tok := B1; clear tok; refine (CM.out _ ?_).mono ?_; exact B1.out; rintro e v2 ⟨rfl, hb2⟩; have B2 := Lib.hid (keepBelow B1.out hb2); clear hb2 B1)
      | (go_at_call 39; have tok := B2; clear tok; refine (CN.out _ ?_).mono ?_; exact B2.out; rintro e v3 ⟨rfl, hb3⟩; have B3 := Lib.hid (keepBelow B2.out hb3); clear hb3 B2)
      | (go_at_call 40; have tok := B3; clear tok; refine (CR.out _ ?_).mono ?_; exact B3.out; rintro e v4 ⟨rfl, hb4⟩; have B4 := Lib.hid (keepBelow B3.out hb4); clear hb4 B3))
  go_ret
  exact ⟨rfl, B4.out⟩
set_option maxRecDepth 100000 in
set_option maxHeartbeats 1600000 in
theorem streams_nbb (key s : ByteArray) (nn fr ct : Int) (hk : ¬ 200 < key.size) (hs : ¬ 300 < s.size) (hn : nn < 0) (hf : 1048576 < fr) (hc : 1048576 < ct) (w : World) (hT : Tabs w) : Calls Tryd.prog 9 #[.string key, .string s, .agg #[.int .i64 nn, .int .i64 fr, .int .i64 ct]] w fun e w' => e = .returned (.bool true) ∧ Below w.heap.size w w' := by
  have CA := Lib.hid (fun W (hW : Tabs W) => awake_any W hW)
  have HT := Lib.hid hT
  have g1 : ¬ (200 : Int) < key.size := by omega
  have g2 : ¬ (300 : Int) < s.size := by omega
  have x1 : 300 < ct := by omega
  have x2 : ¬ ct < 0 := by omega
  have x3 : 1048576 < ct := hc
  have x4 : ¬ ct ≤ 1048576 := by omega
  have y1 : 5000 < fr := by omega
  have y2 : ¬ fr < 0 := by omega
  have y3 : 1048576 < fr := hf
  have y4 : ¬ fr ≤ 1048576 := by omega
  have z1 : nn < 0 := hn
  have hbad : sBad nn fr ct := by unfold sBad; omega
  have CS := Lib.hid (fun W (_ : Below w.heap.size w W) => stream_bad key nn fr ct hbad W)
  have CM := Lib.hid (fun W (_ : Below w.heap.size w W) => mask_bad s key nn hn W)
  clear hk hs hc hf hbad
  clear hT
  go_enter Tryd.func9, Tryd.ntmps9
  go_upto_region 3 with (go_at_call 11; refine (CA.out _ (HT.out.alloc _)).mono ?_; rintro e v0 ⟨rfl, hb⟩; have G0 := Lib.hid (keepBlk hb (Blk.new w 49 [.int .i64 nn, .int .i64 fr, .int .i64 ct])); have B00 := Lib.hid (keepBelow ((Below.refl w.heap.size w).alloc (Nat.le_refl _) _) hb); have cc0 : v0.cell? ⟨w.heap.size, 0, none⟩ = some (.int .i64 nn) := G0.out.cell 0; have cc1 : v0.cell? ⟨w.heap.size, 1, none⟩ = some (.int .i64 fr) := G0.out.cell 1; have cc2 : v0.cell? ⟨w.heap.size, 2, none⟩ = some (.int .i64 ct) := G0.out.cell 2; clear hb)
  go_quiet (fail)
  generalize hvq : v0.drewN nq = vq
  have B0 := Lib.hid (show Below w.heap.size w vq by rw [← hvq]; exact below_drewNd B00.out nq)
  clear hvq cc0 cc1 cc2 G0 B00
  go_wp2_with (first
      | (go_at_call 37; have tok := B0; clear tok; refine (CS.out _ ?_).mono ?_; exact B0.out; rintro e v1 ⟨rfl, hb1⟩; have B1 := Lib.hid (keepBelow B0.out hb1); clear hb1 B0)
      | (go_at_call 39; have tok := B1; clear tok; refine (CM.out _ ?_).mono ?_; exact B1.out; rintro e v2 ⟨rfl, hb2⟩; have B2 := Lib.hid (keepBelow B1.out hb2); clear hb2 B1))
  go_ret
  exact ⟨rfl, B2.out⟩
set_option maxRecDepth 100000 in
set_option maxHeartbeats 1600000 in
theorem streams_pbb (key s : ByteArray) (nn : Nat) (hno : nn < 9223372036854775808) (fr ct : Int) (hk : ¬ 200 < key.size) (hs : ¬ 300 < s.size) (hf : 1048576 < fr) (hc : 1048576 < ct) (w : World) (hT : Tabs w) : Calls Tryd.prog 9 #[.string key, .string s, .agg #[.int .i64 nn, .int .i64 fr, .int .i64 ct]] w fun e w' => e = .returned (.bool true) ∧ Below w.heap.size w w' := by
  have CA := Lib.hid (fun W (hW : Tabs W) => awake_any W hW)
  have HT := Lib.hid hT
  have g1 : ¬ (200 : Int) < key.size := by omega
  have g2 : ¬ (300 : Int) < s.size := by omega
  have x1 : 300 < ct := by omega
  have x2 : ¬ ct < 0 := by omega
  have x3 : 1048576 < ct := hc
  have x4 : ¬ ct ≤ 1048576 := by omega
  have y1 : 5000 < fr := by omega
  have y2 : ¬ fr < 0 := by omega
  have y3 : 1048576 < fr := hf
  have y4 : ¬ fr ≤ 1048576 := by omega
  have z1 : ¬ (nn : Int) < 0 := by omega
  have hbad : sBad (nn : Int) fr ct := by unfold sBad; omega
  have CS := Lib.hid (fun W (_ : Below w.heap.size w W) => stream_bad key nn fr ct hbad W)
  obtain ⟨MB, hMB⟩ : ∃ M : ByteArray, M = ⟨(mk s.data.toList (kst key.data.toList nn 0 s.size) s.size).toArray⟩ := ⟨_, rfl⟩
  obtain ⟨hm1, hm2⟩ := mask_two s key nn MB hMB
  have CM := Lib.hid (fun W (hb : Below w.heap.size w W) => (mask_good s key nn (by omega) hno (by omega) W (hT.keep hb)).mono (fun e w' h => by rw [← hMB] at h; exact h))
  have CN := Lib.hid (fun W (hb : Below w.heap.size w W) => (mask_good MB key nn (by omega) hno (by omega) W (hT.keep hb)).mono (fun e w' h => by rw [hm2] at h; exact h))
  have CR := Lib.hid (fun W (_ : Below w.heap.size w W) => (rmask_any s key nn (by omega) (by omega) W).mono (fun e w' h => by rw [← hMB] at h; exact h))
  clear hk hs hc hf hbad hMB hm1 hm2
  clear hT
  go_enter Tryd.func9, Tryd.ntmps9
  go_upto_region 3 with (go_at_call 11; refine (CA.out _ (HT.out.alloc _)).mono ?_; rintro e v0 ⟨rfl, hb⟩; have G0 := Lib.hid (keepBlk hb (Blk.new w 49 [.int .i64 nn, .int .i64 fr, .int .i64 ct])); have B00 := Lib.hid (keepBelow ((Below.refl w.heap.size w).alloc (Nat.le_refl _) _) hb); have cc0 : v0.cell? ⟨w.heap.size, 0, none⟩ = some (.int .i64 nn) := G0.out.cell 0; have cc1 : v0.cell? ⟨w.heap.size, 1, none⟩ = some (.int .i64 fr) := G0.out.cell 1; have cc2 : v0.cell? ⟨w.heap.size, 2, none⟩ = some (.int .i64 ct) := G0.out.cell 2; clear hb)
  go_quiet (fail)
  generalize hvq : v0.drewN nq = vq
  have B0 := Lib.hid (show Below w.heap.size w vq by rw [← hvq]; exact below_drewNd B00.out nq)
  clear hvq cc0 cc1 cc2 G0 B00
  go_wp2_with (first
      | (go_at_call 37; have tok := B0; clear tok; refine (CS.out _ ?_).mono ?_; exact B0.out; rintro e v1 ⟨rfl, hb1⟩; have B1 := Lib.hid (keepBelow B0.out hb1); clear hb1 B0)
      | (go_at_call 39; have tok := B1; clear tok; refine (CM.out _ ?_).mono ?_; exact B1.out; rintro e v2 ⟨rfl, hb2⟩; have B2 := Lib.hid (keepBelow B1.out hb2); clear hb2 B1)
      | (go_at_call 39; have tok := B2; clear tok; refine (CN.out _ ?_).mono ?_; exact B2.out; rintro e v3 ⟨rfl, hb3⟩; have B3 := Lib.hid (keepBelow B2.out hb3); clear hb3 B2)
      | (go_at_call 40; have tok := B3; clear tok; refine (CR.out _ ?_).mono ?_; exact B3.out; rintro e v4 ⟨rfl, hb4⟩; have B4 := Lib.hid (keepBelow B3.out hb4); clear hb4 B3))
  go_ret
  exact ⟨rfl, B4.out⟩
set_option maxRecDepth 100000 in
set_option maxHeartbeats 1600000 in
theorem streams_g (key s : ByteArray) (nn : Nat) (hno : nn < 9223372036854775808) (fr ct : Nat) (hk : ¬ 200 < key.size) (hs : ¬ 300 < s.size) (hf : fr ≤ 5000) (hc : ct ≤ 300) (w : World) (hT : Tabs w) : Calls Tryd.prog 9 #[.string key, .string s, .agg #[.int .i64 nn, .int .i64 fr, .int .i64 ct]] w fun e w' => e = .returned (.bool true) ∧ Below w.heap.size w w' := by
  have CA := Lib.hid (fun W (hW : Tabs W) => awake_any W hW)
  have HT := Lib.hid hT
  have g1 : ¬ (200 : Int) < key.size := by omega
  have g2 : ¬ (300 : Int) < s.size := by omega
  have x1 : ¬ (300 : Int) < ct := by omega
  have x2 : ¬ (ct : Int) < 0 := by omega
  have x3 : ¬ (1048576 : Int) < ct := by omega
  have y1 : ¬ (5000 : Int) < fr := by omega
  have y2 : ¬ (fr : Int) < 0 := by omega
  have y3 : ¬ (1048576 : Int) < fr := by omega
  have z1 : ¬ (nn : Int) < 0 := by omega
  have m1 : IntKind.i64.wrap ((fr : Int) + ct) = ((fr + ct : Nat) : Int) := by rw [IntWalk.i64_in _ (by omega)]; omega
  obtain ⟨XB, hXB⟩ : ∃ M : ByteArray, M = ⟨(kst key.data.toList nn fr ct).toArray⟩ := ⟨_, rfl⟩
  obtain ⟨AB, hAB⟩ : ∃ M : ByteArray, M = ⟨(kst key.data.toList nn 0 (fr + ct)).toArray⟩ := ⟨_, rfl⟩
  have hAs : AB.size = fr + ct := by rw [hAB, str_size, kst_len]
  have k1 : ((AB.size : Int) != (fr : Int) + ct) = false := by rw [hAs]; simp
  have k1b : ((AB.size : Int) != ((fr + ct : Nat) : Int)) = false := by rw [hAs]; simp
  have k2 : (fr : Int) ≤ AB.size := by omega
  have k3 : fr ≤ AB.size := by omega
  have k4 : (0 : Int) ≤ fr := by omega
  have hX : AB.extract fr AB.size = XB := by
    have e : (AB.extract fr AB.size).data.toList = XB.data.toList := by
      rw [ex_drop, hAB, hXB, str_list, str_list]
      have h2 := kst_part key.data.toList nn 0 (fr + ct) fr ct (Nat.le_refl _)
      rw [List.take_of_length_le (by rw [List.length_drop, kst_len]; omega), Nat.zero_add] at h2
      exact h2
    cases XB; cases h : AB.extract fr AB.size
    rw [h] at e
    congr 1
    exact Array.toList_inj.1 e
  have CS := Lib.hid (fun W (hb : Below w.heap.size w W) => (stream_good key nn fr ct (by omega) hno (by omega) (by omega) W (hT.keep hb)).mono (fun e w' h => by rw [← hXB] at h; exact h))
  have CL := Lib.hid (fun W (hb : Below w.heap.size w W) => (stream_good key nn 0 (fr + ct) (by omega) hno (by omega) (by omega) W (hT.keep hb)).mono (fun e w' h => by rw [← hAB] at h; exact h))
  have CQ := Lib.hid (fun W (_ : Below w.heap.size w W) => (rstream_any key nn fr ct (by omega) (by omega) (by omega) W).mono (fun e w' h => by rw [← hXB] at h; exact h))
  obtain ⟨MB, hMB⟩ : ∃ M : ByteArray, M = ⟨(mk s.data.toList (kst key.data.toList nn 0 s.size) s.size).toArray⟩ := ⟨_, rfl⟩
  obtain ⟨hm1, hm2⟩ := mask_two s key nn MB hMB
  have CM := Lib.hid (fun W (hb : Below w.heap.size w W) => (mask_good s key nn (by omega) hno (by omega) W (hT.keep hb)).mono (fun e w' h => by rw [← hMB] at h; exact h))
  have CN := Lib.hid (fun W (hb : Below w.heap.size w W) => (mask_good MB key nn (by omega) hno (by omega) W (hT.keep hb)).mono (fun e w' h => by rw [hm2] at h; exact h))
  have CR := Lib.hid (fun W (_ : Below w.heap.size w W) => (rmask_any s key nn (by omega) (by omega) W).mono (fun e w' h => by rw [← hMB] at h; exact h))
  clear hk hs hc hf hMB hm1 hm2 hXB hAB hAs
  clear hT
  go_enter Tryd.func9, Tryd.ntmps9
  go_upto_region 3 with (go_at_call 11; refine (CA.out _ (HT.out.alloc _)).mono ?_; rintro e v0 ⟨rfl, hb⟩; have G0 := Lib.hid (keepBlk hb (Blk.new w 49 [.int .i64 nn, .int .i64 fr, .int .i64 ct])); have B00 := Lib.hid (keepBelow ((Below.refl w.heap.size w).alloc (Nat.le_refl _) _) hb); have cc0 : v0.cell? ⟨w.heap.size, 0, none⟩ = some (.int .i64 nn) := G0.out.cell 0; have cc1 : v0.cell? ⟨w.heap.size, 1, none⟩ = some (.int .i64 fr) := G0.out.cell 1; have cc2 : v0.cell? ⟨w.heap.size, 2, none⟩ = some (.int .i64 ct) := G0.out.cell 2; clear hb)
  go_quiet (fail)
  generalize hvq : v0.drewN nq = vq
  have B0 := Lib.hid (show Below w.heap.size w vq by rw [← hvq]; exact below_drewNd B00.out nq)
  clear hvq cc0 cc1 cc2 G0 B00
  go_wp2_with (first
      | (go_at_call 37; have tok := B0; clear tok; refine (CS.out _ ?_).mono ?_; exact B0.out; rintro e v1 ⟨rfl, hb1⟩; have B1 := Lib.hid (keepBelow B0.out hb1); clear hb1 B0)
      | (go_at_call 37; have tok := B1; clear tok; refine (CL.out _ ?_).mono ?_; exact B1.out; rintro e v2 ⟨rfl, hb2⟩; have B2 := Lib.hid (keepBelow B1.out hb2); clear hb2 B1)
      | (go_at_call 38; have tok := B2; clear tok; refine (CQ.out _ ?_).mono ?_; exact B2.out; rintro e v3 ⟨rfl, hb3⟩; have B3 := Lib.hid (keepBelow B2.out hb3); clear hb3 B2)
      | (go_at_call 39; have tok := B3; clear tok; refine (CM.out _ ?_).mono ?_; exact B3.out; rintro e v4 ⟨rfl, hb4⟩; have B4 := Lib.hid (keepBelow B3.out hb4); clear hb4 B3)
      | (go_at_call 39; have tok := B4; clear tok; refine (CN.out _ ?_).mono ?_; exact B4.out; rintro e v5 ⟨rfl, hb5⟩; have B5 := Lib.hid (keepBelow B4.out hb5); clear hb5 B4)
      | (go_at_call 40; have tok := B5; clear tok; refine (CR.out _ ?_).mono ?_; exact B5.out; rintro e v6 ⟨rfl, hb6⟩; have B6 := Lib.hid (keepBelow B5.out hb6); clear hb6 B5))
  go_ret
  exact ⟨rfl, B6.out⟩
theorem streams_walk (key s : ByteArray) (nn fr ct : Int) (hno : nn < 9223372036854775808) (w : World) (hT : Tabs w) : Calls Tryd.prog 9 #[.string key, .string s, .agg #[.int .i64 nn, .int .i64 fr, .int .i64 ct]] w fun e w' => e = .returned (.bool true) ∧ Below w.heap.size w w' := by
  by_cases hk : 200 < key.size
  · exact streams_k key s nn fr ct hk w hT
  by_cases hs : 300 < s.size
  · exact streams_s key s nn fr ct hk hs w hT
  by_cases hc : 300 < ct ∧ ct ≤ 1048576
  · exact streams_c key s nn fr ct hk hs hc.1 hc.2 w hT
  have hc3 : ct < 0 ∨ (0 ≤ ct ∧ ct ≤ 300) ∨ 1048576 < ct := by omega
  by_cases hf : 5000 < fr ∧ fr ≤ 1048576
  · rcases hc3 with h | h | h
    · exact streams_fn key s nn fr ct hk hs h hf.1 hf.2 w hT
    · exact streams_fm key s nn fr ct hk hs h hf.1 hf.2 w hT
    · exact streams_fb key s nn fr ct hk hs h hf.1 hf.2 w hT
  have hf3 : fr < 0 ∨ (0 ≤ fr ∧ fr ≤ 5000) ∨ 1048576 < fr := by omega
  by_cases hn : nn < 0
  · rcases hf3 with f | f | f <;> rcases hc3 with h | h | h
    · exact streams_nnn key s nn fr ct hk hs hn f h w hT
    · exact streams_nnm key s nn fr ct hk hs hn f h w hT
    · exact streams_nnb key s nn fr ct hk hs hn f h w hT
    · exact streams_nmn key s nn fr ct hk hs hn f h w hT
    · exact streams_nmm key s nn fr ct hk hs hn f h w hT
    · exact streams_nmb key s nn fr ct hk hs hn f h w hT
    · exact streams_nbn key s nn fr ct hk hs hn f h w hT
    · exact streams_nbm key s nn fr ct hk hs hn f h w hT
    · exact streams_nbb key s nn fr ct hk hs hn f h w hT
  · obtain ⟨m, rfl⟩ := Int.eq_ofNat_of_zero_le (show 0 ≤ nn by omega)
    rcases hf3 with f | f | f <;> rcases hc3 with h | h | h
    · exact streams_pnn key s m (by omega) fr ct hk hs f h w hT
    · exact streams_pnm key s m (by omega) fr ct hk hs f h w hT
    · exact streams_pnb key s m (by omega) fr ct hk hs f h w hT
    · exact streams_pmn key s m (by omega) fr ct hk hs f h w hT
    · obtain ⟨a, rfl⟩ := Int.eq_ofNat_of_zero_le f.1
      obtain ⟨c, rfl⟩ := Int.eq_ofNat_of_zero_le h.1
      exact streams_g key s m (by omega) a c hk hs (by omega) (by omega) w hT
    · exact streams_pmb key s m (by omega) fr ct hk hs f h w hT
    · exact streams_pbn key s m (by omega) fr ct hk hs f h w hT
    · exact streams_pbm key s m (by omega) fr ct hk hs f h w hT
    · exact streams_pbb key s m (by omega) fr ct hk hs f h w hT
end Go.Proofs.YtklikkmnemooeaaDoor
