/- DigestSigns: the law's walk. -/
import Derived.Test.YtklikkmnemooeaaDoorDF
import Derived.Test.YtklikkmnemooeaaDoorV2
namespace Go.Proofs.YtklikkmnemooeaaDoor
open Go.RowKit
theorem val_key' (x : Int) (h : sec x) : val (pw 4 x) := by
  have h1 := h.1
  have h2 := h.2
  obtain ⟨Q, hQ⟩ : ∃ Q : Nat, Q = 1152921504606845789 := ⟨_, rfl⟩
  have hk := NT.key_valid NT.prime_prime (show NT.IsPrime Q by rw [hQ]; exact NT.prime_order) (by omega) (by decide) (show 0 < x.toNat by omega) (show x.toNat < Q by omega)
  have e : pw 4 x = 4 ^ x.toNat % 2305843009213691579 := rfl
  rw [← e] at hk
  refine ⟨⟨by omega, by omega⟩, by omega, ?_⟩
  rw [show (1152921504606845789 : Int) = (Q : Int) by omega]
  exact hk.2.2
theorem vf_signed (x n : Int) (hx : sec x) (s : List UInt8) (E S : Nat) (hE : E = markOf (pw 4 n) s) (hS : S = (n.toNat + x.toNat * E % 1152921504606845789) % 1152921504606845789) : vf (pw 4 x) s E S := by
  have hEl : E < 1152921504606845789 := by rw [hE]; exact markOf_lt _ _
  have hSl : S < 1152921504606845789 := by rw [hS]; exact Nat.mod_lt _ (by decide)
  refine ⟨val_key' x hx, ⟨by omega, by omega⟩, ⟨by omega, by omega⟩, ?_⟩
  obtain ⟨Q, hQ⟩ : ∃ Q : Nat, Q = 1152921504606845789 := ⟨_, rfl⟩
  obtain ⟨P, hPv⟩ : ∃ P : Nat, P = 2305843009213691579 := ⟨_, rfl⟩
  have hs := NT.signed (P := P) (Q := Q) (by rw [hPv]; exact NT.prime_prime) (by omega) (by omega) x.toNat n.toNat E
  have e2 : P - 2 = P2 := by rw [hPv]; rfl
  have e : rOf (pw 4 x) E S = pw 4 n := by
    show (4 ^ S % 2305843009213691579) * (((4 ^ x.toNat % 2305843009213691579) ^ E % 2305843009213691579) ^ P2 % 2305843009213691579) % 2305843009213691579 = 4 ^ n.toNat % 2305843009213691579
    rw [← hPv, ← e2, hS, ← hQ]
    exact hs
  rw [e, ← hE]
def eqAgg : Prop := ∀ W, (binOp .eql 58 (.agg #[.int .i64 0, .int .i64 0]) (.agg #[.int .i64 0, .int .i64 0])).run Tryd.prog W = .ok (.bool true) W
theorem eqAgg_holds : eqAgg := fun _ => by kernel_rfl
set_option maxRecDepth 100000 in
set_option maxHeartbeats 1600000 in
theorem signs_a (a0 a1 a3 a4 a5 : Int) (s o : ByteArray) (hs : 300 < s.size) (w : World) (hT : Tabs w) : Calls Tryd.prog 10 #[.agg #[.int .i64 a0, .int .i64 a1, .string s, .int .i64 a3, .int .i64 a4, .int .i64 a5, .string o]] w fun e w' => e = .returned (.bool true) ∧ Below w.heap.size w w' := by
  have CA := Lib.hid (fun W (hb : Below w.heap.size w W) => awake_any W (hT.keep hb))
  have g1 : (300 : Int) < s.size := by omega
  clear hs hT
  go_enter Tryd.func10, Tryd.ntmps10
  go_wp2_with (go_at_call 11; refine (CA.out _ ?_).mono ?_; exact (Below.refl _ _).alloc (Nat.le_refl _) _; rintro e v1 ⟨rfl, hb1⟩; have KX1 := Lib.hid (keepBlk hb1 (Blk.new w 56 [.int .i64 a0, .int .i64 a1, .string s, .int .i64 a3, .int .i64 a4, .int .i64 a5, .string o])); have B1 := Lib.hid (keepBelow ((Below.refl _ _).alloc (Nat.le_refl _) _) hb1); have x0v1 : v1.cell? ⟨w.heap.size, 0, none⟩ = some (.int .i64 a0) := KX1.out.cell 0; have x1v1 : v1.cell? ⟨w.heap.size, 1, none⟩ = some (.int .i64 a1) := KX1.out.cell 1; have x2v1 : v1.cell? ⟨w.heap.size, 2, none⟩ = some (.string s) := KX1.out.cell 2; have x3v1 : v1.cell? ⟨w.heap.size, 3, none⟩ = some (.int .i64 a3) := KX1.out.cell 3; have x4v1 : v1.cell? ⟨w.heap.size, 4, none⟩ = some (.int .i64 a4) := KX1.out.cell 4; have x5v1 : v1.cell? ⟨w.heap.size, 5, none⟩ = some (.int .i64 a5) := KX1.out.cell 5; have x6v1 : v1.cell? ⟨w.heap.size, 6, none⟩ = some (.string o) := KX1.out.cell 6; clear hb1)
  go_ret
  exact ⟨rfl, B1.out⟩
set_option maxRecDepth 100000 in
set_option maxHeartbeats 1600000 in
theorem signs_b (a0 a1 a3 a4 a5 : Int) (s o : ByteArray) (hs : ¬ 300 < s.size) (ho : 300 < o.size) (w : World) (hT : Tabs w) : Calls Tryd.prog 10 #[.agg #[.int .i64 a0, .int .i64 a1, .string s, .int .i64 a3, .int .i64 a4, .int .i64 a5, .string o]] w fun e w' => e = .returned (.bool true) ∧ Below w.heap.size w w' := by
  have CA := Lib.hid (fun W (hb : Below w.heap.size w W) => awake_any W (hT.keep hb))
  have g1 : ¬ (300 : Int) < s.size := by omega
  have g2 : (300 : Int) < o.size := by omega
  clear hs ho hT
  go_enter Tryd.func10, Tryd.ntmps10
  go_wp2_with (go_at_call 11; refine (CA.out _ ?_).mono ?_; exact (Below.refl _ _).alloc (Nat.le_refl _) _; rintro e v1 ⟨rfl, hb1⟩; have KX1 := Lib.hid (keepBlk hb1 (Blk.new w 56 [.int .i64 a0, .int .i64 a1, .string s, .int .i64 a3, .int .i64 a4, .int .i64 a5, .string o])); have B1 := Lib.hid (keepBelow ((Below.refl _ _).alloc (Nat.le_refl _) _) hb1); have x0v1 : v1.cell? ⟨w.heap.size, 0, none⟩ = some (.int .i64 a0) := KX1.out.cell 0; have x1v1 : v1.cell? ⟨w.heap.size, 1, none⟩ = some (.int .i64 a1) := KX1.out.cell 1; have x2v1 : v1.cell? ⟨w.heap.size, 2, none⟩ = some (.string s) := KX1.out.cell 2; have x3v1 : v1.cell? ⟨w.heap.size, 3, none⟩ = some (.int .i64 a3) := KX1.out.cell 3; have x4v1 : v1.cell? ⟨w.heap.size, 4, none⟩ = some (.int .i64 a4) := KX1.out.cell 4; have x5v1 : v1.cell? ⟨w.heap.size, 5, none⟩ = some (.int .i64 a5) := KX1.out.cell 5; have x6v1 : v1.cell? ⟨w.heap.size, 6, none⟩ = some (.string o) := KX1.out.cell 6; clear hb1)
  go_ret
  exact ⟨rfl, B1.out⟩
set_option maxRecDepth 100000 in
set_option maxHeartbeats 1600000 in
theorem signs_c (a0 a1 a3 a4 a5 : Int) (s o : ByteArray) (hs : ¬ 300 < s.size) (ho : ¬ 300 < o.size) (hx : ¬ sec a0) (w : World) (hT : Tabs w) : Calls Tryd.prog 10 #[.agg #[.int .i64 a0, .int .i64 a1, .string s, .int .i64 a3, .int .i64 a4, .int .i64 a5, .string o]] w fun e w' => e = .returned (.bool true) ∧ Below w.heap.size w w' := by
  have CA := Lib.hid (fun W (hb : Below w.heap.size w W) => awake_any W (hT.keep hb))
  have g1 : ¬ (300 : Int) < s.size := by omega
  have g2 : ¬ (300 : Int) < o.size := by omega
  have CS := Lib.hid (fun W => Sign_no a0 a1 (by first | exact fun h => hx h.1 | exact fun h => hn h.2) s W)
  have CX := Lib.hid (fun W => rsecret_any a0 W)
  rw [decide_eq_false hx] at CX
  clear hx
  have hq := eqAgg_holds
  unfold eqAgg at hq
  clear hs ho hT
  go_enter Tryd.func10, Tryd.ntmps10
  go_wp2_with (first
    | (go_at_call 11; refine (CA.out _ ?_).mono ?_; exact (Below.refl _ _).alloc (Nat.le_refl _) _; rintro e v1 ⟨rfl, hb1⟩; have KX1 := Lib.hid (keepBlk hb1 (Blk.new w 56 [.int .i64 a0, .int .i64 a1, .string s, .int .i64 a3, .int .i64 a4, .int .i64 a5, .string o])); have B1 := Lib.hid (keepBelow ((Below.refl _ _).alloc (Nat.le_refl _) _) hb1); have x0v1 : v1.cell? ⟨w.heap.size, 0, none⟩ = some (.int .i64 a0) := KX1.out.cell 0; have x1v1 : v1.cell? ⟨w.heap.size, 1, none⟩ = some (.int .i64 a1) := KX1.out.cell 1; have x2v1 : v1.cell? ⟨w.heap.size, 2, none⟩ = some (.string s) := KX1.out.cell 2; have x3v1 : v1.cell? ⟨w.heap.size, 3, none⟩ = some (.int .i64 a3) := KX1.out.cell 3; have x4v1 : v1.cell? ⟨w.heap.size, 4, none⟩ = some (.int .i64 a4) := KX1.out.cell 4; have x5v1 : v1.cell? ⟨w.heap.size, 5, none⟩ = some (.int .i64 a5) := KX1.out.cell 5; have x6v1 : v1.cell? ⟨w.heap.size, 6, none⟩ = some (.string o) := KX1.out.cell 6; clear hb1)
    | (go_at_call 41; refine (CS.out _).mono ?_; rintro e v2 ⟨rfl, hb2⟩; have KX2 := Lib.hid (keepBlk hb2 KX1.out); have B2 := Lib.hid (keepBelow B1.out hb2); have hl2 : w.heap.size < v2.heap.size := KX2.out.lt; have x0v2 : v2.cell? ⟨w.heap.size, 0, none⟩ = some (.int .i64 a0) := KX2.out.cell 0; have x1v2 : v2.cell? ⟨w.heap.size, 1, none⟩ = some (.int .i64 a1) := KX2.out.cell 1; clear hb2)
    | (go_at_call 26; refine (CX.out _).mono ?_; rintro e v3 ⟨rfl, rfl⟩))
  go_ret
  exact ⟨rfl, (B2.out).alloc B2.out.size _⟩
set_option maxRecDepth 100000 in
set_option maxHeartbeats 1600000 in
theorem signs_d (a0 a1 a3 a4 a5 : Int) (s o : ByteArray) (hs : ¬ 300 < s.size) (ho : ¬ 300 < o.size) (hx : sec a0) (hn : ¬ sec a1) (w : World) (hT : Tabs w) : Calls Tryd.prog 10 #[.agg #[.int .i64 a0, .int .i64 a1, .string s, .int .i64 a3, .int .i64 a4, .int .i64 a5, .string o]] w fun e w' => e = .returned (.bool true) ∧ Below w.heap.size w w' := by
  have CA := Lib.hid (fun W (hb : Below w.heap.size w W) => awake_any W (hT.keep hb))
  have g1 : ¬ (300 : Int) < s.size := by omega
  have g2 : ¬ (300 : Int) < o.size := by omega
  have CS := Lib.hid (fun W => Sign_no a0 a1 (by first | exact fun h => hx h.1 | exact fun h => hn h.2) s W)
  have CX := Lib.hid (fun W => rsecret_any a0 W)
  rw [decide_eq_true hx] at CX
  have CN := Lib.hid (fun W => rsecret_any a1 W)
  rw [decide_eq_false hn] at CN
  clear hx hn
  have hq := eqAgg_holds
  unfold eqAgg at hq
  clear hs ho hT
  go_enter Tryd.func10, Tryd.ntmps10
  go_wp2_with (first
    | (go_at_call 11; refine (CA.out _ ?_).mono ?_; exact (Below.refl _ _).alloc (Nat.le_refl _) _; rintro e v1 ⟨rfl, hb1⟩; have KX1 := Lib.hid (keepBlk hb1 (Blk.new w 56 [.int .i64 a0, .int .i64 a1, .string s, .int .i64 a3, .int .i64 a4, .int .i64 a5, .string o])); have B1 := Lib.hid (keepBelow ((Below.refl _ _).alloc (Nat.le_refl _) _) hb1); have x0v1 : v1.cell? ⟨w.heap.size, 0, none⟩ = some (.int .i64 a0) := KX1.out.cell 0; have x1v1 : v1.cell? ⟨w.heap.size, 1, none⟩ = some (.int .i64 a1) := KX1.out.cell 1; have x2v1 : v1.cell? ⟨w.heap.size, 2, none⟩ = some (.string s) := KX1.out.cell 2; have x3v1 : v1.cell? ⟨w.heap.size, 3, none⟩ = some (.int .i64 a3) := KX1.out.cell 3; have x4v1 : v1.cell? ⟨w.heap.size, 4, none⟩ = some (.int .i64 a4) := KX1.out.cell 4; have x5v1 : v1.cell? ⟨w.heap.size, 5, none⟩ = some (.int .i64 a5) := KX1.out.cell 5; have x6v1 : v1.cell? ⟨w.heap.size, 6, none⟩ = some (.string o) := KX1.out.cell 6; clear hb1)
    | (go_at_call 41; refine (CS.out _).mono ?_; rintro e v2 ⟨rfl, hb2⟩; have KX2 := Lib.hid (keepBlk hb2 KX1.out); have B2 := Lib.hid (keepBelow B1.out hb2); have hl2 : w.heap.size < v2.heap.size := KX2.out.lt; have x0v2 : v2.cell? ⟨w.heap.size, 0, none⟩ = some (.int .i64 a0) := KX2.out.cell 0; have x1v2 : v2.cell? ⟨w.heap.size, 1, none⟩ = some (.int .i64 a1) := KX2.out.cell 1; clear hb2)
    | (go_at_call 26; have tok := T1; clear tok; refine (CN.out _).mono ?_; rintro e v4 ⟨rfl, rfl⟩)
    | (go_at_call 26; refine (CX.out _).mono ?_; rintro e v3 ⟨rfl, rfl⟩; have T1 := Lib.hid trivial))
  go_ret
  exact ⟨rfl, (B2.out).alloc B2.out.size _⟩
set_option maxRecDepth 100000 in
set_option maxHeartbeats 1600000 in
theorem signs_m (a0 a1 a3 a4 a5 : Int) (s o : ByteArray) (hs : ¬ 300 < s.size) (ho : ¬ 300 < o.size) (hx : sec a0) (hn : sec a1) (w : World) (hT : Tabs w) : Calls Tryd.prog 10 #[.agg #[.int .i64 a0, .int .i64 a1, .string s, .int .i64 a3, .int .i64 a4, .int .i64 a5, .string o]] w fun e w' => e = .returned (.bool true) ∧ Below w.heap.size w w' := by
  have CA := Lib.hid (fun W (hb : Below w.heap.size w W) => awake_any W (hT.keep hb))
  have g1 : ¬ (300 : Int) < s.size := by omega
  have g2 : ¬ (300 : Int) < o.size := by omega
  obtain ⟨E, hE⟩ : ∃ E, E = markOf (pw 4 a1) s.data.toList := ⟨_, rfl⟩
  obtain ⟨S, hS⟩ : ∃ S, S = (a1.toNat + a0.toNat * E % 1152921504606845789) % 1152921504606845789 := ⟨_, rfl⟩
  have hv := vf_signed a0 a1 hx s.data.toList E S hE hS
  have hT2 := Lib.hid hT
  have CS := Lib.hid (fun W (hb : Below w.heap.size w W) => Sign_yes a0 a1 hx hn s (by omega) W (hT.keep hb) E S hE hS)
  have CRS := Lib.hid (fun W (_ : Below w.heap.size w W) => rSign_any a0 a1 hx hn s (by omega) W E S hE hS)
  obtain ⟨A, hA⟩ : ∃ A, A = pw 4 a0 := ⟨_, rfl⟩
  rw [← hA] at hv
  have CK := Lib.hid (fun W (_ : Below w.heap.size w W) => (Key_any a0 W).mono (fun e w' h => by rw [if_pos hx, ← hA] at h; exact h))
  have CX := Lib.hid (fun W => rsecret_any a0 W)
  have CN := Lib.hid (fun W => rsecret_any a1 W)
  rw [decide_eq_true hx] at CX
  rw [decide_eq_true hn] at CN
  have CV0 := Lib.hid (fun W (hb : Below w.heap.size w W) => Verify_any A E S s (by omega) W (hT.keep hb))
  rw [decide_eq_true hv] at CV0
  obtain ⟨b1, hb1⟩ : ∃ b, b = decide (vf A o.data.toList E S) := ⟨_, rfl⟩
  obtain ⟨b2, hb2⟩ : ∃ b, b = decide (vf a3 s.data.toList E S) := ⟨_, rfl⟩
  obtain ⟨X1, hX1⟩ : ∃ X, X = bits .xor .i64 (E : Int) a4 := ⟨_, rfl⟩
  obtain ⟨X2, hX2⟩ : ∃ X, X = bits .xor .i64 (S : Int) a5 := ⟨_, rfl⟩
  obtain ⟨b3, hb3⟩ : ∃ b, b = decide (vf A s.data.toList X1 X2) := ⟨_, rfl⟩
  have CV1 := Lib.hid (fun W (hb : Below w.heap.size w W) => Verify_any A E S o (by omega) W (hT.keep hb))
  have CR1 := Lib.hid (fun W (_ : Below w.heap.size w W) => rVerify_any A E S o (by omega) W)
  have CV2 := Lib.hid (fun W (hb : Below w.heap.size w W) => Verify_any a3 E S s (by omega) W (hT.keep hb))
  have CR2 := Lib.hid (fun W (_ : Below w.heap.size w W) => rVerify_any a3 E S s (by omega) W)
  have CV3 := Lib.hid (fun W (hb : Below w.heap.size w W) => Verify_any A X1 X2 s (by omega) W (hT.keep hb))
  have CR3 := Lib.hid (fun W (_ : Below w.heap.size w W) => rVerify_any A X1 X2 s (by omega) W)
  rw [← hb1] at CV1 CR1
  rw [← hb2] at CV2 CR2
  rw [← hb3] at CV3 CR3
  have x1 := hX1.symm
  have x2 := hX2.symm
  clear hb1 hb2 hb3 hX1 hX2 hv hx hn hs ho hT hE hS hA
  generalize (E : Int) = e0 at *
  generalize (S : Int) = s0 at *
  generalize (A : Int) = k0 at *
  go_enter Tryd.func10, Tryd.ntmps10
  go_upto_region 8 with (first
    | (go_at_call 11; refine (CA.out _ ?_).mono ?_; exact (Below.refl _ _).alloc (Nat.le_refl _) _; rintro e v1 ⟨rfl, hb1⟩; have KX1 := Lib.hid (keepBlk hb1 (Blk.new w 56 [.int .i64 a0, .int .i64 a1, .string s, .int .i64 a3, .int .i64 a4, .int .i64 a5, .string o])); have B1 := Lib.hid (keepBelow ((Below.refl _ _).alloc (Nat.le_refl _) _) hb1); have x0v1 : v1.cell? ⟨w.heap.size, 0, none⟩ = some (.int .i64 a0) := KX1.out.cell 0; have x1v1 : v1.cell? ⟨w.heap.size, 1, none⟩ = some (.int .i64 a1) := KX1.out.cell 1; have x2v1 : v1.cell? ⟨w.heap.size, 2, none⟩ = some (.string s) := KX1.out.cell 2; have x3v1 : v1.cell? ⟨w.heap.size, 3, none⟩ = some (.int .i64 a3) := KX1.out.cell 3; have x4v1 : v1.cell? ⟨w.heap.size, 4, none⟩ = some (.int .i64 a4) := KX1.out.cell 4; have x5v1 : v1.cell? ⟨w.heap.size, 5, none⟩ = some (.int .i64 a5) := KX1.out.cell 5; have x6v1 : v1.cell? ⟨w.heap.size, 6, none⟩ = some (.string o) := KX1.out.cell 6; clear hb1)
    | (go_at_call 41; have tok := B1; clear tok; refine (CS.out _ ?_).mono ?_; exact B1.out; rintro e v2 ⟨rfl, hb2⟩; have KX2 := Lib.hid (keepBlk hb2 KX1.out); have B2 := Lib.hid (keepBelow B1.out hb2); have hl2 : w.heap.size < v2.heap.size := KX2.out.lt; have x0v2 : v2.cell? ⟨w.heap.size, 0, none⟩ = some (.int .i64 a0) := KX2.out.cell 0; have x1v2 : v2.cell? ⟨w.heap.size, 1, none⟩ = some (.int .i64 a1) := KX2.out.cell 1; have x2v2 : v2.cell? ⟨w.heap.size, 2, none⟩ = some (.string s) := KX2.out.cell 2; clear hb2 B1)
    | (go_at_call 26; have tok := T1; clear tok; refine (CN.out _).mono ?_; rintro e v4 ⟨rfl, rfl⟩)
    | (go_at_call 26; refine (CX.out _).mono ?_; rintro e v3 ⟨rfl, rfl⟩; have T1 := Lib.hid trivial))
  obtain ⟨V, hV⟩ : ∃ V, V = v2.alloc (.cells #[.int .i64 e0, .int .i64 s0] 58) := ⟨_, rfl⟩
  obtain ⟨gb, hgb⟩ : ∃ gb, gb = v2.heap.size := ⟨_, rfl⟩
  have KXV : Hid (Blk V w.heap.size 56 [.int .i64 a0, .int .i64 a1, .string s, .int .i64 a3, .int .i64 a4, .int .i64 a5, .string o]) := by rw [hV]; exact Lib.hid (KX2.out.alloc _)
  have KGV : Hid (Blk V gb 58 [.int .i64 e0, .int .i64 s0]) := by rw [hV, hgb]; exact Lib.hid (Blk.new v2 58 [_, _])
  have B9 : Hid (Below w.heap.size w V) := by rw [hV]; exact Lib.hid (B2.out.alloc B2.out.size _)
  rw [← hV, ← hgb]
  have x0V : V.cell? ⟨w.heap.size, 0, none⟩ = some (.int .i64 a0) := KXV.out.cell 0; have x1V : V.cell? ⟨w.heap.size, 1, none⟩ = some (.int .i64 a1) := KXV.out.cell 1; have x2V : V.cell? ⟨w.heap.size, 2, none⟩ = some (.string s) := KXV.out.cell 2; have x3V : V.cell? ⟨w.heap.size, 3, none⟩ = some (.int .i64 a3) := KXV.out.cell 3; have x4V : V.cell? ⟨w.heap.size, 4, none⟩ = some (.int .i64 a4) := KXV.out.cell 4; have x5V : V.cell? ⟨w.heap.size, 5, none⟩ = some (.int .i64 a5) := KXV.out.cell 5; have x6V : V.cell? ⟨w.heap.size, 6, none⟩ = some (.string o) := KXV.out.cell 6; have y0V : V.cell? ⟨gb, 0, none⟩ = some (.int .i64 e0) := KGV.out.cell 0; have y1V : V.cell? ⟨gb, 1, none⟩ = some (.int .i64 s0) := KGV.out.cell 1
  clear hV hgb x0v1 x1v1 x2v1 x3v1 x4v1 x5v1 x6v1 x0v2 x1v2 x2v2 hl2 KX1 KX2 B2
  go_upto_region 12 with (first
    | (go_at_call 42; have tok := B9; clear tok; refine (CRS.out _ ?_).mono ?_; exact B9.out; rintro e u1 ⟨rfl, hb10⟩; have KXu1 := Lib.hid (keepBlk hb10 KXV.out); have KGu1 := Lib.hid (keepBlk hb10 KGV.out); have B10 := Lib.hid (keepBelow B9.out hb10); have x0u1 : u1.cell? ⟨w.heap.size, 0, none⟩ = some (.int .i64 a0) := KXu1.out.cell 0; have x1u1 : u1.cell? ⟨w.heap.size, 1, none⟩ = some (.int .i64 a1) := KXu1.out.cell 1; have x2u1 : u1.cell? ⟨w.heap.size, 2, none⟩ = some (.string s) := KXu1.out.cell 2; have x3u1 : u1.cell? ⟨w.heap.size, 3, none⟩ = some (.int .i64 a3) := KXu1.out.cell 3; have x4u1 : u1.cell? ⟨w.heap.size, 4, none⟩ = some (.int .i64 a4) := KXu1.out.cell 4; have x5u1 : u1.cell? ⟨w.heap.size, 5, none⟩ = some (.int .i64 a5) := KXu1.out.cell 5; have x6u1 : u1.cell? ⟨w.heap.size, 6, none⟩ = some (.string o) := KXu1.out.cell 6; have y0u1 : u1.cell? ⟨gb, 0, none⟩ = some (.int .i64 e0) := KGu1.out.cell 0; have y1u1 : u1.cell? ⟨gb, 1, none⟩ = some (.int .i64 s0) := KGu1.out.cell 1; clear hb10 B9)
    | (go_at_call 24; have tok := B10; clear tok; refine (CK.out _ ?_).mono ?_; exact B10.out; rintro e u2 ⟨rfl, hb11⟩; have KXu2 := Lib.hid (keepBlk hb11 KXu1.out); have KGu2 := Lib.hid (keepBlk hb11 KGu1.out); have B11 := Lib.hid (keepBelow B10.out hb11); have x0u2 : u2.cell? ⟨w.heap.size, 0, none⟩ = some (.int .i64 a0) := KXu2.out.cell 0; have x1u2 : u2.cell? ⟨w.heap.size, 1, none⟩ = some (.int .i64 a1) := KXu2.out.cell 1; have x2u2 : u2.cell? ⟨w.heap.size, 2, none⟩ = some (.string s) := KXu2.out.cell 2; have x3u2 : u2.cell? ⟨w.heap.size, 3, none⟩ = some (.int .i64 a3) := KXu2.out.cell 3; have x4u2 : u2.cell? ⟨w.heap.size, 4, none⟩ = some (.int .i64 a4) := KXu2.out.cell 4; have x5u2 : u2.cell? ⟨w.heap.size, 5, none⟩ = some (.int .i64 a5) := KXu2.out.cell 5; have x6u2 : u2.cell? ⟨w.heap.size, 6, none⟩ = some (.string o) := KXu2.out.cell 6; have y0u2 : u2.cell? ⟨gb, 0, none⟩ = some (.int .i64 e0) := KGu2.out.cell 0; have y1u2 : u2.cell? ⟨gb, 1, none⟩ = some (.int .i64 s0) := KGu2.out.cell 1; clear hb11 B10)
    | (go_at_call 43; have tok := B11; clear tok; refine (CV0.out _ ?_).mono ?_; exact B11.out; rintro e u3 ⟨rfl, hb12⟩; have KXu3 := Lib.hid (keepBlk hb12 KXu2.out); have KGu3 := Lib.hid (keepBlk hb12 KGu2.out); have B12 := Lib.hid (keepBelow B11.out hb12); have x0u3 : u3.cell? ⟨w.heap.size, 0, none⟩ = some (.int .i64 a0) := KXu3.out.cell 0; have x1u3 : u3.cell? ⟨w.heap.size, 1, none⟩ = some (.int .i64 a1) := KXu3.out.cell 1; have x2u3 : u3.cell? ⟨w.heap.size, 2, none⟩ = some (.string s) := KXu3.out.cell 2; have x3u3 : u3.cell? ⟨w.heap.size, 3, none⟩ = some (.int .i64 a3) := KXu3.out.cell 3; have x4u3 : u3.cell? ⟨w.heap.size, 4, none⟩ = some (.int .i64 a4) := KXu3.out.cell 4; have x5u3 : u3.cell? ⟨w.heap.size, 5, none⟩ = some (.int .i64 a5) := KXu3.out.cell 5; have x6u3 : u3.cell? ⟨w.heap.size, 6, none⟩ = some (.string o) := KXu3.out.cell 6; have y0u3 : u3.cell? ⟨gb, 0, none⟩ = some (.int .i64 e0) := KGu3.out.cell 0; have y1u3 : u3.cell? ⟨gb, 1, none⟩ = some (.int .i64 s0) := KGu3.out.cell 1; clear hb12 B11))
  clear x0V x1V x2V x3V x4V x5V x6V x0u1 x1u1 x2u1 x3u1 x4u1 x5u1 x6u1 x0u2 x1u2 x2u2 x3u2 x4u2 x5u2 x6u2 y0V y1V y0u1 y1u1 y0u2 y1u2
  go_region_held3 (fun W => W.cell? ⟨w.heap.size, 2, none⟩ = some (.string s) ∧ W.cell? ⟨w.heap.size, 3, none⟩ = some (.int .i64 a3) ∧ W.cell? ⟨w.heap.size, 6, none⟩ = some (.string o) ∧ W.cell? ⟨gb, 0, none⟩ = some (.int .i64 e0) ∧ W.cell? ⟨gb, 1, none⟩ = some (.int .i64 s0)) (first | go_keep | exact ⟨x2t1, x3t1, x6t1, y0t1, y1t1⟩ | exact ⟨x2t2, x3t2, x6t2, y0t2, y1t2⟩ | exact ⟨x2t3, x3t3, x6t3, y0t3, y1t3⟩ | exact ⟨x2t4, x3t4, x6t4, y0t4, y1t4⟩) (first
    | (go_at_call 44; have tok := B15; clear tok; refine (CR2.out _ ?_).mono ?_; exact B15.out; rintro e t4 ⟨rfl, hb16⟩; have KXt4 := Lib.hid (keepBlk hb16 KXt3.out); have KGt4 := Lib.hid (keepBlk hb16 KGt3.out); have B16 := Lib.hid (keepBelow B15.out hb16); have x0t4 : t4.cell? ⟨w.heap.size, 0, none⟩ = some (.int .i64 a0) := KXt4.out.cell 0; have x1t4 : t4.cell? ⟨w.heap.size, 1, none⟩ = some (.int .i64 a1) := KXt4.out.cell 1; have x2t4 : t4.cell? ⟨w.heap.size, 2, none⟩ = some (.string s) := KXt4.out.cell 2; have x3t4 : t4.cell? ⟨w.heap.size, 3, none⟩ = some (.int .i64 a3) := KXt4.out.cell 3; have x4t4 : t4.cell? ⟨w.heap.size, 4, none⟩ = some (.int .i64 a4) := KXt4.out.cell 4; have x5t4 : t4.cell? ⟨w.heap.size, 5, none⟩ = some (.int .i64 a5) := KXt4.out.cell 5; have x6t4 : t4.cell? ⟨w.heap.size, 6, none⟩ = some (.string o) := KXt4.out.cell 6; have y0t4 : t4.cell? ⟨gb, 0, none⟩ = some (.int .i64 e0) := KGt4.out.cell 0; have y1t4 : t4.cell? ⟨gb, 1, none⟩ = some (.int .i64 s0) := KGt4.out.cell 1; clear hb16 B15)
    | (go_at_call 43; have tok := B14; clear tok; refine (CV2.out _ ?_).mono ?_; exact B14.out; rintro e t3 ⟨rfl, hb15⟩; have KXt3 := Lib.hid (keepBlk hb15 KXt2.out); have KGt3 := Lib.hid (keepBlk hb15 KGt2.out); have B15 := Lib.hid (keepBelow B14.out hb15); have x0t3 : t3.cell? ⟨w.heap.size, 0, none⟩ = some (.int .i64 a0) := KXt3.out.cell 0; have x1t3 : t3.cell? ⟨w.heap.size, 1, none⟩ = some (.int .i64 a1) := KXt3.out.cell 1; have x2t3 : t3.cell? ⟨w.heap.size, 2, none⟩ = some (.string s) := KXt3.out.cell 2; have x3t3 : t3.cell? ⟨w.heap.size, 3, none⟩ = some (.int .i64 a3) := KXt3.out.cell 3; have x4t3 : t3.cell? ⟨w.heap.size, 4, none⟩ = some (.int .i64 a4) := KXt3.out.cell 4; have x5t3 : t3.cell? ⟨w.heap.size, 5, none⟩ = some (.int .i64 a5) := KXt3.out.cell 5; have x6t3 : t3.cell? ⟨w.heap.size, 6, none⟩ = some (.string o) := KXt3.out.cell 6; have y0t3 : t3.cell? ⟨gb, 0, none⟩ = some (.int .i64 e0) := KGt3.out.cell 0; have y1t3 : t3.cell? ⟨gb, 1, none⟩ = some (.int .i64 s0) := KGt3.out.cell 1; clear hb15 B14)
    | (go_at_call 44; have tok := B13; clear tok; refine (CR1.out _ ?_).mono ?_; exact B13.out; rintro e t2 ⟨rfl, hb14⟩; have KXt2 := Lib.hid (keepBlk hb14 KXt1.out); have KGt2 := Lib.hid (keepBlk hb14 KGt1.out); have B14 := Lib.hid (keepBelow B13.out hb14); have x0t2 : t2.cell? ⟨w.heap.size, 0, none⟩ = some (.int .i64 a0) := KXt2.out.cell 0; have x1t2 : t2.cell? ⟨w.heap.size, 1, none⟩ = some (.int .i64 a1) := KXt2.out.cell 1; have x2t2 : t2.cell? ⟨w.heap.size, 2, none⟩ = some (.string s) := KXt2.out.cell 2; have x3t2 : t2.cell? ⟨w.heap.size, 3, none⟩ = some (.int .i64 a3) := KXt2.out.cell 3; have x4t2 : t2.cell? ⟨w.heap.size, 4, none⟩ = some (.int .i64 a4) := KXt2.out.cell 4; have x5t2 : t2.cell? ⟨w.heap.size, 5, none⟩ = some (.int .i64 a5) := KXt2.out.cell 5; have x6t2 : t2.cell? ⟨w.heap.size, 6, none⟩ = some (.string o) := KXt2.out.cell 6; have y0t2 : t2.cell? ⟨gb, 0, none⟩ = some (.int .i64 e0) := KGt2.out.cell 0; have y1t2 : t2.cell? ⟨gb, 1, none⟩ = some (.int .i64 s0) := KGt2.out.cell 1; clear hb14 B13)
    | (go_at_call 43; have tok := B12; clear tok; refine (CV1.out _ ?_).mono ?_; exact B12.out.drew; rintro e t1 ⟨rfl, hb13⟩; have KXt1 := Lib.hid (keepBlk hb13 (blk_drew KXu3.out)); have KGt1 := Lib.hid (keepBlk hb13 (blk_drew KGu3.out)); have B13 := Lib.hid (keepBelow B12.out.drew hb13); have x0t1 : t1.cell? ⟨w.heap.size, 0, none⟩ = some (.int .i64 a0) := KXt1.out.cell 0; have x1t1 : t1.cell? ⟨w.heap.size, 1, none⟩ = some (.int .i64 a1) := KXt1.out.cell 1; have x2t1 : t1.cell? ⟨w.heap.size, 2, none⟩ = some (.string s) := KXt1.out.cell 2; have x3t1 : t1.cell? ⟨w.heap.size, 3, none⟩ = some (.int .i64 a3) := KXt1.out.cell 3; have x4t1 : t1.cell? ⟨w.heap.size, 4, none⟩ = some (.int .i64 a4) := KXt1.out.cell 4; have x5t1 : t1.cell? ⟨w.heap.size, 5, none⟩ = some (.int .i64 a5) := KXt1.out.cell 5; have x6t1 : t1.cell? ⟨w.heap.size, 6, none⟩ = some (.string o) := KXt1.out.cell 6; have y0t1 : t1.cell? ⟨gb, 0, none⟩ = some (.int .i64 e0) := KGt1.out.cell 0; have y1t1 : t1.cell? ⟨gb, 1, none⟩ = some (.int .i64 s0) := KGt1.out.cell 1; clear hb13 B12))
  go_upto_region 15 with fail
  obtain ⟨V2, hV⟩ : ∃ V, V = t4.alloc (.cells #[.int .i64 X1, .int .i64 X2] 58) := ⟨_, rfl⟩
  obtain ⟨gh, hgh⟩ : ∃ gh, gh = t4.heap.size := ⟨_, rfl⟩
  have KXV2 : Hid (Blk V2 w.heap.size 56 [.int .i64 a0, .int .i64 a1, .string s, .int .i64 a3, .int .i64 a4, .int .i64 a5, .string o]) := by rw [hV]; exact Lib.hid (KXt4.out.alloc _)
  have KGV2 : Hid (Blk V2 gh 58 [.int .i64 X1, .int .i64 X2]) := by rw [hV, hgh]; exact Lib.hid (Blk.new t4 58 [_, _])
  have B17 : Hid (Below w.heap.size w V2) := by rw [hV]; exact Lib.hid (B16.out.alloc B16.out.size _)
  rw [← hV, ← hgh]
  clear hV hgh x0u3 x1u3 x2u3 x3u3 x4u3 x5u3 x6u3 x0t1 x1t1 x2t1 x3t1 x4t1 x5t1 x6t1 x0t2 x1t2 x2t2 x3t2 x4t2 x5t2 x6t2 x0t3 x1t3 x2t3 x3t3 x4t3 x5t3 x6t3 x0t4 x1t4 x2t4 x3t4 x4t4 x5t4 x6t4 y0u3 y1u3 y0t1 y1t1 y0t2 y1t2 y0t3 y1t3 y0t4 y1t4
  have x2V2 : V2.cell? ⟨w.heap.size, 2, none⟩ = some (.string s) := KXV2.out.cell 2; have y0V2 : V2.cell? ⟨gh, 0, none⟩ = some (.int .i64 X1) := KGV2.out.cell 0; have y1V2 : V2.cell? ⟨gh, 1, none⟩ = some (.int .i64 X2) := KGV2.out.cell 1
  go_region_held3 (fun W => W.cell? ⟨w.heap.size, 2, none⟩ = some (.string s) ∧ W.cell? ⟨gh, 0, none⟩ = some (.int .i64 X1) ∧ W.cell? ⟨gh, 1, none⟩ = some (.int .i64 X2)) (first | go_keep | exact ⟨x2r1, y0r1, y1r1⟩ | exact ⟨x2r2, y0r2, y1r2⟩) (first
    | (go_at_call 44; have tok := B18; clear tok; refine (CR3.out _ ?_).mono ?_; exact B18.out; rintro e r2 ⟨rfl, hb19⟩; have KXr2 := Lib.hid (keepBlk hb19 KXr1.out); have KGr2 := Lib.hid (keepBlk hb19 KGr1.out); have B19 := Lib.hid (keepBelow B18.out hb19); have x2r2 : r2.cell? ⟨w.heap.size, 2, none⟩ = some (.string s) := KXr2.out.cell 2; have y0r2 : r2.cell? ⟨gh, 0, none⟩ = some (.int .i64 X1) := KGr2.out.cell 0; have y1r2 : r2.cell? ⟨gh, 1, none⟩ = some (.int .i64 X2) := KGr2.out.cell 1; clear hb19 B18)
    | (go_at_call 43; have tok := B17; clear tok; refine (CV3.out _ ?_).mono ?_; exact B17.out.drew; rintro e r1 ⟨rfl, hb18⟩; have KXr1 := Lib.hid (keepBlk hb18 (blk_drew KXV2.out)); have KGr1 := Lib.hid (keepBlk hb18 (blk_drew KGV2.out)); have B18 := Lib.hid (keepBelow B17.out.drew hb18); have x2r1 : r1.cell? ⟨w.heap.size, 2, none⟩ = some (.string s) := KXr1.out.cell 2; have y0r1 : r1.cell? ⟨gh, 0, none⟩ = some (.int .i64 X1) := KGr1.out.cell 0; have y1r1 : r1.cell? ⟨gh, 1, none⟩ = some (.int .i64 X2) := KGr1.out.cell 1; clear hb18 B17))
  all_goals go_wp2_with fail
  all_goals go_ret
  all_goals exact ⟨rfl, B19.out⟩
theorem signs_walk (a0 a1 a3 a4 a5 : Int) (s o : ByteArray) (w : World) (hT : Tabs w) : Calls Tryd.prog 10 #[.agg #[.int .i64 a0, .int .i64 a1, .string s, .int .i64 a3, .int .i64 a4, .int .i64 a5, .string o]] w fun e w' => e = .returned (.bool true) ∧ Below w.heap.size w w' := by
  by_cases hs : 300 < s.size
  · exact signs_a a0 a1 a3 a4 a5 s o hs w hT
  · by_cases ho : 300 < o.size
    · exact signs_b a0 a1 a3 a4 a5 s o hs ho w hT
    · by_cases hx : sec a0
      · by_cases hn : sec a1
        · exact signs_m a0 a1 a3 a4 a5 s o hs ho hx hn w hT
        · exact signs_d a0 a1 a3 a4 a5 s o hs ho hx hn w hT
      · exact signs_c a0 a1 a3 a4 a5 s o hs ho hx w hT
end Go.Proofs.YtklikkmnemooeaaDoor
