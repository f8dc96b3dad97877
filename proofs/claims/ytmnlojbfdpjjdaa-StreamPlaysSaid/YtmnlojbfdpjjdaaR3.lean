/- The reference: ahead, Check, Waits. -/
import Derived.Test.YtmnlojbfdpjjdaaR2
namespace Go.Proofs.Ytmnlojbfdpjjdaa
open Go.RowKit
variable {F : Nat → Prop}
theorem rwsC_get (l : List Wt) : ∀ (m : Nat), m < l.length → ∀ i, i < 5 → (rwsC l)[m * 5 + i]? = (rwC (l.getD m wt0))[i]? := by
  induction l with
  | nil => intro m hm; simp at hm
  | cons a l ih =>
    intro m hm i hi
    cases m with
    | zero =>
      rw [rwsC, List.flatMap_cons, Nat.zero_mul, Nat.zero_add, List.getElem?_append_left (by simp [rwC]; omega)]
      rfl
    | succ m =>
      simp only [List.length_cons, Nat.add_lt_add_iff_right] at hm
      rw [rwsC, List.flatMap_cons, List.getElem?_append_right (by simp [rwC]; omega)]
      rw [show (m + 1) * 5 + i - (rwC a).length = m * 5 + i by simp [rwC]; omega]
      exact ih m hm i hi
/-- the cells of the m-th that waits -/
theorem rw_cells {w : World} {gb off m : Nat} {l : List Wt} (h : ∀ j, j < l.length * 5 → w.cell? ⟨gb, off + j, none⟩ = (rwsC l)[j]?) (hm : m < l.length) (y : Wt) (hy : y = l.getD m wt0) :
    w.cell? ⟨gb, off + m * 5, none⟩ = some (.int .i64 y.tk) ∧ w.cell? ⟨gb, off + m * 5 + 1, none⟩ = some (.int .i64 y.op.kind) ∧ w.cell? ⟨gb, off + m * 5 + 2, none⟩ = some (.int .i64 y.op.fin) ∧ w.cell? ⟨gb, off + m * 5 + 3, none⟩ = some (.int .i64 y.op.count) ∧ w.cell? ⟨gb, off + m * 5 + 4, none⟩ = some (.string y.op.data) := by
  subst hy
  have hg := fun i (hi : i < 5) => (h (m * 5 + i) (by omega)).trans (rwsC_get l m hm i hi)
  simp only [← Nat.add_assoc] at hg
  exact ⟨hg 0 (by omega), hg 1 (by omega), hg 2 (by omega), hg 3 (by omega), hg 4 (by omega)⟩
set_option maxHeartbeats 1600000 in
theorem rahead_any (k f : Int) (S : Sl) (st : St) (hs : Sm st) (w : World) (hR : Ref F w S st) :
    Calls Try.prog 65 #[rpV S st, .int .i64 k, .int .i64 f] w fun e w' => e = .returned (.int .i64 (likeN st.ws ⟨k, f, 0, ⟨#[]⟩⟩ : Nat)) ∧ Below w.heap.size w w' := by
  obtain ⟨a0, k0, a1, k1, aw, kw, aa, ka, rfl⟩ := hR.open
  have hr := hR.rw_
  have hql : st.ws.length ≤ 100000 := by have := hs.q; omega
  unfold rpV
  simp only at hr ⊢
  generalize st.ws = q at *
  obtain ⟨W, hW⟩ : ∃ W, W = w.alloc (.cells #[.int .i64 st.limit, .slice a0 st.q0.length k0, .slice a1 st.q1.length k1, .bool st.c0, .bool st.c1, .int .i64 st.tks, .slice aw q.length kw, .slice aa st.ans.length ka] 60) := ⟨_, rfl⟩
  have hB : Below w.heap.size w W := by rw [hW]; exact (Below.refl _ _).alloc (Nat.le_refl _) _
  have KW := Lib.hid (show Blk W w.heap.size 60 [.int .i64 st.limit, .slice a0 st.q0.length k0, .slice a1 st.q1.length k1, .bool st.c0, .bool st.c1, .int .i64 st.tks, .slice aw q.length kw, .slice aa st.ans.length ka] by rw [hW]; exact Blk.new w 60 _)
  have BW := Lib.hid hB
  have HW := Lib.hid hW
  clear hR hs hB hW
  by_cases hn : 0 < q.length
  · obtain ⟨gb, off, cap, hv, h1, h2, hgb, hcl, _⟩ := hr.open hn
    injection hv with hv1 hv2 hv3
    subst hv1 hv3
    unfold maxLen at h2
    have HC := Lib.hid (show ∀ j, j < q.length * 5 → W.cell? ⟨gb, off + j, none⟩ = (rwsC q)[j]? from fun j hj => (BW.out.cell (p := ⟨gb, off + j, none⟩) hgb).trans (hcl j hj))
    clear hr hcl
    have b4 : W.cell? ⟨w.heap.size, 6, none⟩ = some (.slice (some ⟨gb, off, none⟩) q.length kw) := KW.out.cell 6
    go_enter Try.func65, Try.ntmps65
    go_wp2_with fail
    rw [← HW.out]
    go_loopw [7, 8] (fun n i wr => ∃ m : Nat, m ≤ q.length ∧ i = .int .i64 m ∧ n = .int .i64 (likeN (q.take m) ⟨k, f, 0, ⟨#[]⟩⟩ : Nat) ∧ wr = W) (fun _ i _ => q.length - (intOf i).toNat)
    case atStart => exact ⟨0, by omega, rfl, rfl, rfl⟩
    case round =>
      obtain ⟨m, hm, rfl, rfl, rfl⟩ := hrel
      by_cases hlt : m < q.length
      · obtain ⟨y, hy⟩ : ∃ y, y = q.getD m wt0 := ⟨_, rfl⟩
        obtain ⟨c0, c1, c2, c3, c4⟩ := rw_cells HC.out hlt y hy
        have c2' : wr.cell? ⟨gb, off + m * 5 + 1 + 1, none⟩ = some (.int .i64 y.op.fin) := c2
        have hk1 := likeN_le (q.take m) ⟨k, f, 0, ⟨#[]⟩⟩
        have hk2 : (q.take m).length ≤ m := List.length_take_le _ _
        have HS := Lib.hid (likeN_take q ⟨k, f, 0, ⟨#[]⟩⟩ m hlt)
        rw [← hy] at HS
        have HSm : Hid (same ⟨k, f, 0, ⟨#[]⟩⟩ y = (y.op.kind == k && y.op.fin == f)) := Lib.hid rfl
        generalize likeN (q.take m) ⟨k, f, 0, ⟨#[]⟩⟩ = n at *
        clear hy
        obtain ⟨⟨yk, yf, yc, yd⟩, yt⟩ := y
        simp only at c0 c1 c2 c2' c3 c4 HSm
        by_cases e0 : yk = k
        · subst e0
          by_cases e1 : yf = f
          · subst e1
            go_wp2_with fail
            exact ⟨⟨m + 1, by omega, rfl, by rw [HS.out, HSm.out]; simp, trivial⟩, by simp [intOf]; omega⟩
          · have f1 : (yf == f) = false := by rw [beq_eq_false_iff_ne]; exact e1
            have HF := Lib.hid f1
            clear e1
            go_wp2_with fail
            exact ⟨⟨m + 1, by omega, rfl, by rw [HS.out, HSm.out, HF.out]; simp, trivial⟩, by simp [intOf]; omega⟩
        · have f0 : (yk == k) = false := by rw [beq_eq_false_iff_ne]; exact e0
          have HF := Lib.hid f0
          clear e0
          go_wp2_with fail
          exact ⟨⟨m + 1, by omega, rfl, by rw [HS.out, HSm.out, HF.out]; simp, trivial⟩, by simp [intOf]; omega⟩
      · obtain rfl : m = q.length := by omega
        rw [List.take_length]
        go_wp2_with fail
        go_ret
        exact ⟨rfl, BW.out⟩
  · have hq0 : q = [] := List.eq_nil_of_length_eq_zero (by omega)
    subst hq0
    clear hr
    have HW' := HW.out
    simp only [List.length_nil] at HW'
    replace HW := Lib.hid HW'
    clear HW'
    have b4 : W.cell? ⟨w.heap.size, 6, none⟩ = some (.slice aw 0 kw) := KW.out.cell 6
    go_enter Try.func65, Try.ntmps65
    go_wp2_with fail
    rw [← HW.out]
    go_loopw [7, 8] (fun n i wr => i = .int .i64 0 ∧ n = .int .i64 0 ∧ wr = W) (fun _ i _ => 0)
    case atStart => exact ⟨rfl, rfl, rfl⟩
    case round =>
      obtain ⟨rfl, rfl, rfl⟩ := hrel
      go_wp2_with fail
      go_ret
      exact ⟨rfl, BW.out⟩
set_option maxHeartbeats 800000 in
theorem rcheck_kind (k f c : Int) (d : ByteArray) (h0 : k ≠ 0) (h1 : k ≠ 1) (S : Sl) (st : St) (w : World) (hR : Ref F w S st) :
    Calls Try.prog 63 #[rpV S st, .agg #[.int .i64 k, .int .i64 f, .int .i64 c, .string d]] w fun e w' => e = .returned (.int .i64 1) ∧ Below w.heap.size w w' := by
  obtain ⟨a0, k0, a1, k1, aw, kw, aa, ka, rfl⟩ := hR.open
  unfold rpV
  clear hR
  have e0 : (k != 0) = true := by rw [bne_iff_ne]; exact h0
  have e1 : (k != 1) = true := by rw [bne_iff_ne]; exact h1
  clear h0 h1
  go_enter Try.func63, Try.ntmps63
  go_wp2_with fail
  go_ret
  exact ⟨rfl, ((Below.refl _ _).alloc (Nat.le_refl _) _).alloc (by simp) _⟩
set_option maxHeartbeats 800000 in
theorem rcheck_end (k f c : Int) (d : ByteArray) (hk : k = 0 ∨ k = 1) (h0 : f ≠ 0) (h1 : f ≠ 1) (S : Sl) (st : St) (w : World) (hR : Ref F w S st) :
    Calls Try.prog 63 #[rpV S st, .agg #[.int .i64 k, .int .i64 f, .int .i64 c, .string d]] w fun e w' => e = .returned (.int .i64 1) ∧ Below w.heap.size w w' := by
  obtain ⟨a0, k0, a1, k1, aw, kw, aa, ka, rfl⟩ := hR.open
  unfold rpV
  clear hR
  have e0 : (f != 0) = true := by rw [bne_iff_ne]; exact h0
  have e1 : (f != 1) = true := by rw [bne_iff_ne]; exact h1
  clear h0 h1
  rcases hk with rfl | rfl
  all_goals
    go_enter Try.func63, Try.ntmps63
    go_wp2_with fail
    go_ret
    exact ⟨rfl, ((Below.refl _ _).alloc (Nat.le_refl _) _).alloc (by simp) _⟩
set_option maxHeartbeats 800000 in
theorem rcheck_neg (k f c : Int) (d : ByteArray) (hf : f = 0 ∨ f = 1) (hc : c < 0) (hk : k = 0) (S : Sl) (st : St) (w : World) (hR : Ref F w S st) :
    Calls Try.prog 63 #[rpV S st, .agg #[.int .i64 k, .int .i64 f, .int .i64 c, .string d]] w fun e w' => e = .returned (.int .i64 1) ∧ Below w.heap.size w w' := by
  obtain ⟨a0, k0, a1, k1, aw, kw, aa, ka, rfl⟩ := hR.open
  unfold rpV
  clear hR
  subst hk
  rcases hf with rfl | rfl
  all_goals
    go_enter Try.func63, Try.ntmps63
    go_wp2_with fail
    go_ret
    exact ⟨rfl, ((Below.refl _ _).alloc (Nat.le_refl _) _).alloc (by simp) _⟩
set_option maxHeartbeats 800000 in
theorem rcheck_lim (k f c : Int) (d : ByteArray) (hf : f = 0 ∨ f = 1) (hd : 8192 < d.size) (hk : k = 1) (S : Sl) (st : St) (w : World) (hR : Ref F w S st) :
    Calls Try.prog 63 #[rpV S st, .agg #[.int .i64 k, .int .i64 f, .int .i64 c, .string d]] w fun e w' => e = .returned (.int .i64 3) ∧ Below w.heap.size w w' := by
  obtain ⟨a0, k0, a1, k1, aw, kw, aa, ka, rfl⟩ := hR.open
  unfold rpV
  clear hR
  subst hk
  have hd2 : (8192 : Int) < d.size := by omega
  clear hd
  rcases hf with rfl | rfl
  all_goals
    go_enter Try.func63, Try.ntmps63
    go_wp2_with fail
    go_ret
    exact ⟨rfl, ((Below.refl _ _).alloc (Nat.le_refl _) _).alloc (by simp) _⟩
set_option maxHeartbeats 1600000 in
theorem rcheck_ok (x : Op) (hx : OpIn x) (hn : ¬ (x.kind = 0 ∧ x.count < 0)) (hd : ¬ (x.kind = 1 ∧ 8192 < x.data.size)) (S : Sl) (st : St) (hs : Sm st) (w : World) (hR : Ref F w S st) :
    Calls Try.prog 63 #[rpV S st, opV x] w fun e w' => e = .returned (.int .i64 (if clB st x.fin then 28 else if clB st (1 - x.fin) ∧ (x.kind = 1 ∨ readyB st x = false) then 28 else 0)) ∧ Below w.heap.size w w' := by
  obtain ⟨a0, k0, a1, k1, aw, kw, aa, ka, rfl⟩ := hR.open
  have hq0 : st.q0.length ≤ 100000 := by have := hs.q; omega
  have hq1 : st.q1.length ≤ 100000 := by have := hs.q; omega
  obtain ⟨k, f, c, d⟩ := x
  obtain ⟨hk, hf⟩ := hx
  unfold rpV opV
  clear hR hs
  simp only at hk hf hn hd ⊢
  have hrd0 : readyB st ⟨0, 0, c, d⟩ = decide (0 < st.q0.length) := rfl
  have hrd1 : readyB st ⟨0, 1, c, d⟩ = decide (0 < st.q1.length) := rfl
  have hc : k = 0 → ¬ c < 0 := fun e h => hn ⟨e, h⟩
  have hd2 : k = 1 → ¬ (8192 : Int) < d.size := fun e h => hd ⟨e, by omega⟩
  clear hn hd
  unfold clB
  have HR0 := Lib.hid hrd0
  have HR1 := Lib.hid hrd1
  clear hrd0 hrd1
  generalize st.c0 = c0 at *
  generalize st.c1 = c1 at *
  rcases hk with rfl | rfl <;> rcases hf with rfl | rfl <;> cases c0 <;> cases c1
  -- 0 0 False False
  · have hc0 := hc rfl
    clear hc hd2
    have hw1 : IntKind.i64.wrap (1 - 0) = 1 := by decide
    go_enter Try.func63, Try.ntmps63
    go_wp2_with fail
    go_ret
    exact ⟨rfl, ((Below.refl _ _).alloc (Nat.le_refl _) _).alloc (by simp) _⟩
  -- 0 0 False True
  · have hc0 := hc rfl
    clear hc hd2
    have hw1 : IntKind.i64.wrap (1 - 0) = 1 := by decide
    by_cases hq : 0 < st.q0.length
    · have hq' : ¬ st.q0.length = 0 := by omega
      have hz : decide (0 < st.q0.length) = true := decide_eq_true hq
      rw [HR0.out, hz]
      clear hz
      go_enter Try.func63, Try.ntmps63
      go_wp2_with fail
      go_ret
      exact ⟨rfl, ((Below.refl _ _).alloc (Nat.le_refl _) _).alloc (by simp) _⟩
    · have hq' : st.q0.length = 0 := by omega
      have hz : decide (0 < st.q0.length) = false := decide_eq_false hq
      rw [HR0.out, hz]
      clear hz hq
      rw [hq']
      go_enter Try.func63, Try.ntmps63
      go_wp2_with fail
      go_ret
      exact ⟨rfl, ((Below.refl _ _).alloc (Nat.le_refl _) _).alloc (by simp) _⟩
  -- 0 0 True False
  · have hc0 := hc rfl
    clear hc hd2
    have hw1 : IntKind.i64.wrap (1 - 0) = 1 := by decide
    go_enter Try.func63, Try.ntmps63
    go_wp2_with fail
    go_ret
    exact ⟨rfl, ((Below.refl _ _).alloc (Nat.le_refl _) _).alloc (by simp) _⟩
  -- 0 0 True True
  · have hc0 := hc rfl
    clear hc hd2
    have hw1 : IntKind.i64.wrap (1 - 0) = 1 := by decide
    go_enter Try.func63, Try.ntmps63
    go_wp2_with fail
    go_ret
    exact ⟨rfl, ((Below.refl _ _).alloc (Nat.le_refl _) _).alloc (by simp) _⟩
  -- 0 1 False False
  · have hc0 := hc rfl
    clear hc hd2
    have hw1 : IntKind.i64.wrap (1 - 1) = 0 := by decide
    go_enter Try.func63, Try.ntmps63
    go_wp2_with fail
    go_ret
    exact ⟨rfl, ((Below.refl _ _).alloc (Nat.le_refl _) _).alloc (by simp) _⟩
  -- 0 1 False True
  · have hc0 := hc rfl
    clear hc hd2
    have hw1 : IntKind.i64.wrap (1 - 1) = 0 := by decide
    go_enter Try.func63, Try.ntmps63
    go_wp2_with fail
    go_ret
    exact ⟨rfl, ((Below.refl _ _).alloc (Nat.le_refl _) _).alloc (by simp) _⟩
  -- 0 1 True False
  · have hc0 := hc rfl
    clear hc hd2
    have hw1 : IntKind.i64.wrap (1 - 1) = 0 := by decide
    by_cases hq : 0 < st.q1.length
    · have hq' : ¬ st.q1.length = 0 := by omega
      have hz : decide (0 < st.q1.length) = true := decide_eq_true hq
      rw [HR1.out, hz]
      clear hz
      go_enter Try.func63, Try.ntmps63
      go_wp2_with fail
      go_ret
      exact ⟨rfl, ((Below.refl _ _).alloc (Nat.le_refl _) _).alloc (by simp) _⟩
    · have hq' : st.q1.length = 0 := by omega
      have hz : decide (0 < st.q1.length) = false := decide_eq_false hq
      rw [HR1.out, hz]
      clear hz hq
      rw [hq']
      go_enter Try.func63, Try.ntmps63
      go_wp2_with fail
      go_ret
      exact ⟨rfl, ((Below.refl _ _).alloc (Nat.le_refl _) _).alloc (by simp) _⟩
  -- 0 1 True True
  · have hc0 := hc rfl
    clear hc hd2
    have hw1 : IntKind.i64.wrap (1 - 1) = 0 := by decide
    go_enter Try.func63, Try.ntmps63
    go_wp2_with fail
    go_ret
    exact ⟨rfl, ((Below.refl _ _).alloc (Nat.le_refl _) _).alloc (by simp) _⟩
  -- 1 0 False False
  · have hd0 := hd2 rfl
    clear hc hd2
    have hw1 : IntKind.i64.wrap (1 - 0) = 1 := by decide
    go_enter Try.func63, Try.ntmps63
    go_wp2_with fail
    go_ret
    exact ⟨rfl, ((Below.refl _ _).alloc (Nat.le_refl _) _).alloc (by simp) _⟩
  -- 1 0 False True
  · have hd0 := hd2 rfl
    clear hc hd2
    have hw1 : IntKind.i64.wrap (1 - 0) = 1 := by decide
    go_enter Try.func63, Try.ntmps63
    go_wp2_with fail
    go_ret
    exact ⟨rfl, ((Below.refl _ _).alloc (Nat.le_refl _) _).alloc (by simp) _⟩
  -- 1 0 True False
  · have hd0 := hd2 rfl
    clear hc hd2
    have hw1 : IntKind.i64.wrap (1 - 0) = 1 := by decide
    go_enter Try.func63, Try.ntmps63
    go_wp2_with fail
    go_ret
    exact ⟨rfl, ((Below.refl _ _).alloc (Nat.le_refl _) _).alloc (by simp) _⟩
  -- 1 0 True True
  · have hd0 := hd2 rfl
    clear hc hd2
    have hw1 : IntKind.i64.wrap (1 - 0) = 1 := by decide
    go_enter Try.func63, Try.ntmps63
    go_wp2_with fail
    go_ret
    exact ⟨rfl, ((Below.refl _ _).alloc (Nat.le_refl _) _).alloc (by simp) _⟩
  -- 1 1 False False
  · have hd0 := hd2 rfl
    clear hc hd2
    have hw1 : IntKind.i64.wrap (1 - 1) = 0 := by decide
    go_enter Try.func63, Try.ntmps63
    go_wp2_with fail
    go_ret
    exact ⟨rfl, ((Below.refl _ _).alloc (Nat.le_refl _) _).alloc (by simp) _⟩
  -- 1 1 False True
  · have hd0 := hd2 rfl
    clear hc hd2
    have hw1 : IntKind.i64.wrap (1 - 1) = 0 := by decide
    go_enter Try.func63, Try.ntmps63
    go_wp2_with fail
    go_ret
    exact ⟨rfl, ((Below.refl _ _).alloc (Nat.le_refl _) _).alloc (by simp) _⟩
  -- 1 1 True False
  · have hd0 := hd2 rfl
    clear hc hd2
    have hw1 : IntKind.i64.wrap (1 - 1) = 0 := by decide
    go_enter Try.func63, Try.ntmps63
    go_wp2_with fail
    go_ret
    exact ⟨rfl, ((Below.refl _ _).alloc (Nat.le_refl _) _).alloc (by simp) _⟩
  -- 1 1 True True
  · have hd0 := hd2 rfl
    clear hc hd2
    have hw1 : IntKind.i64.wrap (1 - 1) = 0 := by decide
    go_enter Try.func63, Try.ntmps63
    go_wp2_with fail
    go_ret
    exact ⟨rfl, ((Below.refl _ _).alloc (Nat.le_refl _) _).alloc (by simp) _⟩
theorem rcheck_any (x : Op) (S : Sl) (st : St) (hs : Sm st) (w : World) (hR : Ref F w S st) :
    Calls Try.prog 63 #[rpV S st, opV x] w fun e w' => e = .returned (.int .i64 (checkE st x)) ∧ Below w.heap.size w w' := by
  unfold checkE
  cases hb : badB x with
  | true =>
    rw [if_pos rfl]
    rcases badB_yes hb with ⟨a, b⟩ | ⟨a, b, c⟩ | ⟨a, b, c⟩
    · exact rcheck_kind x.kind x.fin x.count x.data a b S st w hR
    · exact rcheck_end x.kind x.fin x.count x.data a b c S st w hR
    · exact rcheck_neg x.kind x.fin x.count x.data a b c S st w hR
  | false =>
    obtain ⟨h1, h2⟩ := badB_no hb
    rw [if_neg (by simp)]
    by_cases hd : x.kind = 1 ∧ 8192 < x.data.size
    · rw [if_pos hd]
      exact rcheck_lim x.kind x.fin x.count x.data h1.2 hd.2 hd.1 S st w hR
    · rw [if_neg hd]
      exact rcheck_ok x h1 h2 hd S st hs w hR
end Go.Proofs.Ytmnlojbfdpjjdaa
