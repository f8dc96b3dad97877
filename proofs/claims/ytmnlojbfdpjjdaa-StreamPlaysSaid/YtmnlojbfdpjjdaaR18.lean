/- The reference: Receive. -/
import Derived.Test.YtmnlojbfdpjjdaaR17
namespace Go.Proofs.Ytmnlojbfdpjjdaa
open Go.RowKit
variable {F : Nat → Prop}
def rbl (b : ByteArray) : List UInt8 := b.data.toList
def rbys (l : List ByteArray) : List UInt8 := (l.map rbl).flatten
theorem rbl_append (a b : ByteArray) : rbl (a ++ b) = rbl a ++ rbl b := by unfold rbl; simp
theorem rbl_inj {a b : ByteArray} (h : rbl a = rbl b) : a = b := by
  cases a; cases b; simp only [rbl] at h; congr 1; exact Array.toList_inj.1 h
theorem rbl_cat (l : List ByteArray) : rbl (cat l) = rbys l := by
  show (Lib.join (l.map (·.data.toList)) []).toArray.toList = _
  rw [List.toList_toArray]
  cases l with
  | nil => rfl
  | cons a l =>
    rw [List.map_cons, Lib.join_cons, Lib.joinTail]
    show _ = a.data.toList ++ (l.map rbl).flatten
    congr 1
    congr 1
    exact List.map_id' _
theorem cat_nil : cat [] = ⟨#[]⟩ := rbl_inj (by rw [rbl_cat]; rfl)
theorem cat_take (q : List ByteArray) (m : Nat) (hm : m < q.length) : cat (q.take (m + 1)) = cat (q.take m) ++ q.getD m ByteArray.empty := by
  refine rbl_inj ?_
  rw [rbl_append, rbl_cat, rbl_cat, List.take_succ_eq_append_getElem hm, List.getD_eq_getElem?_getD, List.getElem?_eq_getElem hm]
  unfold rbys
  rw [List.map_append, List.flatten_append]
  simp
theorem cat_size (q : List ByteArray) : (cat q).size = sizes q := by
  have h := join_len q
  rw [← h]
  show (Lib.join (q.map (·.data.toList)) []).toArray.size = _
  simp
theorem like_next {st : St} (h : nextS st = none) (a : Int) (ha : a = 0 ∨ a = 1) (hq : qAt st a ≠ []) : likeN st.ws (rdOp a) = 0 := by
  obtain ⟨h1, h2, _, _⟩ := next_parts h
  have hc : cand st 0 a = none := by rcases ha with rfl | rfl <;> assumption
  have he : likeN st.ws (rdOp a) = cnt st.ws 0 a := rfl
  rw [he]
  rcases Nat.eq_zero_or_pos (cnt st.ws 0 a) with h0 | h0
  · exact h0
  · refine absurd ((cand_none hc h0).1 rfl) ?_
    rcases ha with rfl | rfl
    · exact hq
    · exact hq
set_option maxRecDepth 100000 in
set_option maxHeartbeats 1600000 in
theorem rrecv0_cl (S : Sl) (st : St) (h0 : st.c0 = true) (w : World) (hR : Ref F w S st) :
    Calls Try.prog 50 #[rpV S st, .int .i64 0] w fun e w' => ∃ S', e = .returned (.tuple #[rpV S' st, .string ⟨#[]⟩, .int .i64 28]) ∧ Ref F w' S' st ∧ Below w.heap.size w w' := by
  have XW := Lib.hid hR
  obtain ⟨za0, zk0, za1, zk1, zaw, zkw, zaa, zka, rfl⟩ := hR.open
  clear hR
  unfold rpV at *
  rw [h0]
  have HH := Lib.hid (And.intro h0 trivial)
  clear h0
  go_enter Try.func50, Try.ntmps50
  go_wp2_with fail
  have HB := Lib.hid (fun o o' => (((Below.refl w.heap.size w).alloc (Nat.le_refl _) o).alloc (by simp) o'))
  exact bodyPost_ret (res60_2 rfl _ _ (w.heap.size + 1) _ _ _ _ _ _ _ _ _ _ rfl rfl rfl (blk_at (by simp) 60 [_, _, _, _, _, _, _, _])) rfl ⟨⟨.slice za0 st.q0.length zk0, .slice za1 st.q1.length zk1, .slice zaw st.ws.length zkw, .slice zaa st.ans.length zka⟩, rfl, XW.out.below (HB.out _ _), HB.out _ _⟩
set_option maxRecDepth 100000 in
set_option maxHeartbeats 1600000 in
theorem rrecv0_cut (S : Sl) (st : St) (h0 : st.c0 = false) (h1 : st.c1 = true) (h2 : st.q0 = []) (w : World) (hR : Ref F w S st) :
    Calls Try.prog 50 #[rpV S st, .int .i64 0] w fun e w' => ∃ S', e = .returned (.tuple #[rpV S' st, .string ⟨#[]⟩, .int .i64 28]) ∧ Ref F w' S' st ∧ Below w.heap.size w w' := by
  have XW := Lib.hid hR
  obtain ⟨za0, zk0, za1, zk1, zaw, zkw, zaa, zka, rfl⟩ := hR.open
  clear hR
  unfold rpV at *
  rw [h0, h1]
  have hl : st.q0.length = 0 := by rw [h2]; rfl
  rw [hl]
  have HH := Lib.hid (And.intro h0 (And.intro h1 hl))
  clear h0 h1 h2 hl
  go_enter Try.func50, Try.ntmps50
  go_wp2_with fail
  have HB := Lib.hid (fun o o' => (((Below.refl w.heap.size w).alloc (Nat.le_refl _) o).alloc (by simp) o'))
  exact bodyPost_ret (res60_2 rfl _ _ (w.heap.size + 1) _ _ _ _ _ _ _ _ _ _ rfl rfl rfl (blk_at (by simp) 60 [_, _, _, _, _, _, _, _])) rfl ⟨⟨.slice za0 0 zk0, .slice za1 st.q1.length zk1, .slice zaw st.ws.length zkw, .slice zaa st.ans.length zka⟩, rfl, (by have h := XW.out; rw [HH.out.2.2] at h; exact h.below (HB.out _ _)), HB.out _ _⟩
set_option maxRecDepth 100000 in
set_option maxHeartbeats 1600000 in
theorem rrecv0_busy (S : Sl) (st : St) (h0 : st.c0 = false) (h1 : st.c1 = false) (h2 : st.q0 = []) (w : World) (hR : Ref F w S st) :
    Calls Try.prog 50 #[rpV S st, .int .i64 0] w fun e w' => ∃ S', e = .returned (.tuple #[rpV S' st, .string ⟨#[]⟩, .int .i64 36]) ∧ Ref F w' S' st ∧ Below w.heap.size w w' := by
  have XW := Lib.hid hR
  obtain ⟨za0, zk0, za1, zk1, zaw, zkw, zaa, zka, rfl⟩ := hR.open
  clear hR
  unfold rpV at *
  rw [h0, h1]
  have hl : st.q0.length = 0 := by rw [h2]; rfl
  rw [hl]
  have HH := Lib.hid (And.intro h0 (And.intro h1 hl))
  clear h0 h1 h2 hl
  go_enter Try.func50, Try.ntmps50
  go_wp2_with fail
  have HB := Lib.hid (fun o o' => (((Below.refl w.heap.size w).alloc (Nat.le_refl _) o).alloc (by simp) o'))
  exact bodyPost_ret (res60_2 rfl _ _ (w.heap.size + 1) _ _ _ _ _ _ _ _ _ _ rfl rfl rfl (blk_at (by simp) 60 [_, _, _, _, _, _, _, _])) rfl ⟨⟨.slice za0 0 zk0, .slice za1 st.q1.length zk1, .slice zaw st.ws.length zkw, .slice zaa st.ans.length zka⟩, rfl, (by have h := XW.out; rw [HH.out.2.2] at h; exact h.below (HB.out _ _)), HB.out _ _⟩
set_option maxRecDepth 100000 in
set_option maxHeartbeats 1600000 in
theorem rrecv0_all_true (S : Sl) (st : St) {N : Nat} {l : Int} (hl : 1 ≤ l) (hG : Gd N st) (hN : N ≤ 890) (hB : Bi l st) (h0 : st.c0 = false) (h1 : st.c1 = true) (h2 : st.q0 ≠ []) (w : World) (hR : Ref F w S st) :
    Calls Try.prog 50 #[rpV S st, .int .i64 0] w fun e w' => ∃ S', e = .returned (.tuple #[rpV S' (settle (flushS st 0)), .string (cat st.q0), .int .i64 0]) ∧ Ref F w' S' (settle (flushS st 0)) ∧ Below w.heap.size w w' := by
  have XW := Lib.hid hR
  obtain ⟨za0, zk0, za1, zk1, zaw, zkw, zaa, zka, rfl⟩ := hR.open
  have hfl : flushS st 0 = (⟨[], st.q1, false, true, st.limit, st.tks, st.ws, st.ans⟩ : St) := by
    have h : flushS st 0 = (⟨[], st.q1, st.c0, st.c1, st.limit, st.tks, st.ws, st.ans⟩ : St) := rfl
    rw [h, h0, h1]
  have hGf := hG.flushS 0
  have hBf := hB.flushS hl 0
  rw [hfl] at hGf hBf ⊢
  have C66 := Lib.hid (fun (S3 : Sl) W (h : Ref F W S3 (⟨[], st.q1, false, true, st.limit, st.tks, st.ws, st.ans⟩ : St)) => rsettle_any (N := N) (l := l) S3 (⟨[], st.q1, false, true, st.limit, st.tks, st.ws, st.ans⟩ : St) hGf (by omega) hBf W h)
  clear hGf hBf
  obtain ⟨st2, hst2⟩ : ∃ u : St, u = settle (⟨[], st.q1, false, true, st.limit, st.tks, st.ws, st.ans⟩ : St) := ⟨_, rfl⟩
  rw [← hst2] at C66 ⊢
  clear hst2 hfl
  have hs : Sm st := hG.sm (by omega)
  have hq1 : st.q0.length ≤ 100000 := by have := hs.q; omega
  have hq2 : sizes st.q0 ≤ 100000000 := by have := hG.z; omega
  have hnn : 0 < st.q0.length := by
    rcases Nat.eq_zero_or_pos st.q0.length with h | h
    · exact absurd (List.eq_nil_of_length_eq_zero h) h2
    · exact h
  obtain ⟨gb, off, cap, hv, h3, h4, hgb, hcl, _⟩ := (show Row w 9 1 (.slice za0 st.q0.length zk0) st.q0.length (strC st.q0) from hR.r0).open hnn
  injection hv with hv1 _ hv3
  subst hv1 hv3
  unfold maxLen at h4
  clear hR hs hG hB h2
  unfold rpV at *
  rw [h0, h1]
  obtain ⟨q, hqe⟩ : ∃ q, q = st.q0 := ⟨_, rfl⟩
  rw [← hqe] at hq1 hq2 hnn hcl h3 ⊢
  have HQ := Lib.hid hqe
  have H0 := Lib.hid h0
  clear hqe h0 h1
  obtain ⟨W0, hW⟩ : ∃ W0, W0 = ((w.alloc (.cells #[.int .i64 st.limit, .slice (some ⟨gb, off, none⟩) q.length zk0, .slice za1 st.q1.length zk1, .bool false, .bool true, .int .i64 st.tks, .slice zaw st.ws.length zkw, .slice zaa st.ans.length zka] 60)).alloc (.cells #[.int .i64 0, .slice none 0 0, .slice none 0 0, .bool false, .bool false, .int .i64 0, .slice none 0 0, .slice none 0 0] 60)) := ⟨_, rfl⟩
  have BB0 := Lib.hid (show Below w.heap.size w W0 by rw [hW]; exact ((Below.refl _ _).alloc (Nat.le_refl _) _).alloc (by simp) _)
  have KA0 := Lib.hid (show Blk W0 (w.heap.size) 60 [.int .i64 st.limit, .slice (some ⟨gb, off, none⟩) q.length zk0, .slice za1 st.q1.length zk1, .bool false, .bool true, .int .i64 st.tks, .slice zaw st.ws.length zkw, .slice zaa st.ans.length zka] by rw [hW]; exact (Blk.new w 60 _).alloc _)
  have KC0 := Lib.hid (show Blk W0 (w.heap.size + 1) 60 [.int .i64 0, .slice none 0 0, .slice none 0 0, .bool false, .bool false, .int .i64 0, .slice none 0 0, .slice none 0 0] by rw [hW]; exact blk_at (by simp) 60 [_, _, _, _, _, _, _, _])
  have HC := Lib.hid (show ∀ j, j < q.length → W0.cell? ⟨gb, off + j, none⟩ = some (.string (q.getD j ByteArray.empty)) from fun j hj => (BB0.out.cell (p := ⟨gb, off + j, none⟩) hgb).trans (by rw [hcl j (by omega), strC_get q j hj]))
  have hne : ((q.length : Int) == 0) = false := by rw [beq_eq_false_iff_ne]; omega
  have HV := Lib.hid hW
  have a0 : W0.cell? ⟨w.heap.size, 0, none⟩ = some (.int .i64 st.limit) := KA0.out.cell 0
  have a1 : W0.cell? ⟨w.heap.size, 1, none⟩ = some (.slice (some ⟨gb, off, none⟩) q.length zk0) := KA0.out.cell 1
  have a2 : W0.cell? ⟨w.heap.size, 2, none⟩ = some (.slice za1 st.q1.length zk1) := KA0.out.cell 2
  have a3 : W0.cell? ⟨w.heap.size, 3, none⟩ = some (.bool false) := KA0.out.cell 3
  have a4 : W0.cell? ⟨w.heap.size, 4, none⟩ = some (.bool true) := KA0.out.cell 4
  have a5 : W0.cell? ⟨w.heap.size, 5, none⟩ = some (.int .i64 st.tks) := KA0.out.cell 5
  have a6 : W0.cell? ⟨w.heap.size, 6, none⟩ = some (.slice zaw st.ws.length zkw) := KA0.out.cell 6
  have a7 : W0.cell? ⟨w.heap.size, 7, none⟩ = some (.slice zaa st.ans.length zka) := KA0.out.cell 7
  have c0 : W0.cell? ⟨w.heap.size + 1, 0, none⟩ = some (.int .i64 0) := KC0.out.cell 0
  have c1 : W0.cell? ⟨w.heap.size + 1, 1, none⟩ = some (.slice none 0 0) := KC0.out.cell 1
  have c2 : W0.cell? ⟨w.heap.size + 1, 2, none⟩ = some (.slice none 0 0) := KC0.out.cell 2
  have c3 : W0.cell? ⟨w.heap.size + 1, 3, none⟩ = some (.bool false) := KC0.out.cell 3
  have c4 : W0.cell? ⟨w.heap.size + 1, 4, none⟩ = some (.bool false) := KC0.out.cell 4
  have c5 : W0.cell? ⟨w.heap.size + 1, 5, none⟩ = some (.int .i64 0) := KC0.out.cell 5
  have c6 : W0.cell? ⟨w.heap.size + 1, 6, none⟩ = some (.slice none 0 0) := KC0.out.cell 6
  have c7 : W0.cell? ⟨w.heap.size + 1, 7, none⟩ = some (.slice none 0 0) := KC0.out.cell 7
  have fA := fun i => KA0.out.frozen i
  have fC := fun i => KC0.out.frozen i
  have KN := Lib.hid (show Blk (W0.setCell ⟨w.heap.size, 1, none⟩ (.slice none 0 0)) (w.heap.size) 60 [.int .i64 st.limit, .slice none 0 0, .slice za1 st.q1.length zk1, .bool false, .bool true, .int .i64 st.tks, .slice zaw st.ws.length zkw, .slice zaa st.ans.length zka] from KA0.out.set_ 1 _)
  have LN := Lib.hid (show Blk (W0.setCell ⟨w.heap.size, 1, none⟩ (.slice none 0 0)) (w.heap.size + 1) 60 [.int .i64 0, .slice none 0 0, .slice none 0 0, .bool false, .bool false, .int .i64 0, .slice none 0 0, .slice none 0 0] from KC0.out.far (Nat.succ_ne_self _) _)
  have BN := Lib.hid (BB0.out.setCell (p := ⟨w.heap.size, 1, none⟩) (Nat.le_refl _) (.slice none 0 0))
  have XN := Lib.hid (show Ref F (W0.setCell ⟨w.heap.size, 1, none⟩ (.slice none 0 0)) ⟨.slice none 0 0, .slice za1 st.q1.length zk1, .slice zaw st.ws.length zkw, .slice zaa st.ans.length zka⟩ (⟨[], st.q1, false, true, st.limit, st.tks, st.ws, st.ans⟩ : St) from ⟨Row.nil _ _ _, (XW.out.below BN.out).r1, (XW.out.below BN.out).rw_, (XW.out.below BN.out).ra, (XW.out.below BN.out).o.nil0⟩)
  clear hW XW hcl
  go_enter Try.func50, Try.ntmps50
  go_wp2_with fail
  (try rw [← HV.out])
  go_loopw [7, 8] (fun s i wr => ∃ m : Nat, m ≤ q.length ∧ i = .int .i64 m ∧ s = .string (cat (q.take m)) ∧ wr = W0) (fun _ i _ => q.length - (intOf i).toNat)
  case atStart => exact ⟨0, Nat.zero_le _, rfl, by rw [List.take_zero, cat_nil], rfl⟩
  case round =>
    obtain ⟨m, hm, rfl, rfl, rfl⟩ := hrel
    by_cases hlt : m < q.length
    · have hcm := HC.out m hlt
      have HS := Lib.hid (cat_take q m hlt)
      have hz1 : (cat (q.take m)).size + (q.getD m ByteArray.empty).size ≤ 100000000 := by
        rw [cat_size, ← sizes_take q m hlt]
        have := sizes_take_le q (m + 1)
        omega
      generalize q.getD m ByteArray.empty = D at *
      generalize cat (q.take m) = g0 at *
      have hrun7 : ∀ W : World, (Go.Op.stringOp .add g0 D).run Try.prog W = .ok (.string (g0 ++ D)) W := fun W => run_string_add_sum W g0 D (by omega)
      go_wp2_with fail
      go_roundw
      case rel => exact ⟨m + 1, by omega, by go_num, by rw [HS.out], trivial⟩
      case measure => simp [intOf]; omega
    · obtain rfl : m = q.length := by omega
      rw [List.take_length]
      go_wp2_with (go_at_call 66; refine (C66.out ⟨.slice none 0 0, .slice za1 st.q1.length zk1, .slice zaw st.ws.length zkw, .slice zaa st.ans.length zka⟩ _ XN.out).mono ?_; rintro e v4 ⟨S4, he4, R4, hb⟩; obtain ⟨ta0, tk0, ta1, tk1, taw, tkw, taa, tka, rfl⟩ := R4.open; (try unfold rpV at he4); (try dsimp only at he4); subst he4; have HR4 := Lib.hid R4; have BB4 := Lib.hid (keepBelow BN.out hb); have KC4 := Lib.hid (keepBlk hb LN.out); have c40 : v4.cell? ⟨w.heap.size + 1, 0, none⟩ = some (.int .i64 0) := KC4.out.cell 0; have c41 : v4.cell? ⟨w.heap.size + 1, 1, none⟩ = some (.slice none 0 0) := KC4.out.cell 1; have c42 : v4.cell? ⟨w.heap.size + 1, 2, none⟩ = some (.slice none 0 0) := KC4.out.cell 2; have c43 : v4.cell? ⟨w.heap.size + 1, 3, none⟩ = some (.bool false) := KC4.out.cell 3; have c44 : v4.cell? ⟨w.heap.size + 1, 4, none⟩ = some (.bool false) := KC4.out.cell 4; have c45 : v4.cell? ⟨w.heap.size + 1, 5, none⟩ = some (.int .i64 0) := KC4.out.cell 5; have c46 : v4.cell? ⟨w.heap.size + 1, 6, none⟩ = some (.slice none 0 0) := KC4.out.cell 6; have c47 : v4.cell? ⟨w.heap.size + 1, 7, none⟩ = some (.slice none 0 0) := KC4.out.cell 7; have fC4 := fun i => KC4.out.frozen i; clear hb R4)
      obtain ⟨o1, o2, o3, o4⟩ := put8 KC4.out (.int .i64 st2.limit) (.slice ta0 st2.q0.length tk0) (.slice ta1 st2.q1.length tk1) (.bool st2.c0) (.bool st2.c1) (.int .i64 st2.tks) (.slice taw st2.ws.length tkw) (.slice taa st2.ans.length tka)
      have hb := o3 BB4.out (Nat.le_succ _)
      exact bodyPost_ret (res60_2 rfl _ _ (w.heap.size + 1) _ _ _ _ _ _ _ _ _ _ rfl rfl rfl o1) rfl ⟨⟨.slice ta0 st2.q0.length tk0, .slice ta1 st2.q1.length tk1, .slice taw st2.ws.length tkw, .slice taa st2.ans.length tka⟩, rfl, ⟨o2 HR4.out.r0 (by decide), o2 HR4.out.r1 (by decide), o2 HR4.out.rw_ (by decide), o2 HR4.out.ra (by decide), HR4.out.o.to (o3 (Below.refl 0 _) (Nat.zero_le _)).size⟩, hb⟩
set_option maxRecDepth 100000 in
set_option maxHeartbeats 1600000 in
theorem rrecv0_all_false (S : Sl) (st : St) {N : Nat} {l : Int} (hl : 1 ≤ l) (hG : Gd N st) (hN : N ≤ 890) (hB : Bi l st) (h0 : st.c0 = false) (h1 : st.c1 = false) (h2 : st.q0 ≠ []) (w : World) (hR : Ref F w S st) :
    Calls Try.prog 50 #[rpV S st, .int .i64 0] w fun e w' => ∃ S', e = .returned (.tuple #[rpV S' (settle (flushS st 0)), .string (cat st.q0), .int .i64 0]) ∧ Ref F w' S' (settle (flushS st 0)) ∧ Below w.heap.size w w' := by
  have XW := Lib.hid hR
  obtain ⟨za0, zk0, za1, zk1, zaw, zkw, zaa, zka, rfl⟩ := hR.open
  have hfl : flushS st 0 = (⟨[], st.q1, false, false, st.limit, st.tks, st.ws, st.ans⟩ : St) := by
    have h : flushS st 0 = (⟨[], st.q1, st.c0, st.c1, st.limit, st.tks, st.ws, st.ans⟩ : St) := rfl
    rw [h, h0, h1]
  have hGf := hG.flushS 0
  have hBf := hB.flushS hl 0
  rw [hfl] at hGf hBf ⊢
  have C66 := Lib.hid (fun (S3 : Sl) W (h : Ref F W S3 (⟨[], st.q1, false, false, st.limit, st.tks, st.ws, st.ans⟩ : St)) => rsettle_any (N := N) (l := l) S3 (⟨[], st.q1, false, false, st.limit, st.tks, st.ws, st.ans⟩ : St) hGf (by omega) hBf W h)
  clear hGf hBf
  obtain ⟨st2, hst2⟩ : ∃ u : St, u = settle (⟨[], st.q1, false, false, st.limit, st.tks, st.ws, st.ans⟩ : St) := ⟨_, rfl⟩
  rw [← hst2] at C66 ⊢
  clear hst2 hfl
  have hs : Sm st := hG.sm (by omega)
  have hq1 : st.q0.length ≤ 100000 := by have := hs.q; omega
  have hq2 : sizes st.q0 ≤ 100000000 := by have := hG.z; omega
  have hnn : 0 < st.q0.length := by
    rcases Nat.eq_zero_or_pos st.q0.length with h | h
    · exact absurd (List.eq_nil_of_length_eq_zero h) h2
    · exact h
  obtain ⟨gb, off, cap, hv, h3, h4, hgb, hcl, _⟩ := (show Row w 9 1 (.slice za0 st.q0.length zk0) st.q0.length (strC st.q0) from hR.r0).open hnn
  injection hv with hv1 _ hv3
  subst hv1 hv3
  unfold maxLen at h4
  clear hR hs hG hB h2
  unfold rpV at *
  rw [h0, h1]
  obtain ⟨q, hqe⟩ : ∃ q, q = st.q0 := ⟨_, rfl⟩
  rw [← hqe] at hq1 hq2 hnn hcl h3 ⊢
  have HQ := Lib.hid hqe
  have H0 := Lib.hid h0
  clear hqe h0 h1
  obtain ⟨W0, hW⟩ : ∃ W0, W0 = ((w.alloc (.cells #[.int .i64 st.limit, .slice (some ⟨gb, off, none⟩) q.length zk0, .slice za1 st.q1.length zk1, .bool false, .bool false, .int .i64 st.tks, .slice zaw st.ws.length zkw, .slice zaa st.ans.length zka] 60)).alloc (.cells #[.int .i64 0, .slice none 0 0, .slice none 0 0, .bool false, .bool false, .int .i64 0, .slice none 0 0, .slice none 0 0] 60)) := ⟨_, rfl⟩
  have BB0 := Lib.hid (show Below w.heap.size w W0 by rw [hW]; exact ((Below.refl _ _).alloc (Nat.le_refl _) _).alloc (by simp) _)
  have KA0 := Lib.hid (show Blk W0 (w.heap.size) 60 [.int .i64 st.limit, .slice (some ⟨gb, off, none⟩) q.length zk0, .slice za1 st.q1.length zk1, .bool false, .bool false, .int .i64 st.tks, .slice zaw st.ws.length zkw, .slice zaa st.ans.length zka] by rw [hW]; exact (Blk.new w 60 _).alloc _)
  have KC0 := Lib.hid (show Blk W0 (w.heap.size + 1) 60 [.int .i64 0, .slice none 0 0, .slice none 0 0, .bool false, .bool false, .int .i64 0, .slice none 0 0, .slice none 0 0] by rw [hW]; exact blk_at (by simp) 60 [_, _, _, _, _, _, _, _])
  have HC := Lib.hid (show ∀ j, j < q.length → W0.cell? ⟨gb, off + j, none⟩ = some (.string (q.getD j ByteArray.empty)) from fun j hj => (BB0.out.cell (p := ⟨gb, off + j, none⟩) hgb).trans (by rw [hcl j (by omega), strC_get q j hj]))
  have hne : ((q.length : Int) == 0) = false := by rw [beq_eq_false_iff_ne]; omega
  have HV := Lib.hid hW
  have a0 : W0.cell? ⟨w.heap.size, 0, none⟩ = some (.int .i64 st.limit) := KA0.out.cell 0
  have a1 : W0.cell? ⟨w.heap.size, 1, none⟩ = some (.slice (some ⟨gb, off, none⟩) q.length zk0) := KA0.out.cell 1
  have a2 : W0.cell? ⟨w.heap.size, 2, none⟩ = some (.slice za1 st.q1.length zk1) := KA0.out.cell 2
  have a3 : W0.cell? ⟨w.heap.size, 3, none⟩ = some (.bool false) := KA0.out.cell 3
  have a4 : W0.cell? ⟨w.heap.size, 4, none⟩ = some (.bool false) := KA0.out.cell 4
  have a5 : W0.cell? ⟨w.heap.size, 5, none⟩ = some (.int .i64 st.tks) := KA0.out.cell 5
  have a6 : W0.cell? ⟨w.heap.size, 6, none⟩ = some (.slice zaw st.ws.length zkw) := KA0.out.cell 6
  have a7 : W0.cell? ⟨w.heap.size, 7, none⟩ = some (.slice zaa st.ans.length zka) := KA0.out.cell 7
  have c0 : W0.cell? ⟨w.heap.size + 1, 0, none⟩ = some (.int .i64 0) := KC0.out.cell 0
  have c1 : W0.cell? ⟨w.heap.size + 1, 1, none⟩ = some (.slice none 0 0) := KC0.out.cell 1
  have c2 : W0.cell? ⟨w.heap.size + 1, 2, none⟩ = some (.slice none 0 0) := KC0.out.cell 2
  have c3 : W0.cell? ⟨w.heap.size + 1, 3, none⟩ = some (.bool false) := KC0.out.cell 3
  have c4 : W0.cell? ⟨w.heap.size + 1, 4, none⟩ = some (.bool false) := KC0.out.cell 4
  have c5 : W0.cell? ⟨w.heap.size + 1, 5, none⟩ = some (.int .i64 0) := KC0.out.cell 5
  have c6 : W0.cell? ⟨w.heap.size + 1, 6, none⟩ = some (.slice none 0 0) := KC0.out.cell 6
  have c7 : W0.cell? ⟨w.heap.size + 1, 7, none⟩ = some (.slice none 0 0) := KC0.out.cell 7
  have fA := fun i => KA0.out.frozen i
  have fC := fun i => KC0.out.frozen i
  have KN := Lib.hid (show Blk (W0.setCell ⟨w.heap.size, 1, none⟩ (.slice none 0 0)) (w.heap.size) 60 [.int .i64 st.limit, .slice none 0 0, .slice za1 st.q1.length zk1, .bool false, .bool false, .int .i64 st.tks, .slice zaw st.ws.length zkw, .slice zaa st.ans.length zka] from KA0.out.set_ 1 _)
  have LN := Lib.hid (show Blk (W0.setCell ⟨w.heap.size, 1, none⟩ (.slice none 0 0)) (w.heap.size + 1) 60 [.int .i64 0, .slice none 0 0, .slice none 0 0, .bool false, .bool false, .int .i64 0, .slice none 0 0, .slice none 0 0] from KC0.out.far (Nat.succ_ne_self _) _)
  have BN := Lib.hid (BB0.out.setCell (p := ⟨w.heap.size, 1, none⟩) (Nat.le_refl _) (.slice none 0 0))
  have XN := Lib.hid (show Ref F (W0.setCell ⟨w.heap.size, 1, none⟩ (.slice none 0 0)) ⟨.slice none 0 0, .slice za1 st.q1.length zk1, .slice zaw st.ws.length zkw, .slice zaa st.ans.length zka⟩ (⟨[], st.q1, false, false, st.limit, st.tks, st.ws, st.ans⟩ : St) from ⟨Row.nil _ _ _, (XW.out.below BN.out).r1, (XW.out.below BN.out).rw_, (XW.out.below BN.out).ra, (XW.out.below BN.out).o.nil0⟩)
  clear hW XW hcl
  go_enter Try.func50, Try.ntmps50
  go_wp2_with fail
  (try rw [← HV.out])
  go_loopw [7, 8] (fun s i wr => ∃ m : Nat, m ≤ q.length ∧ i = .int .i64 m ∧ s = .string (cat (q.take m)) ∧ wr = W0) (fun _ i _ => q.length - (intOf i).toNat)
  case atStart => exact ⟨0, Nat.zero_le _, rfl, by rw [List.take_zero, cat_nil], rfl⟩
  case round =>
    obtain ⟨m, hm, rfl, rfl, rfl⟩ := hrel
    by_cases hlt : m < q.length
    · have hcm := HC.out m hlt
      have HS := Lib.hid (cat_take q m hlt)
      have hz1 : (cat (q.take m)).size + (q.getD m ByteArray.empty).size ≤ 100000000 := by
        rw [cat_size, ← sizes_take q m hlt]
        have := sizes_take_le q (m + 1)
        omega
      generalize q.getD m ByteArray.empty = D at *
      generalize cat (q.take m) = g0 at *
      have hrun7 : ∀ W : World, (Go.Op.stringOp .add g0 D).run Try.prog W = .ok (.string (g0 ++ D)) W := fun W => run_string_add_sum W g0 D (by omega)
      go_wp2_with fail
      go_roundw
      case rel => exact ⟨m + 1, by omega, by go_num, by rw [HS.out], trivial⟩
      case measure => simp [intOf]; omega
    · obtain rfl : m = q.length := by omega
      rw [List.take_length]
      go_wp2_with (go_at_call 66; refine (C66.out ⟨.slice none 0 0, .slice za1 st.q1.length zk1, .slice zaw st.ws.length zkw, .slice zaa st.ans.length zka⟩ _ XN.out).mono ?_; rintro e v4 ⟨S4, he4, R4, hb⟩; obtain ⟨ta0, tk0, ta1, tk1, taw, tkw, taa, tka, rfl⟩ := R4.open; (try unfold rpV at he4); (try dsimp only at he4); subst he4; have HR4 := Lib.hid R4; have BB4 := Lib.hid (keepBelow BN.out hb); have KC4 := Lib.hid (keepBlk hb LN.out); have c40 : v4.cell? ⟨w.heap.size + 1, 0, none⟩ = some (.int .i64 0) := KC4.out.cell 0; have c41 : v4.cell? ⟨w.heap.size + 1, 1, none⟩ = some (.slice none 0 0) := KC4.out.cell 1; have c42 : v4.cell? ⟨w.heap.size + 1, 2, none⟩ = some (.slice none 0 0) := KC4.out.cell 2; have c43 : v4.cell? ⟨w.heap.size + 1, 3, none⟩ = some (.bool false) := KC4.out.cell 3; have c44 : v4.cell? ⟨w.heap.size + 1, 4, none⟩ = some (.bool false) := KC4.out.cell 4; have c45 : v4.cell? ⟨w.heap.size + 1, 5, none⟩ = some (.int .i64 0) := KC4.out.cell 5; have c46 : v4.cell? ⟨w.heap.size + 1, 6, none⟩ = some (.slice none 0 0) := KC4.out.cell 6; have c47 : v4.cell? ⟨w.heap.size + 1, 7, none⟩ = some (.slice none 0 0) := KC4.out.cell 7; have fC4 := fun i => KC4.out.frozen i; clear hb R4)
      obtain ⟨o1, o2, o3, o4⟩ := put8 KC4.out (.int .i64 st2.limit) (.slice ta0 st2.q0.length tk0) (.slice ta1 st2.q1.length tk1) (.bool st2.c0) (.bool st2.c1) (.int .i64 st2.tks) (.slice taw st2.ws.length tkw) (.slice taa st2.ans.length tka)
      have hb := o3 BB4.out (Nat.le_succ _)
      exact bodyPost_ret (res60_2 rfl _ _ (w.heap.size + 1) _ _ _ _ _ _ _ _ _ _ rfl rfl rfl o1) rfl ⟨⟨.slice ta0 st2.q0.length tk0, .slice ta1 st2.q1.length tk1, .slice taw st2.ws.length tkw, .slice taa st2.ans.length tka⟩, rfl, ⟨o2 HR4.out.r0 (by decide), o2 HR4.out.r1 (by decide), o2 HR4.out.rw_ (by decide), o2 HR4.out.ra (by decide), HR4.out.o.to (o3 (Below.refl 0 _) (Nat.zero_le _)).size⟩, hb⟩
set_option maxRecDepth 100000 in
set_option maxHeartbeats 1600000 in
theorem rrecv1_cl (S : Sl) (st : St) (h0 : st.c1 = true) (w : World) (hR : Ref F w S st) :
    Calls Try.prog 50 #[rpV S st, .int .i64 1] w fun e w' => ∃ S', e = .returned (.tuple #[rpV S' st, .string ⟨#[]⟩, .int .i64 28]) ∧ Ref F w' S' st ∧ Below w.heap.size w w' := by
  have XW := Lib.hid hR
  obtain ⟨za0, zk0, za1, zk1, zaw, zkw, zaa, zka, rfl⟩ := hR.open
  clear hR
  unfold rpV at *
  rw [h0]
  have HH := Lib.hid (And.intro h0 trivial)
  clear h0
  go_enter Try.func50, Try.ntmps50
  go_wp2_with fail
  have HB := Lib.hid (fun o o' => (((Below.refl w.heap.size w).alloc (Nat.le_refl _) o).alloc (by simp) o'))
  exact bodyPost_ret (res60_2 rfl _ _ (w.heap.size + 1) _ _ _ _ _ _ _ _ _ _ rfl rfl rfl (blk_at (by simp) 60 [_, _, _, _, _, _, _, _])) rfl ⟨⟨.slice za0 st.q0.length zk0, .slice za1 st.q1.length zk1, .slice zaw st.ws.length zkw, .slice zaa st.ans.length zka⟩, rfl, XW.out.below (HB.out _ _), HB.out _ _⟩
set_option maxRecDepth 100000 in
set_option maxHeartbeats 1600000 in
theorem rrecv1_cut (S : Sl) (st : St) (h0 : st.c1 = false) (h1 : st.c0 = true) (h2 : st.q1 = []) (w : World) (hR : Ref F w S st) :
    Calls Try.prog 50 #[rpV S st, .int .i64 1] w fun e w' => ∃ S', e = .returned (.tuple #[rpV S' st, .string ⟨#[]⟩, .int .i64 28]) ∧ Ref F w' S' st ∧ Below w.heap.size w w' := by
  have XW := Lib.hid hR
  obtain ⟨za0, zk0, za1, zk1, zaw, zkw, zaa, zka, rfl⟩ := hR.open
  clear hR
  unfold rpV at *
  rw [h0, h1]
  have hl : st.q1.length = 0 := by rw [h2]; rfl
  rw [hl]
  have HH := Lib.hid (And.intro h0 (And.intro h1 hl))
  clear h0 h1 h2 hl
  go_enter Try.func50, Try.ntmps50
  go_wp2_with fail
  have HB := Lib.hid (fun o o' => (((Below.refl w.heap.size w).alloc (Nat.le_refl _) o).alloc (by simp) o'))
  exact bodyPost_ret (res60_2 rfl _ _ (w.heap.size + 1) _ _ _ _ _ _ _ _ _ _ rfl rfl rfl (blk_at (by simp) 60 [_, _, _, _, _, _, _, _])) rfl ⟨⟨.slice za0 st.q0.length zk0, .slice za1 0 zk1, .slice zaw st.ws.length zkw, .slice zaa st.ans.length zka⟩, rfl, (by have h := XW.out; rw [HH.out.2.2] at h; exact h.below (HB.out _ _)), HB.out _ _⟩
set_option maxRecDepth 100000 in
set_option maxHeartbeats 1600000 in
theorem rrecv1_busy (S : Sl) (st : St) (h0 : st.c1 = false) (h1 : st.c0 = false) (h2 : st.q1 = []) (w : World) (hR : Ref F w S st) :
    Calls Try.prog 50 #[rpV S st, .int .i64 1] w fun e w' => ∃ S', e = .returned (.tuple #[rpV S' st, .string ⟨#[]⟩, .int .i64 36]) ∧ Ref F w' S' st ∧ Below w.heap.size w w' := by
  have XW := Lib.hid hR
  obtain ⟨za0, zk0, za1, zk1, zaw, zkw, zaa, zka, rfl⟩ := hR.open
  clear hR
  unfold rpV at *
  rw [h0, h1]
  have hl : st.q1.length = 0 := by rw [h2]; rfl
  rw [hl]
  have HH := Lib.hid (And.intro h0 (And.intro h1 hl))
  clear h0 h1 h2 hl
  go_enter Try.func50, Try.ntmps50
  go_wp2_with fail
  have HB := Lib.hid (fun o o' => (((Below.refl w.heap.size w).alloc (Nat.le_refl _) o).alloc (by simp) o'))
  exact bodyPost_ret (res60_2 rfl _ _ (w.heap.size + 1) _ _ _ _ _ _ _ _ _ _ rfl rfl rfl (blk_at (by simp) 60 [_, _, _, _, _, _, _, _])) rfl ⟨⟨.slice za0 st.q0.length zk0, .slice za1 0 zk1, .slice zaw st.ws.length zkw, .slice zaa st.ans.length zka⟩, rfl, (by have h := XW.out; rw [HH.out.2.2] at h; exact h.below (HB.out _ _)), HB.out _ _⟩
set_option maxRecDepth 100000 in
set_option maxHeartbeats 1600000 in
theorem rrecv1_all_true (S : Sl) (st : St) {N : Nat} {l : Int} (hl : 1 ≤ l) (hG : Gd N st) (hN : N ≤ 890) (hB : Bi l st) (h0 : st.c1 = false) (h1 : st.c0 = true) (h2 : st.q1 ≠ []) (w : World) (hR : Ref F w S st) :
    Calls Try.prog 50 #[rpV S st, .int .i64 1] w fun e w' => ∃ S', e = .returned (.tuple #[rpV S' (settle (flushS st 1)), .string (cat st.q1), .int .i64 0]) ∧ Ref F w' S' (settle (flushS st 1)) ∧ Below w.heap.size w w' := by
  have XW := Lib.hid hR
  obtain ⟨za0, zk0, za1, zk1, zaw, zkw, zaa, zka, rfl⟩ := hR.open
  have hfl : flushS st 1 = (⟨st.q0, [], true, false, st.limit, st.tks, st.ws, st.ans⟩ : St) := by
    have h : flushS st 1 = (⟨st.q0, [], st.c0, st.c1, st.limit, st.tks, st.ws, st.ans⟩ : St) := rfl
    rw [h, h0, h1]
  have hGf := hG.flushS 1
  have hBf := hB.flushS hl 1
  rw [hfl] at hGf hBf ⊢
  have C66 := Lib.hid (fun (S3 : Sl) W (h : Ref F W S3 (⟨st.q0, [], true, false, st.limit, st.tks, st.ws, st.ans⟩ : St)) => rsettle_any (N := N) (l := l) S3 (⟨st.q0, [], true, false, st.limit, st.tks, st.ws, st.ans⟩ : St) hGf (by omega) hBf W h)
  clear hGf hBf
  obtain ⟨st2, hst2⟩ : ∃ u : St, u = settle (⟨st.q0, [], true, false, st.limit, st.tks, st.ws, st.ans⟩ : St) := ⟨_, rfl⟩
  rw [← hst2] at C66 ⊢
  clear hst2 hfl
  have hs : Sm st := hG.sm (by omega)
  have hq1 : st.q1.length ≤ 100000 := by have := hs.q; omega
  have hq2 : sizes st.q1 ≤ 100000000 := by have := hG.z; omega
  have hnn : 0 < st.q1.length := by
    rcases Nat.eq_zero_or_pos st.q1.length with h | h
    · exact absurd (List.eq_nil_of_length_eq_zero h) h2
    · exact h
  obtain ⟨gb, off, cap, hv, h3, h4, hgb, hcl, _⟩ := (show Row w 9 1 (.slice za1 st.q1.length zk1) st.q1.length (strC st.q1) from hR.r1).open hnn
  injection hv with hv1 _ hv3
  subst hv1 hv3
  unfold maxLen at h4
  clear hR hs hG hB h2
  unfold rpV at *
  rw [h0, h1]
  obtain ⟨q, hqe⟩ : ∃ q, q = st.q1 := ⟨_, rfl⟩
  rw [← hqe] at hq1 hq2 hnn hcl h3 ⊢
  have HQ := Lib.hid hqe
  have H0 := Lib.hid h0
  clear hqe h0 h1
  obtain ⟨W0, hW⟩ : ∃ W0, W0 = ((w.alloc (.cells #[.int .i64 st.limit, .slice za0 st.q0.length zk0, .slice (some ⟨gb, off, none⟩) q.length zk1, .bool true, .bool false, .int .i64 st.tks, .slice zaw st.ws.length zkw, .slice zaa st.ans.length zka] 60)).alloc (.cells #[.int .i64 0, .slice none 0 0, .slice none 0 0, .bool false, .bool false, .int .i64 0, .slice none 0 0, .slice none 0 0] 60)) := ⟨_, rfl⟩
  have BB0 := Lib.hid (show Below w.heap.size w W0 by rw [hW]; exact ((Below.refl _ _).alloc (Nat.le_refl _) _).alloc (by simp) _)
  have KA0 := Lib.hid (show Blk W0 (w.heap.size) 60 [.int .i64 st.limit, .slice za0 st.q0.length zk0, .slice (some ⟨gb, off, none⟩) q.length zk1, .bool true, .bool false, .int .i64 st.tks, .slice zaw st.ws.length zkw, .slice zaa st.ans.length zka] by rw [hW]; exact (Blk.new w 60 _).alloc _)
  have KC0 := Lib.hid (show Blk W0 (w.heap.size + 1) 60 [.int .i64 0, .slice none 0 0, .slice none 0 0, .bool false, .bool false, .int .i64 0, .slice none 0 0, .slice none 0 0] by rw [hW]; exact blk_at (by simp) 60 [_, _, _, _, _, _, _, _])
  have HC := Lib.hid (show ∀ j, j < q.length → W0.cell? ⟨gb, off + j, none⟩ = some (.string (q.getD j ByteArray.empty)) from fun j hj => (BB0.out.cell (p := ⟨gb, off + j, none⟩) hgb).trans (by rw [hcl j (by omega), strC_get q j hj]))
  have hne : ((q.length : Int) == 0) = false := by rw [beq_eq_false_iff_ne]; omega
  have HV := Lib.hid hW
  have a0 : W0.cell? ⟨w.heap.size, 0, none⟩ = some (.int .i64 st.limit) := KA0.out.cell 0
  have a1 : W0.cell? ⟨w.heap.size, 1, none⟩ = some (.slice za0 st.q0.length zk0) := KA0.out.cell 1
  have a2 : W0.cell? ⟨w.heap.size, 2, none⟩ = some (.slice (some ⟨gb, off, none⟩) q.length zk1) := KA0.out.cell 2
  have a3 : W0.cell? ⟨w.heap.size, 3, none⟩ = some (.bool true) := KA0.out.cell 3
  have a4 : W0.cell? ⟨w.heap.size, 4, none⟩ = some (.bool false) := KA0.out.cell 4
  have a5 : W0.cell? ⟨w.heap.size, 5, none⟩ = some (.int .i64 st.tks) := KA0.out.cell 5
  have a6 : W0.cell? ⟨w.heap.size, 6, none⟩ = some (.slice zaw st.ws.length zkw) := KA0.out.cell 6
  have a7 : W0.cell? ⟨w.heap.size, 7, none⟩ = some (.slice zaa st.ans.length zka) := KA0.out.cell 7
  have c0 : W0.cell? ⟨w.heap.size + 1, 0, none⟩ = some (.int .i64 0) := KC0.out.cell 0
  have c1 : W0.cell? ⟨w.heap.size + 1, 1, none⟩ = some (.slice none 0 0) := KC0.out.cell 1
  have c2 : W0.cell? ⟨w.heap.size + 1, 2, none⟩ = some (.slice none 0 0) := KC0.out.cell 2
  have c3 : W0.cell? ⟨w.heap.size + 1, 3, none⟩ = some (.bool false) := KC0.out.cell 3
  have c4 : W0.cell? ⟨w.heap.size + 1, 4, none⟩ = some (.bool false) := KC0.out.cell 4
  have c5 : W0.cell? ⟨w.heap.size + 1, 5, none⟩ = some (.int .i64 0) := KC0.out.cell 5
  have c6 : W0.cell? ⟨w.heap.size + 1, 6, none⟩ = some (.slice none 0 0) := KC0.out.cell 6
  have c7 : W0.cell? ⟨w.heap.size + 1, 7, none⟩ = some (.slice none 0 0) := KC0.out.cell 7
  have fA := fun i => KA0.out.frozen i
  have fC := fun i => KC0.out.frozen i
  have KN := Lib.hid (show Blk (W0.setCell ⟨w.heap.size, 2, none⟩ (.slice none 0 0)) (w.heap.size) 60 [.int .i64 st.limit, .slice za0 st.q0.length zk0, .slice none 0 0, .bool true, .bool false, .int .i64 st.tks, .slice zaw st.ws.length zkw, .slice zaa st.ans.length zka] from KA0.out.set_ 2 _)
  have LN := Lib.hid (show Blk (W0.setCell ⟨w.heap.size, 2, none⟩ (.slice none 0 0)) (w.heap.size + 1) 60 [.int .i64 0, .slice none 0 0, .slice none 0 0, .bool false, .bool false, .int .i64 0, .slice none 0 0, .slice none 0 0] from KC0.out.far (Nat.succ_ne_self _) _)
  have BN := Lib.hid (BB0.out.setCell (p := ⟨w.heap.size, 2, none⟩) (Nat.le_refl _) (.slice none 0 0))
  have XN := Lib.hid (show Ref F (W0.setCell ⟨w.heap.size, 2, none⟩ (.slice none 0 0)) ⟨.slice za0 st.q0.length zk0, .slice none 0 0, .slice zaw st.ws.length zkw, .slice zaa st.ans.length zka⟩ (⟨st.q0, [], true, false, st.limit, st.tks, st.ws, st.ans⟩ : St) from ⟨(XW.out.below BN.out).r0, Row.nil _ _ _, (XW.out.below BN.out).rw_, (XW.out.below BN.out).ra, (XW.out.below BN.out).o.nil1⟩)
  clear hW XW hcl
  go_enter Try.func50, Try.ntmps50
  go_wp2_with fail
  (try rw [← HV.out])
  go_loopw [7, 8] (fun s i wr => ∃ m : Nat, m ≤ q.length ∧ i = .int .i64 m ∧ s = .string (cat (q.take m)) ∧ wr = W0) (fun _ i _ => q.length - (intOf i).toNat)
  case atStart => exact ⟨0, Nat.zero_le _, rfl, by rw [List.take_zero, cat_nil], rfl⟩
  case round =>
    obtain ⟨m, hm, rfl, rfl, rfl⟩ := hrel
    by_cases hlt : m < q.length
    · have hcm := HC.out m hlt
      have HS := Lib.hid (cat_take q m hlt)
      have hz1 : (cat (q.take m)).size + (q.getD m ByteArray.empty).size ≤ 100000000 := by
        rw [cat_size, ← sizes_take q m hlt]
        have := sizes_take_le q (m + 1)
        omega
      generalize q.getD m ByteArray.empty = D at *
      generalize cat (q.take m) = g0 at *
      have hrun7 : ∀ W : World, (Go.Op.stringOp .add g0 D).run Try.prog W = .ok (.string (g0 ++ D)) W := fun W => run_string_add_sum W g0 D (by omega)
      go_wp2_with fail
      go_roundw
      case rel => exact ⟨m + 1, by omega, by go_num, by rw [HS.out], trivial⟩
      case measure => simp [intOf]; omega
    · obtain rfl : m = q.length := by omega
      rw [List.take_length]
      go_wp2_with (go_at_call 66; refine (C66.out ⟨.slice za0 st.q0.length zk0, .slice none 0 0, .slice zaw st.ws.length zkw, .slice zaa st.ans.length zka⟩ _ XN.out).mono ?_; rintro e v4 ⟨S4, he4, R4, hb⟩; obtain ⟨ta0, tk0, ta1, tk1, taw, tkw, taa, tka, rfl⟩ := R4.open; (try unfold rpV at he4); (try dsimp only at he4); subst he4; have HR4 := Lib.hid R4; have BB4 := Lib.hid (keepBelow BN.out hb); have KC4 := Lib.hid (keepBlk hb LN.out); have c40 : v4.cell? ⟨w.heap.size + 1, 0, none⟩ = some (.int .i64 0) := KC4.out.cell 0; have c41 : v4.cell? ⟨w.heap.size + 1, 1, none⟩ = some (.slice none 0 0) := KC4.out.cell 1; have c42 : v4.cell? ⟨w.heap.size + 1, 2, none⟩ = some (.slice none 0 0) := KC4.out.cell 2; have c43 : v4.cell? ⟨w.heap.size + 1, 3, none⟩ = some (.bool false) := KC4.out.cell 3; have c44 : v4.cell? ⟨w.heap.size + 1, 4, none⟩ = some (.bool false) := KC4.out.cell 4; have c45 : v4.cell? ⟨w.heap.size + 1, 5, none⟩ = some (.int .i64 0) := KC4.out.cell 5; have c46 : v4.cell? ⟨w.heap.size + 1, 6, none⟩ = some (.slice none 0 0) := KC4.out.cell 6; have c47 : v4.cell? ⟨w.heap.size + 1, 7, none⟩ = some (.slice none 0 0) := KC4.out.cell 7; have fC4 := fun i => KC4.out.frozen i; clear hb R4)
      obtain ⟨o1, o2, o3, o4⟩ := put8 KC4.out (.int .i64 st2.limit) (.slice ta0 st2.q0.length tk0) (.slice ta1 st2.q1.length tk1) (.bool st2.c0) (.bool st2.c1) (.int .i64 st2.tks) (.slice taw st2.ws.length tkw) (.slice taa st2.ans.length tka)
      have hb := o3 BB4.out (Nat.le_succ _)
      exact bodyPost_ret (res60_2 rfl _ _ (w.heap.size + 1) _ _ _ _ _ _ _ _ _ _ rfl rfl rfl o1) rfl ⟨⟨.slice ta0 st2.q0.length tk0, .slice ta1 st2.q1.length tk1, .slice taw st2.ws.length tkw, .slice taa st2.ans.length tka⟩, rfl, ⟨o2 HR4.out.r0 (by decide), o2 HR4.out.r1 (by decide), o2 HR4.out.rw_ (by decide), o2 HR4.out.ra (by decide), HR4.out.o.to (o3 (Below.refl 0 _) (Nat.zero_le _)).size⟩, hb⟩
set_option maxRecDepth 100000 in
set_option maxHeartbeats 1600000 in
theorem rrecv1_all_false (S : Sl) (st : St) {N : Nat} {l : Int} (hl : 1 ≤ l) (hG : Gd N st) (hN : N ≤ 890) (hB : Bi l st) (h0 : st.c1 = false) (h1 : st.c0 = false) (h2 : st.q1 ≠ []) (w : World) (hR : Ref F w S st) :
    Calls Try.prog 50 #[rpV S st, .int .i64 1] w fun e w' => ∃ S', e = .returned (.tuple #[rpV S' (settle (flushS st 1)), .string (cat st.q1), .int .i64 0]) ∧ Ref F w' S' (settle (flushS st 1)) ∧ Below w.heap.size w w' := by
  have XW := Lib.hid hR
  obtain ⟨za0, zk0, za1, zk1, zaw, zkw, zaa, zka, rfl⟩ := hR.open
  have hfl : flushS st 1 = (⟨st.q0, [], false, false, st.limit, st.tks, st.ws, st.ans⟩ : St) := by
    have h : flushS st 1 = (⟨st.q0, [], st.c0, st.c1, st.limit, st.tks, st.ws, st.ans⟩ : St) := rfl
    rw [h, h0, h1]
  have hGf := hG.flushS 1
  have hBf := hB.flushS hl 1
  rw [hfl] at hGf hBf ⊢
  have C66 := Lib.hid (fun (S3 : Sl) W (h : Ref F W S3 (⟨st.q0, [], false, false, st.limit, st.tks, st.ws, st.ans⟩ : St)) => rsettle_any (N := N) (l := l) S3 (⟨st.q0, [], false, false, st.limit, st.tks, st.ws, st.ans⟩ : St) hGf (by omega) hBf W h)
  clear hGf hBf
  obtain ⟨st2, hst2⟩ : ∃ u : St, u = settle (⟨st.q0, [], false, false, st.limit, st.tks, st.ws, st.ans⟩ : St) := ⟨_, rfl⟩
  rw [← hst2] at C66 ⊢
  clear hst2 hfl
  have hs : Sm st := hG.sm (by omega)
  have hq1 : st.q1.length ≤ 100000 := by have := hs.q; omega
  have hq2 : sizes st.q1 ≤ 100000000 := by have := hG.z; omega
  have hnn : 0 < st.q1.length := by
    rcases Nat.eq_zero_or_pos st.q1.length with h | h
    · exact absurd (List.eq_nil_of_length_eq_zero h) h2
    · exact h
  obtain ⟨gb, off, cap, hv, h3, h4, hgb, hcl, _⟩ := (show Row w 9 1 (.slice za1 st.q1.length zk1) st.q1.length (strC st.q1) from hR.r1).open hnn
  injection hv with hv1 _ hv3
  subst hv1 hv3
  unfold maxLen at h4
  clear hR hs hG hB h2
  unfold rpV at *
  rw [h0, h1]
  obtain ⟨q, hqe⟩ : ∃ q, q = st.q1 := ⟨_, rfl⟩
  rw [← hqe] at hq1 hq2 hnn hcl h3 ⊢
  have HQ := Lib.hid hqe
  have H0 := Lib.hid h0
  clear hqe h0 h1
  obtain ⟨W0, hW⟩ : ∃ W0, W0 = ((w.alloc (.cells #[.int .i64 st.limit, .slice za0 st.q0.length zk0, .slice (some ⟨gb, off, none⟩) q.length zk1, .bool false, .bool false, .int .i64 st.tks, .slice zaw st.ws.length zkw, .slice zaa st.ans.length zka] 60)).alloc (.cells #[.int .i64 0, .slice none 0 0, .slice none 0 0, .bool false, .bool false, .int .i64 0, .slice none 0 0, .slice none 0 0] 60)) := ⟨_, rfl⟩
  have BB0 := Lib.hid (show Below w.heap.size w W0 by rw [hW]; exact ((Below.refl _ _).alloc (Nat.le_refl _) _).alloc (by simp) _)
  have KA0 := Lib.hid (show Blk W0 (w.heap.size) 60 [.int .i64 st.limit, .slice za0 st.q0.length zk0, .slice (some ⟨gb, off, none⟩) q.length zk1, .bool false, .bool false, .int .i64 st.tks, .slice zaw st.ws.length zkw, .slice zaa st.ans.length zka] by rw [hW]; exact (Blk.new w 60 _).alloc _)
  have KC0 := Lib.hid (show Blk W0 (w.heap.size + 1) 60 [.int .i64 0, .slice none 0 0, .slice none 0 0, .bool false, .bool false, .int .i64 0, .slice none 0 0, .slice none 0 0] by rw [hW]; exact blk_at (by simp) 60 [_, _, _, _, _, _, _, _])
  have HC := Lib.hid (show ∀ j, j < q.length → W0.cell? ⟨gb, off + j, none⟩ = some (.string (q.getD j ByteArray.empty)) from fun j hj => (BB0.out.cell (p := ⟨gb, off + j, none⟩) hgb).trans (by rw [hcl j (by omega), strC_get q j hj]))
  have hne : ((q.length : Int) == 0) = false := by rw [beq_eq_false_iff_ne]; omega
  have HV := Lib.hid hW
  have a0 : W0.cell? ⟨w.heap.size, 0, none⟩ = some (.int .i64 st.limit) := KA0.out.cell 0
  have a1 : W0.cell? ⟨w.heap.size, 1, none⟩ = some (.slice za0 st.q0.length zk0) := KA0.out.cell 1
  have a2 : W0.cell? ⟨w.heap.size, 2, none⟩ = some (.slice (some ⟨gb, off, none⟩) q.length zk1) := KA0.out.cell 2
  have a3 : W0.cell? ⟨w.heap.size, 3, none⟩ = some (.bool false) := KA0.out.cell 3
  have a4 : W0.cell? ⟨w.heap.size, 4, none⟩ = some (.bool false) := KA0.out.cell 4
  have a5 : W0.cell? ⟨w.heap.size, 5, none⟩ = some (.int .i64 st.tks) := KA0.out.cell 5
  have a6 : W0.cell? ⟨w.heap.size, 6, none⟩ = some (.slice zaw st.ws.length zkw) := KA0.out.cell 6
  have a7 : W0.cell? ⟨w.heap.size, 7, none⟩ = some (.slice zaa st.ans.length zka) := KA0.out.cell 7
  have c0 : W0.cell? ⟨w.heap.size + 1, 0, none⟩ = some (.int .i64 0) := KC0.out.cell 0
  have c1 : W0.cell? ⟨w.heap.size + 1, 1, none⟩ = some (.slice none 0 0) := KC0.out.cell 1
  have c2 : W0.cell? ⟨w.heap.size + 1, 2, none⟩ = some (.slice none 0 0) := KC0.out.cell 2
  have c3 : W0.cell? ⟨w.heap.size + 1, 3, none⟩ = some (.bool false) := KC0.out.cell 3
  have c4 : W0.cell? ⟨w.heap.size + 1, 4, none⟩ = some (.bool false) := KC0.out.cell 4
  have c5 : W0.cell? ⟨w.heap.size + 1, 5, none⟩ = some (.int .i64 0) := KC0.out.cell 5
  have c6 : W0.cell? ⟨w.heap.size + 1, 6, none⟩ = some (.slice none 0 0) := KC0.out.cell 6
  have c7 : W0.cell? ⟨w.heap.size + 1, 7, none⟩ = some (.slice none 0 0) := KC0.out.cell 7
  have fA := fun i => KA0.out.frozen i
  have fC := fun i => KC0.out.frozen i
  have KN := Lib.hid (show Blk (W0.setCell ⟨w.heap.size, 2, none⟩ (.slice none 0 0)) (w.heap.size) 60 [.int .i64 st.limit, .slice za0 st.q0.length zk0, .slice none 0 0, .bool false, .bool false, .int .i64 st.tks, .slice zaw st.ws.length zkw, .slice zaa st.ans.length zka] from KA0.out.set_ 2 _)
  have LN := Lib.hid (show Blk (W0.setCell ⟨w.heap.size, 2, none⟩ (.slice none 0 0)) (w.heap.size + 1) 60 [.int .i64 0, .slice none 0 0, .slice none 0 0, .bool false, .bool false, .int .i64 0, .slice none 0 0, .slice none 0 0] from KC0.out.far (Nat.succ_ne_self _) _)
  have BN := Lib.hid (BB0.out.setCell (p := ⟨w.heap.size, 2, none⟩) (Nat.le_refl _) (.slice none 0 0))
  have XN := Lib.hid (show Ref F (W0.setCell ⟨w.heap.size, 2, none⟩ (.slice none 0 0)) ⟨.slice za0 st.q0.length zk0, .slice none 0 0, .slice zaw st.ws.length zkw, .slice zaa st.ans.length zka⟩ (⟨st.q0, [], false, false, st.limit, st.tks, st.ws, st.ans⟩ : St) from ⟨(XW.out.below BN.out).r0, Row.nil _ _ _, (XW.out.below BN.out).rw_, (XW.out.below BN.out).ra, (XW.out.below BN.out).o.nil1⟩)
  clear hW XW hcl
  go_enter Try.func50, Try.ntmps50
  go_wp2_with fail
  (try rw [← HV.out])
  go_loopw [7, 8] (fun s i wr => ∃ m : Nat, m ≤ q.length ∧ i = .int .i64 m ∧ s = .string (cat (q.take m)) ∧ wr = W0) (fun _ i _ => q.length - (intOf i).toNat)
  case atStart => exact ⟨0, Nat.zero_le _, rfl, by rw [List.take_zero, cat_nil], rfl⟩
  case round =>
    obtain ⟨m, hm, rfl, rfl, rfl⟩ := hrel
    by_cases hlt : m < q.length
    · have hcm := HC.out m hlt
      have HS := Lib.hid (cat_take q m hlt)
      have hz1 : (cat (q.take m)).size + (q.getD m ByteArray.empty).size ≤ 100000000 := by
        rw [cat_size, ← sizes_take q m hlt]
        have := sizes_take_le q (m + 1)
        omega
      generalize q.getD m ByteArray.empty = D at *
      generalize cat (q.take m) = g0 at *
      have hrun7 : ∀ W : World, (Go.Op.stringOp .add g0 D).run Try.prog W = .ok (.string (g0 ++ D)) W := fun W => run_string_add_sum W g0 D (by omega)
      go_wp2_with fail
      go_roundw
      case rel => exact ⟨m + 1, by omega, by go_num, by rw [HS.out], trivial⟩
      case measure => simp [intOf]; omega
    · obtain rfl : m = q.length := by omega
      rw [List.take_length]
      go_wp2_with (go_at_call 66; refine (C66.out ⟨.slice za0 st.q0.length zk0, .slice none 0 0, .slice zaw st.ws.length zkw, .slice zaa st.ans.length zka⟩ _ XN.out).mono ?_; rintro e v4 ⟨S4, he4, R4, hb⟩; obtain ⟨ta0, tk0, ta1, tk1, taw, tkw, taa, tka, rfl⟩ := R4.open; (try unfold rpV at he4); (try dsimp only at he4); subst he4; have HR4 := Lib.hid R4; have BB4 := Lib.hid (keepBelow BN.out hb); have KC4 := Lib.hid (keepBlk hb LN.out); have c40 : v4.cell? ⟨w.heap.size + 1, 0, none⟩ = some (.int .i64 0) := KC4.out.cell 0; have c41 : v4.cell? ⟨w.heap.size + 1, 1, none⟩ = some (.slice none 0 0) := KC4.out.cell 1; have c42 : v4.cell? ⟨w.heap.size + 1, 2, none⟩ = some (.slice none 0 0) := KC4.out.cell 2; have c43 : v4.cell? ⟨w.heap.size + 1, 3, none⟩ = some (.bool false) := KC4.out.cell 3; have c44 : v4.cell? ⟨w.heap.size + 1, 4, none⟩ = some (.bool false) := KC4.out.cell 4; have c45 : v4.cell? ⟨w.heap.size + 1, 5, none⟩ = some (.int .i64 0) := KC4.out.cell 5; have c46 : v4.cell? ⟨w.heap.size + 1, 6, none⟩ = some (.slice none 0 0) := KC4.out.cell 6; have c47 : v4.cell? ⟨w.heap.size + 1, 7, none⟩ = some (.slice none 0 0) := KC4.out.cell 7; have fC4 := fun i => KC4.out.frozen i; clear hb R4)
      obtain ⟨o1, o2, o3, o4⟩ := put8 KC4.out (.int .i64 st2.limit) (.slice ta0 st2.q0.length tk0) (.slice ta1 st2.q1.length tk1) (.bool st2.c0) (.bool st2.c1) (.int .i64 st2.tks) (.slice taw st2.ws.length tkw) (.slice taa st2.ans.length tka)
      have hb := o3 BB4.out (Nat.le_succ _)
      exact bodyPost_ret (res60_2 rfl _ _ (w.heap.size + 1) _ _ _ _ _ _ _ _ _ _ rfl rfl rfl o1) rfl ⟨⟨.slice ta0 st2.q0.length tk0, .slice ta1 st2.q1.length tk1, .slice taw st2.ws.length tkw, .slice taa st2.ans.length tka⟩, rfl, ⟨o2 HR4.out.r0 (by decide), o2 HR4.out.r1 (by decide), o2 HR4.out.rw_ (by decide), o2 HR4.out.ra (by decide), HR4.out.o.to (o3 (Below.refl 0 _) (Nat.zero_le _)).size⟩, hb⟩
theorem rrecv_any (a : Int) (ha : a = 0 ∨ a = 1) {N : Nat} {l : Int} (hl : 1 ≤ l) (S : Sl) (st : St) (hG : Gd N st) (hN : N ≤ 890) (hB : Bi l st) (hx : nextS st = none) (w : World) (hR : Ref F w S st) :
    Calls Try.prog 50 #[rpV S st, .int .i64 a] w fun e w' => ∃ S', e = .returned (.tuple #[rpV S' (recvR st a).1, .string (recvR st a).2.1, .int .i64 (recvR st a).2.2]) ∧ Ref F w' S' (recvR st a).1 ∧ Below w.heap.size w w' := by
  have HE : recvR st a = if recvE st a = 0 then (settle (flushS st a), cat (qAt st a), 0) else (st, ⟨#[]⟩, recvE st a) := rfl
  have HEE : recvE st a = if closedA st a || ((qAt st a).isEmpty && closedA st (1 - a)) then 28 else if (qAt st a).isEmpty || decide (0 < likeN st.ws (rdOp a)) then 36 else 0 := rfl
  rcases ha with rfl | rfl
  · have e0 : closedA st 0 = st.c0 := rfl
    have e1 : closedA st (1 - 0) = st.c1 := rfl
    have e2 : qAt st 0 = st.q0 := rfl
    rw [e0, e1, e2] at HEE
    rw [e2] at HE
    cases h0 : st.c0 with
    | true =>
      have HR : recvR st 0 = (st, ⟨#[]⟩, 28) := by rw [HE, HEE, h0]; rfl
      rw [HR]
      exact rrecv0_cl S st h0 w hR
    | false =>
      by_cases hq : st.q0 = []
      · cases h1 : st.c1 with
        | true =>
          have HR : recvR st 0 = (st, ⟨#[]⟩, 28) := by rw [HE, HEE, h0, h1, hq]; rfl
          rw [HR]
          exact rrecv0_cut S st h0 h1 hq w hR
        | false =>
          have HR : recvR st 0 = (st, ⟨#[]⟩, 36) := by rw [HE, HEE, h0, h1, hq]; rfl
          rw [HR]
          exact rrecv0_busy S st h0 h1 hq w hR
      · have hz : likeN st.ws (rdOp 0) = 0 := like_next hx 0 (.inl rfl) hq
        have hie : st.q0.isEmpty = false := by rw [List.isEmpty_eq_false_iff]; exact hq
        have HR : recvR st 0 = (settle (flushS st 0), cat st.q0, 0) := by rw [HE, HEE, h0, hie, hz]; rfl
        rw [HR]
        cases h1 : st.c1 with
        | true => exact rrecv0_all_true S st hl hG hN hB h0 h1 hq w hR
        | false => exact rrecv0_all_false S st hl hG hN hB h0 h1 hq w hR
  · have e0 : closedA st 1 = st.c1 := rfl
    have e1 : closedA st (1 - 1) = st.c0 := rfl
    have e2 : qAt st 1 = st.q1 := rfl
    rw [e0, e1, e2] at HEE
    rw [e2] at HE
    cases h0 : st.c1 with
    | true =>
      have HR : recvR st 1 = (st, ⟨#[]⟩, 28) := by rw [HE, HEE, h0]; rfl
      rw [HR]
      exact rrecv1_cl S st h0 w hR
    | false =>
      by_cases hq : st.q1 = []
      · cases h1 : st.c0 with
        | true =>
          have HR : recvR st 1 = (st, ⟨#[]⟩, 28) := by rw [HE, HEE, h0, h1, hq]; rfl
          rw [HR]
          exact rrecv1_cut S st h0 h1 hq w hR
        | false =>
          have HR : recvR st 1 = (st, ⟨#[]⟩, 36) := by rw [HE, HEE, h0, h1, hq]; rfl
          rw [HR]
          exact rrecv1_busy S st h0 h1 hq w hR
      · have hz : likeN st.ws (rdOp 1) = 0 := like_next hx 1 (.inr rfl) hq
        have hie : st.q1.isEmpty = false := by rw [List.isEmpty_eq_false_iff]; exact hq
        have HR : recvR st 1 = (settle (flushS st 1), cat st.q1, 0) := by rw [HE, HEE, h0, hie, hz]; rfl
        rw [HR]
        cases h1 : st.c0 with
        | true => exact rrecv1_all_true S st hl hG hN hB h0 h1 hq w hR
        | false => exact rrecv1_all_false S st hl hG hN hB h0 h1 hq w hR
end Go.Proofs.Ytmnlojbfdpjjdaa
