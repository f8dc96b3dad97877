/- The reference: Cancel. -/
import Derived.Test.YtmnlojbfdpjjdaaR13
namespace Go.Proofs.Ytmnlojbfdpjjdaa
open Go.RowKit
variable {F : Nat → Prop}
set_option maxRecDepth 100000 in
set_option maxHeartbeats 1600000 in
theorem rcancel_hit (t : Int) {N : Nat} {l : Int} (S : Sl) (st : St) (hs : Sm st) (hG : Gd N st) (hN : N ≤ 890) (hB : Bi l st) (i : Nat) (hil : i < st.ws.length) (ht : (st.ws.getD i wt0).tk = t) (hno : ∀ j, j < i → (st.ws.getD j wt0).tk ≠ t) (w : World) (hR : Ref F w S st) :
    Calls Try.prog 46 #[rpV S st, .int .i64 t] w fun e w' => ∃ S', e = .returned (.tuple #[rpV S' (settle (without st i)), .int .i64 0]) ∧ Ref F w' S' (settle (without st i)) ∧ Below w.heap.size w w' := by
  have hql : st.ws.length ≤ 100000 := by have := hs.q; omega
  have XW := Lib.hid hR
  obtain ⟨za0, zk0, za1, zk1, zaw, zkw, zaa, zka, rfl⟩ := hR.open
  have hr : Row w 120 5 (.slice zaw st.ws.length zkw) st.ws.length (rwsC st.ws) := hR.rw_
  have hkw : st.ws.length ≤ zkw ∧ zkw ≤ 9223372036854775807 := by
    obtain ⟨a, c, e, h1, h2⟩ := hr.form
    injection e with _ _ e3
    subst e3
    exact ⟨h1, h2⟩
  obtain ⟨hk1, hk2⟩ := hkw
  obtain ⟨W0, hW⟩ : ∃ W0, W0 = (w.alloc (.cells #[.int .i64 st.limit, .slice za0 st.q0.length zk0, .slice za1 st.q1.length zk1, .bool st.c0, .bool st.c1, .int .i64 st.tks, .slice zaw st.ws.length zkw, .slice zaa st.ans.length zka] 60)).alloc (.cells #[.int .i64 0, .slice none 0 0, .slice none 0 0, .bool false, .bool false, .int .i64 0, .slice none 0 0, .slice none 0 0] 60) := ⟨_, rfl⟩
  have BB0 := Lib.hid (show Below w.heap.size w W0 by rw [hW]; exact ((Below.refl _ _).alloc (Nat.le_refl _) _).alloc (by simp) _)
  have KA0 := Lib.hid (show Blk W0 (w.heap.size) 60 [.int .i64 st.limit, .slice za0 st.q0.length zk0, .slice za1 st.q1.length zk1, .bool st.c0, .bool st.c1, .int .i64 st.tks, .slice zaw st.ws.length zkw, .slice zaa st.ans.length zka] by rw [hW]; exact (Blk.new w 60 _).alloc _)
  have KC0 := Lib.hid (show Blk W0 (w.heap.size + 1) 60 [.int .i64 0, .slice none 0 0, .slice none 0 0, .bool false, .bool false, .int .i64 0, .slice none 0 0, .slice none 0 0] by rw [hW]; exact blk_at (by simp) 60 [_, _, _, _, _, _, _, _])
  have HC : Hid (∀ m, m < st.ws.length → ∃ gb off, zaw = some ⟨gb, off, none⟩ ∧ W0.cell? ⟨gb, off + m * 5, none⟩ = some (.int .i64 (st.ws.getD m wt0).tk)) := Lib.hid (fun m hm => by
    obtain ⟨gb, off, cap, hv, h1, h2, hgb, hcl, _⟩ := hr.open (by omega)
    injection hv with hv1 _ hv3
    exact ⟨gb, off, hv1, (rw_cells (w := W0) (fun j hj => (BB0.out.cell (p := ⟨gb, off + j, none⟩) hgb).trans (hcl j hj)) hm _ rfl).1⟩)
  have HV := Lib.hid hW
  have a0 : W0.cell? ⟨w.heap.size, 0, none⟩ = some (.int .i64 st.limit) := KA0.out.cell 0
  have a1 : W0.cell? ⟨w.heap.size, 1, none⟩ = some (.slice za0 st.q0.length zk0) := KA0.out.cell 1
  have a2 : W0.cell? ⟨w.heap.size, 2, none⟩ = some (.slice za1 st.q1.length zk1) := KA0.out.cell 2
  have a3 : W0.cell? ⟨w.heap.size, 3, none⟩ = some (.bool st.c0) := KA0.out.cell 3
  have a4 : W0.cell? ⟨w.heap.size, 4, none⟩ = some (.bool st.c1) := KA0.out.cell 4
  have a5 : W0.cell? ⟨w.heap.size, 5, none⟩ = some (.int .i64 st.tks) := KA0.out.cell 5
  have a6 : W0.cell? ⟨w.heap.size, 6, none⟩ = some (.slice zaw st.ws.length zkw) := KA0.out.cell 6
  have a7 : W0.cell? ⟨w.heap.size, 7, none⟩ = some (.slice zaa st.ans.length zka) := KA0.out.cell 7
  have c0 : W0.cell? ⟨w.heap.size + 1, 0, none⟩ = some (.int .i64 0) := KC0.out.cell 0
  have c1 : W0.cell? ⟨w.heap.size + 1, 1, none⟩ = some (.slice none 0 0) := KC0.out.cell 1
  have c2 : W0.cell? ⟨w.heap.size + 1, 2, none⟩ = some (.slice none 0 0) := KC0.out.cell 2
  have c3 : W0.cell? ⟨w.heap.size + 1, 3, none⟩ = some (.bool false) := KC0.out.cell 3
  have c4 : W0.cell? ⟨w.heap.size + 1, 4, none⟩ = some (.bool false) := KC0.out.cell 4
  have c5 : W0.cell? ⟨w.heap.size + 1, 5, none⟩ = some (.int .i64 0) := KC0.out.cell 5
  have c6 : W0.cell? ⟨w.heap.size + 1, 6, none⟩ = some (.slice none 0 0) := KC0.out.cell 6
  have c7 : W0.cell? ⟨w.heap.size + 1, 7, none⟩ = some (.slice none 0 0) := KC0.out.cell 7
  have fA := fun i => KA0.out.frozen i
  have fC := fun i => KC0.out.frozen i
  have C69 := Lib.hid (fun W (hb : Below w.heap.size w W) => rwithout_any i _ st hil (by omega) W (XW.out.below hb))
  have hGw : Gd N (without st i) := by
    have hl : (st.ws.eraseIdx i).length = st.ws.length - 1 := by rw [List.length_eraseIdx, if_pos hil]
    have hz := sizes_erase st.ws i hil
    have := hG.q; have := hG.a; have := hG.z
    exact ⟨by show st.q0.length + st.q1.length + (st.ws.eraseIdx i).length ≤ N; omega, by show st.ans.length + (st.ws.eraseIdx i).length ≤ N; omega, by show sizes st.q0 + sizes st.q1 + sizes ((st.ws.eraseIdx i).map (·.op.data)) ≤ 9000 * N; omega, hG.t0, hG.t1, fun y hy => hG.w y ((List.eraseIdx_sublist _ _).subset hy)⟩
  have C66 := Lib.hid (fun (S3 : Sl) W (h : Ref F W S3 (without st i)) => rsettle_any (N := N) (l := l) S3 (without st i) hGw (by omega) (hB.without i) W h)
  have HT := Lib.hid ht
  have HNO := Lib.hid hno
  clear hR hr hs hG hB hGw ht hno hW
  unfold rpV at *
  go_enter Try.func46, Try.ntmps46
  go_wp2_with fail
  rw [← HV.out]
  go_loopw [6] (fun k wr => ∃ m : Nat, m ≤ i ∧ k = .int .i64 m ∧ wr = W0) (fun k _ => i + 1 - (intOf k).toNat)
  case atStart => exact ⟨0, by omega, rfl, rfl⟩
  case round =>
    obtain ⟨m, hm, rfl, rfl⟩ := hrel
    obtain ⟨gb, off, rfl, hc⟩ := HC.out m (by omega)
    by_cases hlt : m < i
    · have hne : ((st.ws.getD m wt0).tk == t) = false := by rw [beq_eq_false_iff_ne]; exact HNO.out m hlt
      generalize (st.ws.getD m wt0).tk = tt at *
      go_wp2_with fail
      go_roundw
      case rel => exact ⟨m + 1, by omega, by go_num, trivial⟩
      case measure => simp [intOf]; omega
    · obtain rfl : m = i := by omega
      rw [HT.out] at hc
      go_wp2_with (first
        | (go_at_call 69; refine (C69.out _ BB0.out).mono ?_; rintro e v3 ⟨S3, he3, R3, hb⟩; obtain ⟨qa0, qk0, qa1, qk1, qaw, qkw, qaa, qka, rfl⟩ := R3.open; (try unfold rpV at he3); (try dsimp only at he3); subst he3; have HR3 := Lib.hid R3; have BB3 := Lib.hid (keepBelow BB0.out hb); have KC3 := Lib.hid (keepBlk hb KC0.out); clear hb R3)
        | (go_at_call 66; refine (C66.out ⟨.slice qa0 (without st m).q0.length qk0, .slice qa1 (without st m).q1.length qk1, .slice qaw (without st m).ws.length qkw, .slice qaa (without st m).ans.length qka⟩ _ HR3.out).mono ?_; rintro e v4 ⟨S4, he4, R4, hb⟩; obtain ⟨ta0, tk0, ta1, tk1, taw, tkw, taa, tka, rfl⟩ := R4.open; (try unfold rpV at he4); (try dsimp only at he4); subst he4; have HR4 := Lib.hid R4; have BB4 := Lib.hid (keepBelow BB3.out hb); have KC4 := Lib.hid (keepBlk hb KC3.out); have d40 : v4.cell? ⟨w.heap.size + 1, 0, none⟩ = some (.int .i64 0) := KC4.out.cell 0; have d41 : v4.cell? ⟨w.heap.size + 1, 1, none⟩ = some (.slice none 0 0) := KC4.out.cell 1; have d42 : v4.cell? ⟨w.heap.size + 1, 2, none⟩ = some (.slice none 0 0) := KC4.out.cell 2; have d43 : v4.cell? ⟨w.heap.size + 1, 3, none⟩ = some (.bool false) := KC4.out.cell 3; have d44 : v4.cell? ⟨w.heap.size + 1, 4, none⟩ = some (.bool false) := KC4.out.cell 4; have d45 : v4.cell? ⟨w.heap.size + 1, 5, none⟩ = some (.int .i64 0) := KC4.out.cell 5; have d46 : v4.cell? ⟨w.heap.size + 1, 6, none⟩ = some (.slice none 0 0) := KC4.out.cell 6; have d47 : v4.cell? ⟨w.heap.size + 1, 7, none⟩ = some (.slice none 0 0) := KC4.out.cell 7; have fC4 := fun i => KC4.out.frozen i; clear hb R4))
      obtain ⟨o1, o2, o3, o4⟩ := put8 KC4.out (.int .i64 (settle (without st m)).limit) (.slice ta0 (settle (without st m)).q0.length tk0) (.slice ta1 (settle (without st m)).q1.length tk1) (.bool (settle (without st m)).c0) (.bool (settle (without st m)).c1) (.int .i64 (settle (without st m)).tks) (.slice taw (settle (without st m)).ws.length tkw) (.slice taa (settle (without st m)).ans.length tka)
      have hb := o3 BB4.out (Nat.le_succ _)
      exact bodyPost_ret (res60_1 rfl _ _ (w.heap.size + 1) _ _ _ _ _ _ _ _ _ rfl rfl o1) rfl ⟨⟨.slice ta0 (settle (without st m)).q0.length tk0, .slice ta1 (settle (without st m)).q1.length tk1, .slice taw (settle (without st m)).ws.length tkw, .slice taa (settle (without st m)).ans.length tka⟩, rfl, ⟨o2 HR4.out.r0 (by decide), o2 HR4.out.r1 (by decide), o2 HR4.out.rw_ (by decide), o2 HR4.out.ra (by decide), HR4.out.o.to (o3 (Below.refl 0 _) (Nat.zero_le _)).size⟩, hb⟩
set_option maxRecDepth 100000 in
set_option maxHeartbeats 1600000 in
theorem rcancel_no (t : Int) (S : Sl) (st : St) (hs : Sm st) (hno : ∀ j, j < st.ws.length → (st.ws.getD j wt0).tk ≠ t) (w : World) (hR : Ref F w S st) :
    Calls Try.prog 46 #[rpV S st, .int .i64 t] w fun e w' => ∃ S', e = .returned (.tuple #[rpV S' st, .int .i64 4]) ∧ Ref F w' S' st ∧ Below w.heap.size w w' := by
  have hql : st.ws.length ≤ 100000 := by have := hs.q; omega
  have XW := Lib.hid hR
  obtain ⟨za0, zk0, za1, zk1, zaw, zkw, zaa, zka, rfl⟩ := hR.open
  have hr : Row w 120 5 (.slice zaw st.ws.length zkw) st.ws.length (rwsC st.ws) := hR.rw_
  have hkw : st.ws.length ≤ zkw ∧ zkw ≤ 9223372036854775807 := by
    obtain ⟨a, c, e, h1, h2⟩ := hr.form
    injection e with _ _ e3
    subst e3
    exact ⟨h1, h2⟩
  obtain ⟨hk1, hk2⟩ := hkw
  obtain ⟨W0, hW⟩ : ∃ W0, W0 = (w.alloc (.cells #[.int .i64 st.limit, .slice za0 st.q0.length zk0, .slice za1 st.q1.length zk1, .bool st.c0, .bool st.c1, .int .i64 st.tks, .slice zaw st.ws.length zkw, .slice zaa st.ans.length zka] 60)).alloc (.cells #[.int .i64 0, .slice none 0 0, .slice none 0 0, .bool false, .bool false, .int .i64 0, .slice none 0 0, .slice none 0 0] 60) := ⟨_, rfl⟩
  have BB0 := Lib.hid (show Below w.heap.size w W0 by rw [hW]; exact ((Below.refl _ _).alloc (Nat.le_refl _) _).alloc (by simp) _)
  have KA0 := Lib.hid (show Blk W0 (w.heap.size) 60 [.int .i64 st.limit, .slice za0 st.q0.length zk0, .slice za1 st.q1.length zk1, .bool st.c0, .bool st.c1, .int .i64 st.tks, .slice zaw st.ws.length zkw, .slice zaa st.ans.length zka] by rw [hW]; exact (Blk.new w 60 _).alloc _)
  have KC0 := Lib.hid (show Blk W0 (w.heap.size + 1) 60 [.int .i64 0, .slice none 0 0, .slice none 0 0, .bool false, .bool false, .int .i64 0, .slice none 0 0, .slice none 0 0] by rw [hW]; exact blk_at (by simp) 60 [_, _, _, _, _, _, _, _])
  have HC : Hid (∀ m, m < st.ws.length → ∃ gb off, zaw = some ⟨gb, off, none⟩ ∧ W0.cell? ⟨gb, off + m * 5, none⟩ = some (.int .i64 (st.ws.getD m wt0).tk)) := Lib.hid (fun m hm => by
    obtain ⟨gb, off, cap, hv, h1, h2, hgb, hcl, _⟩ := hr.open (by omega)
    injection hv with hv1 _ hv3
    exact ⟨gb, off, hv1, (rw_cells (w := W0) (fun j hj => (BB0.out.cell (p := ⟨gb, off + j, none⟩) hgb).trans (hcl j hj)) hm _ rfl).1⟩)
  have HV := Lib.hid hW
  have a0 : W0.cell? ⟨w.heap.size, 0, none⟩ = some (.int .i64 st.limit) := KA0.out.cell 0
  have a1 : W0.cell? ⟨w.heap.size, 1, none⟩ = some (.slice za0 st.q0.length zk0) := KA0.out.cell 1
  have a2 : W0.cell? ⟨w.heap.size, 2, none⟩ = some (.slice za1 st.q1.length zk1) := KA0.out.cell 2
  have a3 : W0.cell? ⟨w.heap.size, 3, none⟩ = some (.bool st.c0) := KA0.out.cell 3
  have a4 : W0.cell? ⟨w.heap.size, 4, none⟩ = some (.bool st.c1) := KA0.out.cell 4
  have a5 : W0.cell? ⟨w.heap.size, 5, none⟩ = some (.int .i64 st.tks) := KA0.out.cell 5
  have a6 : W0.cell? ⟨w.heap.size, 6, none⟩ = some (.slice zaw st.ws.length zkw) := KA0.out.cell 6
  have a7 : W0.cell? ⟨w.heap.size, 7, none⟩ = some (.slice zaa st.ans.length zka) := KA0.out.cell 7
  have c0 : W0.cell? ⟨w.heap.size + 1, 0, none⟩ = some (.int .i64 0) := KC0.out.cell 0
  have c1 : W0.cell? ⟨w.heap.size + 1, 1, none⟩ = some (.slice none 0 0) := KC0.out.cell 1
  have c2 : W0.cell? ⟨w.heap.size + 1, 2, none⟩ = some (.slice none 0 0) := KC0.out.cell 2
  have c3 : W0.cell? ⟨w.heap.size + 1, 3, none⟩ = some (.bool false) := KC0.out.cell 3
  have c4 : W0.cell? ⟨w.heap.size + 1, 4, none⟩ = some (.bool false) := KC0.out.cell 4
  have c5 : W0.cell? ⟨w.heap.size + 1, 5, none⟩ = some (.int .i64 0) := KC0.out.cell 5
  have c6 : W0.cell? ⟨w.heap.size + 1, 6, none⟩ = some (.slice none 0 0) := KC0.out.cell 6
  have c7 : W0.cell? ⟨w.heap.size + 1, 7, none⟩ = some (.slice none 0 0) := KC0.out.cell 7
  have fA := fun i => KA0.out.frozen i
  have fC := fun i => KC0.out.frozen i
  have HNO := Lib.hid hno
  clear hR hr hs hno hW
  unfold rpV at *
  go_enter Try.func46, Try.ntmps46
  go_wp2_with fail
  rw [← HV.out]
  go_loopw [6] (fun k wr => ∃ m : Nat, m ≤ st.ws.length ∧ k = .int .i64 m ∧ wr = W0) (fun k _ => st.ws.length - (intOf k).toNat)
  case atStart => exact ⟨0, by omega, rfl, rfl⟩
  case round =>
    obtain ⟨m, hm, rfl, rfl⟩ := hrel
    by_cases hlt : m < st.ws.length
    · obtain ⟨gb, off, rfl, hc⟩ := HC.out m hlt
      have hne : ((st.ws.getD m wt0).tk == t) = false := by rw [beq_eq_false_iff_ne]; exact HNO.out m hlt
      generalize (st.ws.getD m wt0).tk = tt at *
      go_wp2_with fail
      go_roundw
      case rel => exact ⟨m + 1, by omega, by go_num, trivial⟩
      case measure => simp [intOf]; omega
    · have hge : ¬ (m : Int) < (st.ws.length : Int) := by omega
      go_wp2_with fail
      obtain ⟨o1, o2, o3, o4⟩ := put8 KC0.out (.int .i64 st.limit) (.slice za0 st.q0.length zk0) (.slice za1 st.q1.length zk1) (.bool st.c0) (.bool st.c1) (.int .i64 st.tks) (.slice zaw st.ws.length zkw) (.slice zaa st.ans.length zka)
      have hb := o3 BB0.out (Nat.le_succ _)
      exact bodyPost_ret (res60_1 rfl _ _ (w.heap.size + 1) _ _ _ _ _ _ _ _ _ rfl rfl o1) rfl ⟨⟨.slice za0 st.q0.length zk0, .slice za1 st.q1.length zk1, .slice zaw st.ws.length zkw, .slice zaa st.ans.length zka⟩, rfl, XW.out.below hb, hb⟩
/-- no two who wait have one ticket -/
def Uq (st : St) : Prop := st.ws.Pairwise fun a b => a.tk ≠ b.tk
theorem keepT_erase {t : Int} : ∀ {l : List Wt} {i : Nat}, l.Pairwise (fun a b => a.tk ≠ b.tk) → i < l.length → (l.getD i wt0).tk = t → keepT t l = l.eraseIdx i := by
  intro l
  induction l with
  | nil => intro i _ hi; simp at hi
  | cons a l ih =>
    intro i hp hi ht
    rw [List.pairwise_cons] at hp
    cases i with
    | zero =>
      have ha : a.tk = t := ht
      have hf : keepT t l = l := List.filter_eq_self.2 fun y hy => by
        have := hp.1 y hy
        unfold tkB
        rw [Bool.not_eq_true', beq_eq_false_iff_ne]
        exact fun e => this (by rw [ha, e])
      show (a :: l).filter _ = l
      rw [List.filter_cons, if_neg (by unfold tkB; rw [ha]; simp)]
      exact hf
    | succ i =>
      have hi' : i < l.length := by simpa using hi
      have hne : a.tk ≠ t := by
        have hm := hp.1 (l.getD i wt0) (getD_mem hi')
        have ht' : (l.getD i wt0).tk = t := ht
        rwa [ht'] at hm
      show (a :: l).filter _ = a :: l.eraseIdx i
      rw [List.filter_cons, if_pos (by unfold tkB; rw [Bool.not_eq_true', beq_eq_false_iff_ne]; exact hne)]
      congr 1
      exact ih hp.2 hi' ht
theorem rcancel_any (t : Int) {N : Nat} {l : Int} (S : Sl) (st : St) (hG : Gd N st) (hN : N ≤ 890) (hB : Bi l st) (hU : Uq st) (w : World) (hR : Ref F w S st) :
    Calls Try.prog 46 #[rpV S st, .int .i64 t] w fun e w' => ∃ S', e = .returned (.tuple #[rpV S' (cancelR st t).1, .int .i64 (cancelR st t).2]) ∧ Ref F w' S' (cancelR st t).1 ∧ Below w.heap.size w w' := by
  have hs : Sm st := hG.sm (by omega)
  unfold cancelR
  cases hf : st.ws.findIdx? (tkB t) with
  | none =>
    rw [List.findIdx?_eq_none_iff] at hf
    have hk : keepT t st.ws = st.ws := List.filter_eq_self.2 fun y hy => by rw [hf y hy]; rfl
    rw [hk, if_pos rfl]
    exact rcancel_no t S st hs (fun j hj e => by
      have := hf _ (getD_mem hj)
      unfold tkB at this
      rw [e] at this
      simp at this) w hR
  | some i =>
    rw [List.findIdx?_eq_some_iff_getElem] at hf
    obtain ⟨hi, hp, hno⟩ := hf
    have ht : (st.ws.getD i wt0).tk = t := by
      rw [List.getD_eq_getElem?_getD, List.getElem?_eq_getElem hi]
      simpa [tkB] using hp
    have hk := keepT_erase hU hi ht
    have hl : (keepT t st.ws).length ≠ st.ws.length := by rw [hk, List.length_eraseIdx, if_pos hi]; omega
    rw [if_neg hl]
    have hd : dropT st t = without st i := by unfold dropT without; rw [hk]
    rw [hd]
    exact rcancel_hit t S st hs hG hN hB i hi ht (fun j hj e => by
      have := hno j hj
      rw [List.getD_eq_getElem?_getD, List.getElem?_eq_getElem (by omega)] at e
      simp only [Option.getD_some] at e
      unfold tkB at this
      rw [e] at this
      simp at this) w hR
end Go.Proofs.Ytmnlojbfdpjjdaa
