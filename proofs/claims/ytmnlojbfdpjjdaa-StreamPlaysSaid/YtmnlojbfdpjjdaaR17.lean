/- The reference: Close. -/
import Derived.Test.YtmnlojbfdpjjdaaR16
import Derived.Test.YtmnlojbfdpjjdaaV0
namespace Go.Proofs.Ytmnlojbfdpjjdaa
open Go.RowKit
variable {F : Nat → Prop}
theorem closeM_next (st : St) (a : Int) (m : Nat) (hm : m < st.ws.length) : answered (closeM st a m) ⟨(st.ws.getD m wt0).tk, 0, ⟨#[]⟩, 28⟩ = closeM st a (m + 1) := by
  show (⟨(closeM st a (m + 1)).q0, (closeM st a (m + 1)).q1, (closeM st a (m + 1)).c0, (closeM st a (m + 1)).c1, st.limit, st.tks, st.ws, (closeM st a m).ans ++ [cutA (st.ws.getD m wt0)]⟩ : St) = closeM st a (m + 1)
  rw [← closeM_succ st a m hm]
  rfl
theorem rans_cut (a : Int) (st : St) (hs : st.ans.length + st.ws.length ≤ 100000) (m : Nat) (hm : m < st.ws.length) (S : Sl) (w : World) (hR : Ref F w S (closeM st a m)) :
    Calls Try.prog 68 #[rpV S (closeM st a m), .agg #[.int .i64 (st.ws.getD m wt0).tk, .int .i64 0, .string ⟨#[]⟩, .int .i64 28]] w fun e w' => ∃ S', e = .returned (rpV S' (closeM st a (m + 1))) ∧ Ref F w' S' (closeM st a (m + 1)) ∧ Below w.heap.size w w' := by
  have h := ranswered_any (st.ws.getD m wt0).tk 0 28 ⟨#[]⟩ S (closeM st a m) (by have := closeM_len st a m; omega) w hR
  rw [closeM_next st a m hm] at h
  exact h
set_option maxRecDepth 100000 in
set_option maxHeartbeats 1600000 in
theorem rclose_no (a : Int) (S : Sl) (st : St) (ho : openE st a ≠ 0) (w : World) (hR : Ref F w S st) :
    Calls Try.prog 48 #[rpV S st, .int .i64 a] w fun e w' => ∃ S', e = .returned (.tuple #[rpV S' st, .int .i64 (openE st a)]) ∧ Ref F w' S' st ∧ Below w.heap.size w w' := by
    have C70 := Lib.hid (fun W (hb : Below w.heap.size w W) => rend_any a S st W (hR.below hb))
    have XW := Lib.hid hR
    obtain ⟨za0, zk0, za1, zk1, zaw, zkw, zaa, zka, rfl⟩ := hR.open
    have hne : (openE st a != 0) = true := by rw [bne_iff_ne]; exact ho
    clear hR ho
    generalize openE st a = oe at *
    unfold rpV at *
    have BB0 := Lib.hid (show Below w.heap.size w ((w.alloc (.cells #[.int .i64 st.limit, .slice za0 st.q0.length zk0, .slice za1 st.q1.length zk1, .bool st.c0, .bool st.c1, .int .i64 st.tks, .slice zaw st.ws.length zkw, .slice zaa st.ans.length zka] 60)).alloc (.cells #[.int .i64 0, .slice none 0 0, .slice none 0 0, .bool false, .bool false, .int .i64 0, .slice none 0 0, .slice none 0 0] 60)) from ((Below.refl _ _).alloc (Nat.le_refl _) _).alloc (by simp) _)
    have KA0 := Lib.hid (show Blk ((w.alloc (.cells #[.int .i64 st.limit, .slice za0 st.q0.length zk0, .slice za1 st.q1.length zk1, .bool st.c0, .bool st.c1, .int .i64 st.tks, .slice zaw st.ws.length zkw, .slice zaa st.ans.length zka] 60)).alloc (.cells #[.int .i64 0, .slice none 0 0, .slice none 0 0, .bool false, .bool false, .int .i64 0, .slice none 0 0, .slice none 0 0] 60)) (w.heap.size) 60 [.int .i64 st.limit, .slice za0 st.q0.length zk0, .slice za1 st.q1.length zk1, .bool st.c0, .bool st.c1, .int .i64 st.tks, .slice zaw st.ws.length zkw, .slice zaa st.ans.length zka] from (Blk.new w 60 _).alloc _)
    have KC0 := Lib.hid (show Blk ((w.alloc (.cells #[.int .i64 st.limit, .slice za0 st.q0.length zk0, .slice za1 st.q1.length zk1, .bool st.c0, .bool st.c1, .int .i64 st.tks, .slice zaw st.ws.length zkw, .slice zaa st.ans.length zka] 60)).alloc (.cells #[.int .i64 0, .slice none 0 0, .slice none 0 0, .bool false, .bool false, .int .i64 0, .slice none 0 0, .slice none 0 0] 60)) (w.heap.size + 1) 60 [.int .i64 0, .slice none 0 0, .slice none 0 0, .bool false, .bool false, .int .i64 0, .slice none 0 0, .slice none 0 0] from blk_at (by simp) 60 [_, _, _, _, _, _, _, _])
    go_enter Try.func48, Try.ntmps48
    go_wp2_with (go_at_call 70; refine (C70.out _ BB0.out).mono ?_; rintro e v1 ⟨rfl, hb⟩; have BB1 := Lib.hid (keepBelow BB0.out hb); have KA1 := Lib.hid (keepBlk hb KA0.out); have a10 : v1.cell? ⟨w.heap.size, 0, none⟩ = some (.int .i64 st.limit) := KA1.out.cell 0; have a11 : v1.cell? ⟨w.heap.size, 1, none⟩ = some (.slice za0 st.q0.length zk0) := KA1.out.cell 1; have a12 : v1.cell? ⟨w.heap.size, 2, none⟩ = some (.slice za1 st.q1.length zk1) := KA1.out.cell 2; have a13 : v1.cell? ⟨w.heap.size, 3, none⟩ = some (.bool st.c0) := KA1.out.cell 3; have a14 : v1.cell? ⟨w.heap.size, 4, none⟩ = some (.bool st.c1) := KA1.out.cell 4; have a15 : v1.cell? ⟨w.heap.size, 5, none⟩ = some (.int .i64 st.tks) := KA1.out.cell 5; have a16 : v1.cell? ⟨w.heap.size, 6, none⟩ = some (.slice zaw st.ws.length zkw) := KA1.out.cell 6; have a17 : v1.cell? ⟨w.heap.size, 7, none⟩ = some (.slice zaa st.ans.length zka) := KA1.out.cell 7; have KC1 := Lib.hid (keepBlk hb KC0.out); have c10 : v1.cell? ⟨w.heap.size + 1, 0, none⟩ = some (.int .i64 0) := KC1.out.cell 0; have c11 : v1.cell? ⟨w.heap.size + 1, 1, none⟩ = some (.slice none 0 0) := KC1.out.cell 1; have c12 : v1.cell? ⟨w.heap.size + 1, 2, none⟩ = some (.slice none 0 0) := KC1.out.cell 2; have c13 : v1.cell? ⟨w.heap.size + 1, 3, none⟩ = some (.bool false) := KC1.out.cell 3; have c14 : v1.cell? ⟨w.heap.size + 1, 4, none⟩ = some (.bool false) := KC1.out.cell 4; have c15 : v1.cell? ⟨w.heap.size + 1, 5, none⟩ = some (.int .i64 0) := KC1.out.cell 5; have c16 : v1.cell? ⟨w.heap.size + 1, 6, none⟩ = some (.slice none 0 0) := KC1.out.cell 6; have c17 : v1.cell? ⟨w.heap.size + 1, 7, none⟩ = some (.slice none 0 0) := KC1.out.cell 7; have fA1 := fun i => KA1.out.frozen i; have fC1 := fun i => KC1.out.frozen i; clear hb)
    obtain ⟨o1, o2, o3, o4⟩ := put8 KC1.out (.int .i64 st.limit) (.slice za0 st.q0.length zk0) (.slice za1 st.q1.length zk1) (.bool st.c0) (.bool st.c1) (.int .i64 st.tks) (.slice zaw st.ws.length zkw) (.slice zaa st.ans.length zka)
    have hb := o3 BB1.out (Nat.le_succ _)
    exact bodyPost_ret (res60_1 rfl _ _ (w.heap.size + 1) _ _ _ _ _ _ _ _ _ rfl rfl o1) rfl ⟨⟨.slice za0 st.q0.length zk0, .slice za1 st.q1.length zk1, .slice zaw st.ws.length zkw, .slice zaa st.ans.length zka⟩, rfl, XW.out.below hb, hb⟩
set_option maxRecDepth 100000 in
set_option maxHeartbeats 3200000 in
theorem rclose_0 (S : Sl) (st : St) (hs : st.ans.length + st.ws.length ≤ 100000) (ho : st.c0 = false) (w : World) (hR : Ref F w S st) :
    Calls Try.prog 48 #[rpV S st, .int .i64 0] w fun e w' => ∃ S', e = .returned (.tuple #[rpV S' (closeS st 0), .int .i64 0]) ∧ Ref F w' S' (closeS st 0) ∧ Below w.heap.size w w' := by
    have C70 := Lib.hid (fun W (hb : Below w.heap.size w W) => rend_any 0 S st W (hR.below hb))
    have ho2 : openE st 0 = 0 := by unfold openE; simp [ho]
    rw [ho2] at C70
    have C68 := Lib.hid (rans_cut (F := F) 0 st hs)
    have XW := Lib.hid hR
    obtain ⟨za0, zk0, za1, zk1, zaw, zkw, zaa, zka, rfl⟩ := hR.open
    clear hR ho ho2
    unfold rpV at *
    have BB0 := Lib.hid (show Below w.heap.size w ((w.alloc (.cells #[.int .i64 st.limit, .slice za0 st.q0.length zk0, .slice za1 st.q1.length zk1, .bool st.c0, .bool st.c1, .int .i64 st.tks, .slice zaw st.ws.length zkw, .slice zaa st.ans.length zka] 60)).alloc (.cells #[.int .i64 0, .slice none 0 0, .slice none 0 0, .bool false, .bool false, .int .i64 0, .slice none 0 0, .slice none 0 0] 60)) from ((Below.refl _ _).alloc (Nat.le_refl _) _).alloc (by simp) _)
    have KA0 := Lib.hid (show Blk ((w.alloc (.cells #[.int .i64 st.limit, .slice za0 st.q0.length zk0, .slice za1 st.q1.length zk1, .bool st.c0, .bool st.c1, .int .i64 st.tks, .slice zaw st.ws.length zkw, .slice zaa st.ans.length zka] 60)).alloc (.cells #[.int .i64 0, .slice none 0 0, .slice none 0 0, .bool false, .bool false, .int .i64 0, .slice none 0 0, .slice none 0 0] 60)) (w.heap.size) 60 [.int .i64 st.limit, .slice za0 st.q0.length zk0, .slice za1 st.q1.length zk1, .bool st.c0, .bool st.c1, .int .i64 st.tks, .slice zaw st.ws.length zkw, .slice zaa st.ans.length zka] from (Blk.new w 60 _).alloc _)
    have KC0 := Lib.hid (show Blk ((w.alloc (.cells #[.int .i64 st.limit, .slice za0 st.q0.length zk0, .slice za1 st.q1.length zk1, .bool st.c0, .bool st.c1, .int .i64 st.tks, .slice zaw st.ws.length zkw, .slice zaa st.ans.length zka] 60)).alloc (.cells #[.int .i64 0, .slice none 0 0, .slice none 0 0, .bool false, .bool false, .int .i64 0, .slice none 0 0, .slice none 0 0] 60)) (w.heap.size + 1) 60 [.int .i64 0, .slice none 0 0, .slice none 0 0, .bool false, .bool false, .int .i64 0, .slice none 0 0, .slice none 0 0] from blk_at (by simp) 60 [_, _, _, _, _, _, _, _])
    go_enter Try.func48, Try.ntmps48
    go_wp2_with (go_at_call 70; refine (C70.out _ BB0.out).mono ?_; rintro e v1 ⟨rfl, hb⟩; have BB1 := Lib.hid (keepBelow BB0.out hb); have KA1 := Lib.hid (keepBlk hb KA0.out); have a10 : v1.cell? ⟨w.heap.size, 0, none⟩ = some (.int .i64 st.limit) := KA1.out.cell 0; have a11 : v1.cell? ⟨w.heap.size, 1, none⟩ = some (.slice za0 st.q0.length zk0) := KA1.out.cell 1; have a12 : v1.cell? ⟨w.heap.size, 2, none⟩ = some (.slice za1 st.q1.length zk1) := KA1.out.cell 2; have a13 : v1.cell? ⟨w.heap.size, 3, none⟩ = some (.bool st.c0) := KA1.out.cell 3; have a14 : v1.cell? ⟨w.heap.size, 4, none⟩ = some (.bool st.c1) := KA1.out.cell 4; have a15 : v1.cell? ⟨w.heap.size, 5, none⟩ = some (.int .i64 st.tks) := KA1.out.cell 5; have a16 : v1.cell? ⟨w.heap.size, 6, none⟩ = some (.slice zaw st.ws.length zkw) := KA1.out.cell 6; have a17 : v1.cell? ⟨w.heap.size, 7, none⟩ = some (.slice zaa st.ans.length zka) := KA1.out.cell 7; have KC1 := Lib.hid (keepBlk hb KC0.out); have c10 : v1.cell? ⟨w.heap.size + 1, 0, none⟩ = some (.int .i64 0) := KC1.out.cell 0; have c11 : v1.cell? ⟨w.heap.size + 1, 1, none⟩ = some (.slice none 0 0) := KC1.out.cell 1; have c12 : v1.cell? ⟨w.heap.size + 1, 2, none⟩ = some (.slice none 0 0) := KC1.out.cell 2; have c13 : v1.cell? ⟨w.heap.size + 1, 3, none⟩ = some (.bool false) := KC1.out.cell 3; have c14 : v1.cell? ⟨w.heap.size + 1, 4, none⟩ = some (.bool false) := KC1.out.cell 4; have c15 : v1.cell? ⟨w.heap.size + 1, 5, none⟩ = some (.int .i64 0) := KC1.out.cell 5; have c16 : v1.cell? ⟨w.heap.size + 1, 6, none⟩ = some (.slice none 0 0) := KC1.out.cell 6; have c17 : v1.cell? ⟨w.heap.size + 1, 7, none⟩ = some (.slice none 0 0) := KC1.out.cell 7; have fA1 := fun i => KA1.out.frozen i; have fC1 := fun i => KC1.out.frozen i; clear hb)
    obtain ⟨W2, hW2⟩ : ∃ W2, W2 = (v1.setCell ⟨w.heap.size, 3, none⟩ (.bool true)).setCell ⟨w.heap.size, 1, none⟩ (.slice none 0 0) := ⟨_, rfl⟩
    have B2 := Lib.hid (show Below w.heap.size w W2 by rw [hW2]; exact (BB1.out.setCell (p := ⟨w.heap.size, 3, none⟩) (Nat.le_refl _) _).setCell (p := ⟨w.heap.size, 1, none⟩) (Nat.le_refl _) _)
    have K2 := Lib.hid (show Blk W2 (w.heap.size) 60 [.int .i64 st.limit, .slice none 0 0, .slice za1 st.q1.length zk1, .bool true, .bool st.c1, .int .i64 st.tks, .slice zaw st.ws.length zkw, .slice zaa st.ans.length zka] by rw [hW2]; exact (KA1.out.set_ 3 _).set_ 1 _)
    have L2 := Lib.hid (show Blk W2 (w.heap.size + 1) 60 [.int .i64 0, .slice none 0 0, .slice none 0 0, .bool false, .bool false, .int .i64 0, .slice none 0 0, .slice none 0 0] by rw [hW2]; exact (KC1.out.far (Nat.succ_ne_self _) _).far (Nat.succ_ne_self _) _)
    have R2 := Lib.hid (show Ref F W2 ⟨.slice none 0 0, .slice za1 st.q1.length zk1, .slice zaw st.ws.length zkw, .slice zaa st.ans.length zka⟩ (closeM st 0 0) from ⟨Row.nil _ _ _, (XW.out.below B2.out).r1, (XW.out.below B2.out).rw_, by have h := (XW.out.below B2.out).ra; unfold closeM; simp only [List.take_zero, List.map_nil, List.append_nil]; exact h, (XW.out.below B2.out).o.nil0⟩)
    have HW2 := Lib.hid hW2
    clear hW2 KA1 KC1 BB1 KA0 KC0 BB0 C70 XW
    go_loopw [7] (fun i wr => ∃ (m : Nat) (S' : Sl) (u : St), m ≤ st.ws.length ∧ i = .int .i64 m ∧ u = closeM st 0 m ∧ Blk wr (w.heap.size) 60 (rpC S' u) ∧ Blk wr (w.heap.size + 1) 60 [.int .i64 0, .slice none 0 0, .slice none 0 0, .bool false, .bool false, .int .i64 0, .slice none 0 0, .slice none 0 0] ∧ Ref F wr S' u ∧ Below w.heap.size w wr) (fun i _ => st.ws.length - (intOf i).toNat)
    case atStart => (try rw [← HW2.out]); exact ⟨0, ⟨.slice none 0 0, .slice za1 st.q1.length zk1, .slice zaw st.ws.length zkw, .slice zaa st.ans.length zka⟩, _, Nat.zero_le _, rfl, rfl, K2.out, L2.out, R2.out, B2.out⟩
    case round =>
      obtain ⟨m, S', u, hm, rfl, hu, hKA, hKC, hRR, hBR⟩ := hrel
      obtain ⟨pa0, pk0, pa1, pk1, paw, pkw, paa, pka, rfl⟩ := hRR.open
      have hul : u.ws.length = st.ws.length := by rw [hu]; rfl
      have KC := Lib.hid hKC
      have BR := Lib.hid hBR
      have MR0 := Lib.hid hRR
      unfold rpC at hKA
      by_cases hlt : m < st.ws.length
      · obtain ⟨gb, off, cap, hv, h1, h2, hgb, hcl, _⟩ := hRR.rw_.open (by rw [hul]; omega)
        injection hv with hv1 _ hv3
        subst hv1
        have HTK0 := Lib.hid (rw_cells (w := wr) (l := u.ws) hcl (by rw [hul]; exact hlt) _ rfl).1
        have hmu : (m : Int) < (u.ws.length : Int) := by omega
        have hk1 : m < u.ws.length := by omega
        have hk2 : u.ws.length ≤ pkw := by rw [← hv3] at h1; exact h1
        have hk3 : pkw ≤ 9223372036854775807 := by rw [← hv3] at h2; exact h2
        have HGB : Hid (gb < wr.heap.size) := Lib.hid hgb
        have KA := Lib.hid hKA
        have htk : (u.ws.getD m wt0).tk = (st.ws.getD m wt0).tk := by rw [hu]; rfl
        have HTK : Hid (wr.cell? ⟨gb, off + m * 5, none⟩ = some (.int .i64 (st.ws.getD m wt0).tk)) := Lib.hid (by rw [← htk]; exact HTK0.out)
        have htk2 := HTK.out
        have MR : Hid (Ref F wr ⟨.slice pa0 u.q0.length pk0, .slice pa1 u.q1.length pk1, .slice (some ⟨gb, off, none⟩) u.ws.length pkw, .slice paa u.ans.length pka⟩ u) := MR0
        have hc68 := C68.out m hlt
        rw [← hu] at hc68
        have HC68 := Lib.hid hc68
        clear hc68
        generalize (st.ws.getD m wt0).tk = tk at *
        have d0 : wr.cell? ⟨w.heap.size, 0, none⟩ = some (.int .i64 u.limit) := KA.out.cell 0
        have d1 : wr.cell? ⟨w.heap.size, 1, none⟩ = some (.slice pa0 u.q0.length pk0) := KA.out.cell 1
        have d2 : wr.cell? ⟨w.heap.size, 2, none⟩ = some (.slice pa1 u.q1.length pk1) := KA.out.cell 2
        have d3 : wr.cell? ⟨w.heap.size, 3, none⟩ = some (.bool u.c0) := KA.out.cell 3
        have d4 : wr.cell? ⟨w.heap.size, 4, none⟩ = some (.bool u.c1) := KA.out.cell 4
        have d5 : wr.cell? ⟨w.heap.size, 5, none⟩ = some (.int .i64 u.tks) := KA.out.cell 5
        have d6 : wr.cell? ⟨w.heap.size, 6, none⟩ = some (.slice (some ⟨gb, off, none⟩) u.ws.length pkw) := KA.out.cell 6
        have d7 : wr.cell? ⟨w.heap.size, 7, none⟩ = some (.slice paa u.ans.length pka) := KA.out.cell 7
        have HU := Lib.hid hu
        clear hu h1 h2 hv3 hgb hcl hKA hKC hRR hBR hul htk HTK0
        go_wp2_with fail
        have SB := Lib.hid (show ∀ W, Below wr.heap.size wr W → (fun W => W.cell? ⟨w.heap.size, 0, none⟩ = some (.int .i64 u.limit) ∧ W.cell? ⟨w.heap.size, 1, none⟩ = some (.slice pa0 u.q0.length pk0) ∧ W.cell? ⟨w.heap.size, 2, none⟩ = some (.slice pa1 u.q1.length pk1) ∧ W.cell? ⟨w.heap.size, 3, none⟩ = some (.bool u.c0) ∧ W.cell? ⟨w.heap.size, 4, none⟩ = some (.bool u.c1) ∧ W.cell? ⟨w.heap.size, 5, none⟩ = some (.int .i64 u.tks) ∧ W.cell? ⟨w.heap.size, 6, none⟩ = some (.slice (some ⟨gb, off, none⟩) u.ws.length pkw) ∧ W.cell? ⟨w.heap.size, 7, none⟩ = some (.slice paa u.ans.length pka) ∧ W.cell? ⟨gb, off + m * 5, none⟩ = some (.int .i64 tk)) W from fun W hb => ⟨(keepBlk hb KA.out).cell 0, (keepBlk hb KA.out).cell 1, (keepBlk hb KA.out).cell 2, (keepBlk hb KA.out).cell 3, (keepBlk hb KA.out).cell 4, (keepBlk hb KA.out).cell 5, (keepBlk hb KA.out).cell 6, (keepBlk hb KA.out).cell 7, (hb.cell (p := ⟨gb, off + m * 5, none⟩) HGB.out).trans HTK.out⟩)
        refine wp_region_x (fun W => W.cell? ⟨w.heap.size, 0, none⟩ = some (.int .i64 u.limit) ∧ W.cell? ⟨w.heap.size, 1, none⟩ = some (.slice pa0 u.q0.length pk0) ∧ W.cell? ⟨w.heap.size, 2, none⟩ = some (.slice pa1 u.q1.length pk1) ∧ W.cell? ⟨w.heap.size, 3, none⟩ = some (.bool u.c0) ∧ W.cell? ⟨w.heap.size, 4, none⟩ = some (.bool u.c1) ∧ W.cell? ⟨w.heap.size, 5, none⟩ = some (.int .i64 u.tks) ∧ W.cell? ⟨w.heap.size, 6, none⟩ = some (.slice (some ⟨gb, off, none⟩) u.ws.length pkw) ∧ W.cell? ⟨w.heap.size, 7, none⟩ = some (.slice paa u.ans.length pka) ∧ W.cell? ⟨gb, off + m * 5, none⟩ = some (.int .i64 tk)) 9 (by kernel_rfl) ?_
        have hHeld := Lib.hid (show (fun W => W.cell? ⟨w.heap.size, 0, none⟩ = some (.int .i64 u.limit) ∧ W.cell? ⟨w.heap.size, 1, none⟩ = some (.slice pa0 u.q0.length pk0) ∧ W.cell? ⟨w.heap.size, 2, none⟩ = some (.slice pa1 u.q1.length pk1) ∧ W.cell? ⟨w.heap.size, 3, none⟩ = some (.bool u.c0) ∧ W.cell? ⟨w.heap.size, 4, none⟩ = some (.bool u.c1) ∧ W.cell? ⟨w.heap.size, 5, none⟩ = some (.int .i64 u.tks) ∧ W.cell? ⟨w.heap.size, 6, none⟩ = some (.slice (some ⟨gb, off, none⟩) u.ws.length pkw) ∧ W.cell? ⟨w.heap.size, 7, none⟩ = some (.slice paa u.ans.length pka) ∧ W.cell? ⟨gb, off + m * 5, none⟩ = some (.int .i64 tk)) wr.drew from SB.out _ (Below.refl _ _).drew)
        refine wpAnyX_take (i := 1) (v := ?vv1) op1 (by kernel_rfl) (by kernel_rfl) (by kernel_rfl) (by kernel_rfl) (by kernel_rfl) (fun _ _ _ h => h) (Or.inl ⟨by rfl, ?hy1⟩) (hHeld.out) ?rest1
        case hy1 => intro w hSw; (try dsimp only at hSw); go_simp; (try with_reducible rfl)
        (try simp only [Act.put, List.setIfInBounds_toArray, List.set_cons_zero, List.set_cons_succ])
        refine wpAnyX_take (i := 3) (v := ?vv2) op3 (by kernel_rfl) (by kernel_rfl) (by kernel_rfl) (by kernel_rfl) (by kernel_rfl) (fun _ _ _ h => h) (Or.inl ⟨by rfl, ?hy2⟩) (hHeld.out) ?rest2
        case hy2 => intro w hSw; (try dsimp only at hSw); go_simp; (try with_reducible rfl)
        (try simp only [Act.put, List.setIfInBounds_toArray, List.set_cons_zero, List.set_cons_succ])
        refine wpAnyX_take (i := 0) (v := ?vv3) op0 (by kernel_rfl) (by kernel_rfl) (by kernel_rfl) (by kernel_rfl) (by kernel_rfl) (fun _ _ _ h => h) (Or.inl ⟨by rfl, ?hy3⟩) (hHeld.out) ?rest3
        case hy3 => intro w hSw; (try dsimp only at hSw); go_simp; (try with_reducible rfl)
        (try simp only [Act.put, List.setIfInBounds_toArray, List.set_cons_zero, List.set_cons_succ])
        refine wpAnyX_take (i := 2) (v := ?vv4) op2 (by kernel_rfl) (by kernel_rfl) (by kernel_rfl) (by kernel_rfl) (by kernel_rfl) (fun _ _ _ h => h) (Or.inl ⟨by rfl, ?hy4⟩) (hHeld.out) ?rest4
        case hy4 => intro w hSw; (try dsimp only at hSw); go_simp; (try with_reducible rfl)
        (try simp only [Act.put, List.setIfInBounds_toArray, List.set_cons_zero, List.set_cons_succ])
        refine wpAnyX_take (i := 4) (v := ?vv5) op4 (by kernel_rfl) (by kernel_rfl) (by kernel_rfl) (by kernel_rfl) (by kernel_rfl) (fun _ _ _ h => h) (Or.inl ⟨by rfl, ?hy5⟩) (hHeld.out) ?rest5
        case hy5 => intro w hSw; (try dsimp only at hSw); go_simp; (try with_reducible rfl)
        (try simp only [Act.put, List.setIfInBounds_toArray, List.set_cons_zero, List.set_cons_succ])
        refine wpAnyX_take (i := 5) (v := ?vv6) op5 (by kernel_rfl) (by kernel_rfl) (by kernel_rfl) (by kernel_rfl) (by kernel_rfl) (fun _ _ _ h => h) (Or.inl ⟨by rfl, ?hy6⟩) (hHeld.out) ?rest6
        case hy6 => intro w hSw; (try dsimp only at hSw); go_simp; (try with_reducible rfl)
        (try simp only [Act.put, List.setIfInBounds_toArray, List.set_cons_zero, List.set_cons_succ])
        refine wpAnyX_take (i := 6) (v := ?vv7) op6 (by kernel_rfl) (by kernel_rfl) (by kernel_rfl) (by kernel_rfl) (by kernel_rfl) (fun _ _ _ h => h) (Or.inl ⟨by rfl, ?hy7⟩) (hHeld.out) ?rest7
        case hy7 => intro w hSw; (try dsimp only at hSw); go_simp; (try with_reducible rfl)
        (try simp only [Act.put, List.setIfInBounds_toArray, List.set_cons_zero, List.set_cons_succ])
        refine wpAnyX_take (i := 7) (v := ?vv8) op7 (by kernel_rfl) (by kernel_rfl) (by kernel_rfl) (by kernel_rfl) (by kernel_rfl) (fun _ _ _ h => h) (Or.inl ⟨by rfl, ?hy8⟩) (hHeld.out) ?rest8
        case hy8 => intro w hSw; (try dsimp only at hSw); go_simp; (try with_reducible rfl)
        (try simp only [Act.put, List.setIfInBounds_toArray, List.set_cons_zero, List.set_cons_succ])
        refine wpAnyX_ready [8] (by kernel_rfl) (by simp) ?_
        refine AllX.cons op8 (fun K hK => ?_) AllX.nil
        · go_simp; go_at_call 68; refine (HC68.out _ _ MR.out.drew).mono ?_; rintro e v3 ⟨S3, he3, R3, hb⟩; obtain ⟨ta0, tk0, ta1, tk1, taw, tkw, taa, tka, rfl⟩ := R3.open; (try unfold rpV at he3); (try dsimp only at he3); subst he3; have HR3 := Lib.hid R3; have HB3 := Lib.hid (show Below wr.heap.size wr v3 from ⟨hb.os, hb.tape, hb.output, hb.size, hb.block⟩); clear hb R3; have K3A := Lib.hid (keepBlk HB3.out KA.out); have x0 : v3.cell? ⟨w.heap.size, 0, none⟩ = some (.int .i64 u.limit) := K3A.out.cell 0; have x1 : v3.cell? ⟨w.heap.size, 1, none⟩ = some (.slice pa0 u.q0.length pk0) := K3A.out.cell 1; have x2 : v3.cell? ⟨w.heap.size, 2, none⟩ = some (.slice pa1 u.q1.length pk1) := K3A.out.cell 2; have x3 : v3.cell? ⟨w.heap.size, 3, none⟩ = some (.bool u.c0) := K3A.out.cell 3; have x4 : v3.cell? ⟨w.heap.size, 4, none⟩ = some (.bool u.c1) := K3A.out.cell 4; have x5 : v3.cell? ⟨w.heap.size, 5, none⟩ = some (.int .i64 u.tks) := K3A.out.cell 5; have x6 : v3.cell? ⟨w.heap.size, 6, none⟩ = some (.slice (some ⟨gb, off, none⟩) u.ws.length pkw) := K3A.out.cell 6; have x7 : v3.cell? ⟨w.heap.size, 7, none⟩ = some (.slice paa u.ans.length pka) := K3A.out.cell 7; have fx := fun i => K3A.out.frozen i; (try go_wp2_with fail)
          refine hK.out _ _ (fun _ => SB.out _ HB3.out) ?_
          clear hK K
          (try simp only [Act.put, List.setIfInBounds_toArray, List.set_cons_zero, List.set_cons_succ])
          refine wpAnyX_ready [9] (by kernel_rfl) (by simp) ?_
          refine AllX.cons op9 (fun K hK => ?_) AllX.nil
          · go_simp
            refine hK.out _ _ (fun h => absurd rfl h) ?_
            clear hK K
            (try simp only [Act.put, List.setIfInBounds_toArray, List.set_cons_zero, List.set_cons_succ])
            refine wpAnyX_done (by kernel_rfl) ?_ _
            have K3C := Lib.hid (keepBlk HB3.out KC.out)
            obtain ⟨o1, o2, o3, o4⟩ := put8 K3A.out (.int .i64 (closeM st 0 (m + 1)).limit) (.slice ta0 (closeM st 0 (m + 1)).q0.length tk0) (.slice ta1 (closeM st 0 (m + 1)).q1.length tk1) (.bool (closeM st 0 (m + 1)).c0) (.bool (closeM st 0 (m + 1)).c1) (.int .i64 (closeM st 0 (m + 1)).tks) (.slice taw (closeM st 0 (m + 1)).ws.length tkw) (.slice taa (closeM st 0 (m + 1)).ans.length tka)
            have B3 := Lib.hid (o3 (keepBelow BR.out HB3.out) (Nat.le_refl _))
            have O1 := Lib.hid o1
            have O4 := Lib.hid (o4 K3C.out (Nat.succ_ne_self _))
            have OR := Lib.hid (Ref.mk (S := ⟨.slice ta0 (closeM st 0 (m + 1)).q0.length tk0, .slice ta1 (closeM st 0 (m + 1)).q1.length tk1, .slice taw (closeM st 0 (m + 1)).ws.length tkw, .slice taa (closeM st 0 (m + 1)).ans.length tka⟩) (st := closeM st 0 (m + 1)) (o2 HR3.out.r0 (by decide)) (o2 HR3.out.r1 (by decide)) (o2 HR3.out.rw_ (by decide)) (o2 HR3.out.ra (by decide)) (HR3.out.o.to (o3 (Below.refl 0 _) (Nat.zero_le _)).size))
            clear o1 o2 o3 o4
            go_wp2_with fail
            go_roundw
            case rel => exact ⟨m + 1, ⟨.slice ta0 (closeM st 0 (m + 1)).q0.length tk0, .slice ta1 (closeM st 0 (m + 1)).q1.length tk1, .slice taw (closeM st 0 (m + 1)).ws.length tkw, .slice taa (closeM st 0 (m + 1)).ans.length tka⟩, _, by omega, by go_num, rfl, O1.out, O4.out, OR.out, B3.out⟩
            case measure => simp [intOf]; omega
      · obtain rfl : m = st.ws.length := by omega
        have KA := Lib.hid hKA
        have d0 : wr.cell? ⟨w.heap.size, 0, none⟩ = some (.int .i64 u.limit) := KA.out.cell 0
        have d1 : wr.cell? ⟨w.heap.size, 1, none⟩ = some (.slice pa0 u.q0.length pk0) := KA.out.cell 1
        have d2 : wr.cell? ⟨w.heap.size, 2, none⟩ = some (.slice pa1 u.q1.length pk1) := KA.out.cell 2
        have d3 : wr.cell? ⟨w.heap.size, 3, none⟩ = some (.bool u.c0) := KA.out.cell 3
        have d4 : wr.cell? ⟨w.heap.size, 4, none⟩ = some (.bool u.c1) := KA.out.cell 4
        have d5 : wr.cell? ⟨w.heap.size, 5, none⟩ = some (.int .i64 u.tks) := KA.out.cell 5
        have d6 : wr.cell? ⟨w.heap.size, 6, none⟩ = some (.slice paw u.ws.length pkw) := KA.out.cell 6
        have d7 : wr.cell? ⟨w.heap.size, 7, none⟩ = some (.slice paa u.ans.length pka) := KA.out.cell 7
        have e0 : wr.cell? ⟨w.heap.size + 1, 0, none⟩ = some (.int .i64 0) := KC.out.cell 0
        have e1 : wr.cell? ⟨w.heap.size + 1, 1, none⟩ = some (.slice none 0 0) := KC.out.cell 1
        have e2 : wr.cell? ⟨w.heap.size + 1, 2, none⟩ = some (.slice none 0 0) := KC.out.cell 2
        have e3 : wr.cell? ⟨w.heap.size + 1, 3, none⟩ = some (.bool false) := KC.out.cell 3
        have e4 : wr.cell? ⟨w.heap.size + 1, 4, none⟩ = some (.bool false) := KC.out.cell 4
        have e5 : wr.cell? ⟨w.heap.size + 1, 5, none⟩ = some (.int .i64 0) := KC.out.cell 5
        have e6 : wr.cell? ⟨w.heap.size + 1, 6, none⟩ = some (.slice none 0 0) := KC.out.cell 6
        have e7 : wr.cell? ⟨w.heap.size + 1, 7, none⟩ = some (.slice none 0 0) := KC.out.cell 7
        have fA := fun i => KA.out.frozen i
        have fC := fun i => KC.out.frozen i
        have HU := Lib.hid hu
        have hnl : ¬ ((st.ws.length : Int) < (u.ws.length : Int)) := by omega
        clear hu hKA hKC hRR hBR hlt
        go_wp2_with fail
        have K4 := Lib.hid (show Blk (wr.setCell ⟨w.heap.size, 6, none⟩ (.slice none 0 0)) (w.heap.size + 1) 60 [.int .i64 0, .slice none 0 0, .slice none 0 0, .bool false, .bool false, .int .i64 0, .slice none 0 0, .slice none 0 0] from KC.out.far (Nat.succ_ne_self _) _)
        have B4 := Lib.hid (BR.out.setCell (p := ⟨w.heap.size, 6, none⟩) (Nat.le_refl _) (.slice none 0 0))
        obtain ⟨o1, o2, o3, o4⟩ := put8 K4.out (.int .i64 u.limit) (.slice pa0 u.q0.length pk0) (.slice pa1 u.q1.length pk1) (.bool u.c0) (.bool u.c1) (.int .i64 u.tks) (.slice none 0 0) (.slice paa u.ans.length pka)
        have hb := o3 B4.out (Nat.le_succ _)
        have hans : u.ans = (closeS st 0).ans := by rw [HU.out]; show st.ans ++ (st.ws.take st.ws.length).map cutA = st.ans ++ st.ws.map cutA; rw [List.take_length]
        have q0 := o2 (MR0.out.r0.set_ (p := ⟨w.heap.size, 6, none⟩) (MR0.out.r0.ne KA.out (by decide)) (.slice none 0 0)) (by decide)
        have q1 := o2 (MR0.out.r1.set_ (p := ⟨w.heap.size, 6, none⟩) (MR0.out.r1.ne KA.out (by decide)) (.slice none 0 0)) (by decide)
        have qa := o2 (MR0.out.ra.set_ (p := ⟨w.heap.size, 6, none⟩) (MR0.out.ra.ne KA.out (by decide)) (.slice none 0 0)) (by decide)
        rw [hans] at qa
        have hu := HU.out
        clear HU
        subst hu
        exact bodyPost_ret (res60_1 rfl _ _ (w.heap.size + 1) _ _ _ _ _ _ _ _ _ rfl rfl o1) rfl ⟨⟨_, _, .slice none 0 0, _⟩, rfl, ⟨q0, q1, Row.nil _ _ _, by rw [hans]; exact qa, MR0.out.o.to (o3 ((Below.refl 0 wr).setCell (p := ⟨w.heap.size, 6, none⟩) (Nat.zero_le _) _) (Nat.zero_le _)).size⟩, hb⟩
set_option maxRecDepth 100000 in
set_option maxHeartbeats 3200000 in
theorem rclose_1 (S : Sl) (st : St) (hs : st.ans.length + st.ws.length ≤ 100000) (ho : st.c1 = false) (w : World) (hR : Ref F w S st) :
    Calls Try.prog 48 #[rpV S st, .int .i64 1] w fun e w' => ∃ S', e = .returned (.tuple #[rpV S' (closeS st 1), .int .i64 0]) ∧ Ref F w' S' (closeS st 1) ∧ Below w.heap.size w w' := by
    have C70 := Lib.hid (fun W (hb : Below w.heap.size w W) => rend_any 1 S st W (hR.below hb))
    have ho2 : openE st 1 = 0 := by unfold openE; simp [ho]
    rw [ho2] at C70
    have C68 := Lib.hid (rans_cut (F := F) 1 st hs)
    have XW := Lib.hid hR
    obtain ⟨za0, zk0, za1, zk1, zaw, zkw, zaa, zka, rfl⟩ := hR.open
    clear hR ho ho2
    unfold rpV at *
    have BB0 := Lib.hid (show Below w.heap.size w ((w.alloc (.cells #[.int .i64 st.limit, .slice za0 st.q0.length zk0, .slice za1 st.q1.length zk1, .bool st.c0, .bool st.c1, .int .i64 st.tks, .slice zaw st.ws.length zkw, .slice zaa st.ans.length zka] 60)).alloc (.cells #[.int .i64 0, .slice none 0 0, .slice none 0 0, .bool false, .bool false, .int .i64 0, .slice none 0 0, .slice none 0 0] 60)) from ((Below.refl _ _).alloc (Nat.le_refl _) _).alloc (by simp) _)
    have KA0 := Lib.hid (show Blk ((w.alloc (.cells #[.int .i64 st.limit, .slice za0 st.q0.length zk0, .slice za1 st.q1.length zk1, .bool st.c0, .bool st.c1, .int .i64 st.tks, .slice zaw st.ws.length zkw, .slice zaa st.ans.length zka] 60)).alloc (.cells #[.int .i64 0, .slice none 0 0, .slice none 0 0, .bool false, .bool false, .int .i64 0, .slice none 0 0, .slice none 0 0] 60)) (w.heap.size) 60 [.int .i64 st.limit, .slice za0 st.q0.length zk0, .slice za1 st.q1.length zk1, .bool st.c0, .bool st.c1, .int .i64 st.tks, .slice zaw st.ws.length zkw, .slice zaa st.ans.length zka] from (Blk.new w 60 _).alloc _)
    have KC0 := Lib.hid (show Blk ((w.alloc (.cells #[.int .i64 st.limit, .slice za0 st.q0.length zk0, .slice za1 st.q1.length zk1, .bool st.c0, .bool st.c1, .int .i64 st.tks, .slice zaw st.ws.length zkw, .slice zaa st.ans.length zka] 60)).alloc (.cells #[.int .i64 0, .slice none 0 0, .slice none 0 0, .bool false, .bool false, .int .i64 0, .slice none 0 0, .slice none 0 0] 60)) (w.heap.size + 1) 60 [.int .i64 0, .slice none 0 0, .slice none 0 0, .bool false, .bool false, .int .i64 0, .slice none 0 0, .slice none 0 0] from blk_at (by simp) 60 [_, _, _, _, _, _, _, _])
    go_enter Try.func48, Try.ntmps48
    go_wp2_with (go_at_call 70; refine (C70.out _ BB0.out).mono ?_; rintro e v1 ⟨rfl, hb⟩; have BB1 := Lib.hid (keepBelow BB0.out hb); have KA1 := Lib.hid (keepBlk hb KA0.out); have a10 : v1.cell? ⟨w.heap.size, 0, none⟩ = some (.int .i64 st.limit) := KA1.out.cell 0; have a11 : v1.cell? ⟨w.heap.size, 1, none⟩ = some (.slice za0 st.q0.length zk0) := KA1.out.cell 1; have a12 : v1.cell? ⟨w.heap.size, 2, none⟩ = some (.slice za1 st.q1.length zk1) := KA1.out.cell 2; have a13 : v1.cell? ⟨w.heap.size, 3, none⟩ = some (.bool st.c0) := KA1.out.cell 3; have a14 : v1.cell? ⟨w.heap.size, 4, none⟩ = some (.bool st.c1) := KA1.out.cell 4; have a15 : v1.cell? ⟨w.heap.size, 5, none⟩ = some (.int .i64 st.tks) := KA1.out.cell 5; have a16 : v1.cell? ⟨w.heap.size, 6, none⟩ = some (.slice zaw st.ws.length zkw) := KA1.out.cell 6; have a17 : v1.cell? ⟨w.heap.size, 7, none⟩ = some (.slice zaa st.ans.length zka) := KA1.out.cell 7; have KC1 := Lib.hid (keepBlk hb KC0.out); have c10 : v1.cell? ⟨w.heap.size + 1, 0, none⟩ = some (.int .i64 0) := KC1.out.cell 0; have c11 : v1.cell? ⟨w.heap.size + 1, 1, none⟩ = some (.slice none 0 0) := KC1.out.cell 1; have c12 : v1.cell? ⟨w.heap.size + 1, 2, none⟩ = some (.slice none 0 0) := KC1.out.cell 2; have c13 : v1.cell? ⟨w.heap.size + 1, 3, none⟩ = some (.bool false) := KC1.out.cell 3; have c14 : v1.cell? ⟨w.heap.size + 1, 4, none⟩ = some (.bool false) := KC1.out.cell 4; have c15 : v1.cell? ⟨w.heap.size + 1, 5, none⟩ = some (.int .i64 0) := KC1.out.cell 5; have c16 : v1.cell? ⟨w.heap.size + 1, 6, none⟩ = some (.slice none 0 0) := KC1.out.cell 6; have c17 : v1.cell? ⟨w.heap.size + 1, 7, none⟩ = some (.slice none 0 0) := KC1.out.cell 7; have fA1 := fun i => KA1.out.frozen i; have fC1 := fun i => KC1.out.frozen i; clear hb)
    obtain ⟨W2, hW2⟩ : ∃ W2, W2 = (v1.setCell ⟨w.heap.size, 4, none⟩ (.bool true)).setCell ⟨w.heap.size, 2, none⟩ (.slice none 0 0) := ⟨_, rfl⟩
    have B2 := Lib.hid (show Below w.heap.size w W2 by rw [hW2]; exact (BB1.out.setCell (p := ⟨w.heap.size, 4, none⟩) (Nat.le_refl _) _).setCell (p := ⟨w.heap.size, 2, none⟩) (Nat.le_refl _) _)
    have K2 := Lib.hid (show Blk W2 (w.heap.size) 60 [.int .i64 st.limit, .slice za0 st.q0.length zk0, .slice none 0 0, .bool st.c0, .bool true, .int .i64 st.tks, .slice zaw st.ws.length zkw, .slice zaa st.ans.length zka] by rw [hW2]; exact (KA1.out.set_ 4 _).set_ 2 _)
    have L2 := Lib.hid (show Blk W2 (w.heap.size + 1) 60 [.int .i64 0, .slice none 0 0, .slice none 0 0, .bool false, .bool false, .int .i64 0, .slice none 0 0, .slice none 0 0] by rw [hW2]; exact (KC1.out.far (Nat.succ_ne_self _) _).far (Nat.succ_ne_self _) _)
    have R2 := Lib.hid (show Ref F W2 ⟨.slice za0 st.q0.length zk0, .slice none 0 0, .slice zaw st.ws.length zkw, .slice zaa st.ans.length zka⟩ (closeM st 1 0) from ⟨(XW.out.below B2.out).r0, Row.nil _ _ _, (XW.out.below B2.out).rw_, by have h := (XW.out.below B2.out).ra; unfold closeM; simp only [List.take_zero, List.map_nil, List.append_nil]; exact h, (XW.out.below B2.out).o.nil1⟩)
    have HW2 := Lib.hid hW2
    clear hW2 KA1 KC1 BB1 KA0 KC0 BB0 C70 XW
    go_loopw [7] (fun i wr => ∃ (m : Nat) (S' : Sl) (u : St), m ≤ st.ws.length ∧ i = .int .i64 m ∧ u = closeM st 1 m ∧ Blk wr (w.heap.size) 60 (rpC S' u) ∧ Blk wr (w.heap.size + 1) 60 [.int .i64 0, .slice none 0 0, .slice none 0 0, .bool false, .bool false, .int .i64 0, .slice none 0 0, .slice none 0 0] ∧ Ref F wr S' u ∧ Below w.heap.size w wr) (fun i _ => st.ws.length - (intOf i).toNat)
    case atStart => (try rw [← HW2.out]); exact ⟨0, ⟨.slice za0 st.q0.length zk0, .slice none 0 0, .slice zaw st.ws.length zkw, .slice zaa st.ans.length zka⟩, _, Nat.zero_le _, rfl, rfl, K2.out, L2.out, R2.out, B2.out⟩
    case round =>
      obtain ⟨m, S', u, hm, rfl, hu, hKA, hKC, hRR, hBR⟩ := hrel
      obtain ⟨pa0, pk0, pa1, pk1, paw, pkw, paa, pka, rfl⟩ := hRR.open
      have hul : u.ws.length = st.ws.length := by rw [hu]; rfl
      have KC := Lib.hid hKC
      have BR := Lib.hid hBR
      have MR0 := Lib.hid hRR
      unfold rpC at hKA
      by_cases hlt : m < st.ws.length
      · obtain ⟨gb, off, cap, hv, h1, h2, hgb, hcl, _⟩ := hRR.rw_.open (by rw [hul]; omega)
        injection hv with hv1 _ hv3
        subst hv1
        have HTK0 := Lib.hid (rw_cells (w := wr) (l := u.ws) hcl (by rw [hul]; exact hlt) _ rfl).1
        have hmu : (m : Int) < (u.ws.length : Int) := by omega
        have hk1 : m < u.ws.length := by omega
        have hk2 : u.ws.length ≤ pkw := by rw [← hv3] at h1; exact h1
        have hk3 : pkw ≤ 9223372036854775807 := by rw [← hv3] at h2; exact h2
        have HGB : Hid (gb < wr.heap.size) := Lib.hid hgb
        have KA := Lib.hid hKA
        have htk : (u.ws.getD m wt0).tk = (st.ws.getD m wt0).tk := by rw [hu]; rfl
        have HTK : Hid (wr.cell? ⟨gb, off + m * 5, none⟩ = some (.int .i64 (st.ws.getD m wt0).tk)) := Lib.hid (by rw [← htk]; exact HTK0.out)
        have htk2 := HTK.out
        have MR : Hid (Ref F wr ⟨.slice pa0 u.q0.length pk0, .slice pa1 u.q1.length pk1, .slice (some ⟨gb, off, none⟩) u.ws.length pkw, .slice paa u.ans.length pka⟩ u) := MR0
        have hc68 := C68.out m hlt
        rw [← hu] at hc68
        have HC68 := Lib.hid hc68
        clear hc68
        generalize (st.ws.getD m wt0).tk = tk at *
        have d0 : wr.cell? ⟨w.heap.size, 0, none⟩ = some (.int .i64 u.limit) := KA.out.cell 0
        have d1 : wr.cell? ⟨w.heap.size, 1, none⟩ = some (.slice pa0 u.q0.length pk0) := KA.out.cell 1
        have d2 : wr.cell? ⟨w.heap.size, 2, none⟩ = some (.slice pa1 u.q1.length pk1) := KA.out.cell 2
        have d3 : wr.cell? ⟨w.heap.size, 3, none⟩ = some (.bool u.c0) := KA.out.cell 3
        have d4 : wr.cell? ⟨w.heap.size, 4, none⟩ = some (.bool u.c1) := KA.out.cell 4
        have d5 : wr.cell? ⟨w.heap.size, 5, none⟩ = some (.int .i64 u.tks) := KA.out.cell 5
        have d6 : wr.cell? ⟨w.heap.size, 6, none⟩ = some (.slice (some ⟨gb, off, none⟩) u.ws.length pkw) := KA.out.cell 6
        have d7 : wr.cell? ⟨w.heap.size, 7, none⟩ = some (.slice paa u.ans.length pka) := KA.out.cell 7
        have HU := Lib.hid hu
        clear hu h1 h2 hv3 hgb hcl hKA hKC hRR hBR hul htk HTK0
        go_wp2_with fail
        have SB := Lib.hid (show ∀ W, Below wr.heap.size wr W → (fun W => W.cell? ⟨w.heap.size, 0, none⟩ = some (.int .i64 u.limit) ∧ W.cell? ⟨w.heap.size, 1, none⟩ = some (.slice pa0 u.q0.length pk0) ∧ W.cell? ⟨w.heap.size, 2, none⟩ = some (.slice pa1 u.q1.length pk1) ∧ W.cell? ⟨w.heap.size, 3, none⟩ = some (.bool u.c0) ∧ W.cell? ⟨w.heap.size, 4, none⟩ = some (.bool u.c1) ∧ W.cell? ⟨w.heap.size, 5, none⟩ = some (.int .i64 u.tks) ∧ W.cell? ⟨w.heap.size, 6, none⟩ = some (.slice (some ⟨gb, off, none⟩) u.ws.length pkw) ∧ W.cell? ⟨w.heap.size, 7, none⟩ = some (.slice paa u.ans.length pka) ∧ W.cell? ⟨gb, off + m * 5, none⟩ = some (.int .i64 tk)) W from fun W hb => ⟨(keepBlk hb KA.out).cell 0, (keepBlk hb KA.out).cell 1, (keepBlk hb KA.out).cell 2, (keepBlk hb KA.out).cell 3, (keepBlk hb KA.out).cell 4, (keepBlk hb KA.out).cell 5, (keepBlk hb KA.out).cell 6, (keepBlk hb KA.out).cell 7, (hb.cell (p := ⟨gb, off + m * 5, none⟩) HGB.out).trans HTK.out⟩)
        refine wp_region_x (fun W => W.cell? ⟨w.heap.size, 0, none⟩ = some (.int .i64 u.limit) ∧ W.cell? ⟨w.heap.size, 1, none⟩ = some (.slice pa0 u.q0.length pk0) ∧ W.cell? ⟨w.heap.size, 2, none⟩ = some (.slice pa1 u.q1.length pk1) ∧ W.cell? ⟨w.heap.size, 3, none⟩ = some (.bool u.c0) ∧ W.cell? ⟨w.heap.size, 4, none⟩ = some (.bool u.c1) ∧ W.cell? ⟨w.heap.size, 5, none⟩ = some (.int .i64 u.tks) ∧ W.cell? ⟨w.heap.size, 6, none⟩ = some (.slice (some ⟨gb, off, none⟩) u.ws.length pkw) ∧ W.cell? ⟨w.heap.size, 7, none⟩ = some (.slice paa u.ans.length pka) ∧ W.cell? ⟨gb, off + m * 5, none⟩ = some (.int .i64 tk)) 9 (by kernel_rfl) ?_
        have hHeld := Lib.hid (show (fun W => W.cell? ⟨w.heap.size, 0, none⟩ = some (.int .i64 u.limit) ∧ W.cell? ⟨w.heap.size, 1, none⟩ = some (.slice pa0 u.q0.length pk0) ∧ W.cell? ⟨w.heap.size, 2, none⟩ = some (.slice pa1 u.q1.length pk1) ∧ W.cell? ⟨w.heap.size, 3, none⟩ = some (.bool u.c0) ∧ W.cell? ⟨w.heap.size, 4, none⟩ = some (.bool u.c1) ∧ W.cell? ⟨w.heap.size, 5, none⟩ = some (.int .i64 u.tks) ∧ W.cell? ⟨w.heap.size, 6, none⟩ = some (.slice (some ⟨gb, off, none⟩) u.ws.length pkw) ∧ W.cell? ⟨w.heap.size, 7, none⟩ = some (.slice paa u.ans.length pka) ∧ W.cell? ⟨gb, off + m * 5, none⟩ = some (.int .i64 tk)) wr.drew from SB.out _ (Below.refl _ _).drew)
        refine wpAnyX_take (i := 1) (v := ?vv9) op1 (by kernel_rfl) (by kernel_rfl) (by kernel_rfl) (by kernel_rfl) (by kernel_rfl) (fun _ _ _ h => h) (Or.inl ⟨by rfl, ?hy9⟩) (hHeld.out) ?rest9
        case hy9 => intro w hSw; (try dsimp only at hSw); go_simp; (try with_reducible rfl)
        (try simp only [Act.put, List.setIfInBounds_toArray, List.set_cons_zero, List.set_cons_succ])
        refine wpAnyX_take (i := 3) (v := ?vv10) op3 (by kernel_rfl) (by kernel_rfl) (by kernel_rfl) (by kernel_rfl) (by kernel_rfl) (fun _ _ _ h => h) (Or.inl ⟨by rfl, ?hy10⟩) (hHeld.out) ?rest10
        case hy10 => intro w hSw; (try dsimp only at hSw); go_simp; (try with_reducible rfl)
        (try simp only [Act.put, List.setIfInBounds_toArray, List.set_cons_zero, List.set_cons_succ])
        refine wpAnyX_take (i := 0) (v := ?vv11) op0 (by kernel_rfl) (by kernel_rfl) (by kernel_rfl) (by kernel_rfl) (by kernel_rfl) (fun _ _ _ h => h) (Or.inl ⟨by rfl, ?hy11⟩) (hHeld.out) ?rest11
        case hy11 => intro w hSw; (try dsimp only at hSw); go_simp; (try with_reducible rfl)
        (try simp only [Act.put, List.setIfInBounds_toArray, List.set_cons_zero, List.set_cons_succ])
        refine wpAnyX_take (i := 2) (v := ?vv12) op2 (by kernel_rfl) (by kernel_rfl) (by kernel_rfl) (by kernel_rfl) (by kernel_rfl) (fun _ _ _ h => h) (Or.inl ⟨by rfl, ?hy12⟩) (hHeld.out) ?rest12
        case hy12 => intro w hSw; (try dsimp only at hSw); go_simp; (try with_reducible rfl)
        (try simp only [Act.put, List.setIfInBounds_toArray, List.set_cons_zero, List.set_cons_succ])
        refine wpAnyX_take (i := 4) (v := ?vv13) op4 (by kernel_rfl) (by kernel_rfl) (by kernel_rfl) (by kernel_rfl) (by kernel_rfl) (fun _ _ _ h => h) (Or.inl ⟨by rfl, ?hy13⟩) (hHeld.out) ?rest13
        case hy13 => intro w hSw; (try dsimp only at hSw); go_simp; (try with_reducible rfl)
        (try simp only [Act.put, List.setIfInBounds_toArray, List.set_cons_zero, List.set_cons_succ])
        refine wpAnyX_take (i := 5) (v := ?vv14) op5 (by kernel_rfl) (by kernel_rfl) (by kernel_rfl) (by kernel_rfl) (by kernel_rfl) (fun _ _ _ h => h) (Or.inl ⟨by rfl, ?hy14⟩) (hHeld.out) ?rest14
        case hy14 => intro w hSw; (try dsimp only at hSw); go_simp; (try with_reducible rfl)
        (try simp only [Act.put, List.setIfInBounds_toArray, List.set_cons_zero, List.set_cons_succ])
        refine wpAnyX_take (i := 6) (v := ?vv15) op6 (by kernel_rfl) (by kernel_rfl) (by kernel_rfl) (by kernel_rfl) (by kernel_rfl) (fun _ _ _ h => h) (Or.inl ⟨by rfl, ?hy15⟩) (hHeld.out) ?rest15
        case hy15 => intro w hSw; (try dsimp only at hSw); go_simp; (try with_reducible rfl)
        (try simp only [Act.put, List.setIfInBounds_toArray, List.set_cons_zero, List.set_cons_succ])
        refine wpAnyX_take (i := 7) (v := ?vv16) op7 (by kernel_rfl) (by kernel_rfl) (by kernel_rfl) (by kernel_rfl) (by kernel_rfl) (fun _ _ _ h => h) (Or.inl ⟨by rfl, ?hy16⟩) (hHeld.out) ?rest16
        case hy16 => intro w hSw; (try dsimp only at hSw); go_simp; (try with_reducible rfl)
        (try simp only [Act.put, List.setIfInBounds_toArray, List.set_cons_zero, List.set_cons_succ])
        refine wpAnyX_ready [8] (by kernel_rfl) (by simp) ?_
        refine AllX.cons op8 (fun K hK => ?_) AllX.nil
        · go_simp; go_at_call 68; refine (HC68.out _ _ MR.out.drew).mono ?_; rintro e v3 ⟨S3, he3, R3, hb⟩; obtain ⟨ta0, tk0, ta1, tk1, taw, tkw, taa, tka, rfl⟩ := R3.open; (try unfold rpV at he3); (try dsimp only at he3); subst he3; have HR3 := Lib.hid R3; have HB3 := Lib.hid (show Below wr.heap.size wr v3 from ⟨hb.os, hb.tape, hb.output, hb.size, hb.block⟩); clear hb R3; have K3A := Lib.hid (keepBlk HB3.out KA.out); have x0 : v3.cell? ⟨w.heap.size, 0, none⟩ = some (.int .i64 u.limit) := K3A.out.cell 0; have x1 : v3.cell? ⟨w.heap.size, 1, none⟩ = some (.slice pa0 u.q0.length pk0) := K3A.out.cell 1; have x2 : v3.cell? ⟨w.heap.size, 2, none⟩ = some (.slice pa1 u.q1.length pk1) := K3A.out.cell 2; have x3 : v3.cell? ⟨w.heap.size, 3, none⟩ = some (.bool u.c0) := K3A.out.cell 3; have x4 : v3.cell? ⟨w.heap.size, 4, none⟩ = some (.bool u.c1) := K3A.out.cell 4; have x5 : v3.cell? ⟨w.heap.size, 5, none⟩ = some (.int .i64 u.tks) := K3A.out.cell 5; have x6 : v3.cell? ⟨w.heap.size, 6, none⟩ = some (.slice (some ⟨gb, off, none⟩) u.ws.length pkw) := K3A.out.cell 6; have x7 : v3.cell? ⟨w.heap.size, 7, none⟩ = some (.slice paa u.ans.length pka) := K3A.out.cell 7; have fx := fun i => K3A.out.frozen i; (try go_wp2_with fail)
          refine hK.out _ _ (fun _ => SB.out _ HB3.out) ?_
          clear hK K
          (try simp only [Act.put, List.setIfInBounds_toArray, List.set_cons_zero, List.set_cons_succ])
          refine wpAnyX_ready [9] (by kernel_rfl) (by simp) ?_
          refine AllX.cons op9 (fun K hK => ?_) AllX.nil
          · go_simp
            refine hK.out _ _ (fun h => absurd rfl h) ?_
            clear hK K
            (try simp only [Act.put, List.setIfInBounds_toArray, List.set_cons_zero, List.set_cons_succ])
            refine wpAnyX_done (by kernel_rfl) ?_ _
            have K3C := Lib.hid (keepBlk HB3.out KC.out)
            obtain ⟨o1, o2, o3, o4⟩ := put8 K3A.out (.int .i64 (closeM st 1 (m + 1)).limit) (.slice ta0 (closeM st 1 (m + 1)).q0.length tk0) (.slice ta1 (closeM st 1 (m + 1)).q1.length tk1) (.bool (closeM st 1 (m + 1)).c0) (.bool (closeM st 1 (m + 1)).c1) (.int .i64 (closeM st 1 (m + 1)).tks) (.slice taw (closeM st 1 (m + 1)).ws.length tkw) (.slice taa (closeM st 1 (m + 1)).ans.length tka)
            have B3 := Lib.hid (o3 (keepBelow BR.out HB3.out) (Nat.le_refl _))
            have O1 := Lib.hid o1
            have O4 := Lib.hid (o4 K3C.out (Nat.succ_ne_self _))
            have OR := Lib.hid (Ref.mk (S := ⟨.slice ta0 (closeM st 1 (m + 1)).q0.length tk0, .slice ta1 (closeM st 1 (m + 1)).q1.length tk1, .slice taw (closeM st 1 (m + 1)).ws.length tkw, .slice taa (closeM st 1 (m + 1)).ans.length tka⟩) (st := closeM st 1 (m + 1)) (o2 HR3.out.r0 (by decide)) (o2 HR3.out.r1 (by decide)) (o2 HR3.out.rw_ (by decide)) (o2 HR3.out.ra (by decide)) (HR3.out.o.to (o3 (Below.refl 0 _) (Nat.zero_le _)).size))
            clear o1 o2 o3 o4
            go_wp2_with fail
            go_roundw
            case rel => exact ⟨m + 1, ⟨.slice ta0 (closeM st 1 (m + 1)).q0.length tk0, .slice ta1 (closeM st 1 (m + 1)).q1.length tk1, .slice taw (closeM st 1 (m + 1)).ws.length tkw, .slice taa (closeM st 1 (m + 1)).ans.length tka⟩, _, by omega, by go_num, rfl, O1.out, O4.out, OR.out, B3.out⟩
            case measure => simp [intOf]; omega
      · obtain rfl : m = st.ws.length := by omega
        have KA := Lib.hid hKA
        have d0 : wr.cell? ⟨w.heap.size, 0, none⟩ = some (.int .i64 u.limit) := KA.out.cell 0
        have d1 : wr.cell? ⟨w.heap.size, 1, none⟩ = some (.slice pa0 u.q0.length pk0) := KA.out.cell 1
        have d2 : wr.cell? ⟨w.heap.size, 2, none⟩ = some (.slice pa1 u.q1.length pk1) := KA.out.cell 2
        have d3 : wr.cell? ⟨w.heap.size, 3, none⟩ = some (.bool u.c0) := KA.out.cell 3
        have d4 : wr.cell? ⟨w.heap.size, 4, none⟩ = some (.bool u.c1) := KA.out.cell 4
        have d5 : wr.cell? ⟨w.heap.size, 5, none⟩ = some (.int .i64 u.tks) := KA.out.cell 5
        have d6 : wr.cell? ⟨w.heap.size, 6, none⟩ = some (.slice paw u.ws.length pkw) := KA.out.cell 6
        have d7 : wr.cell? ⟨w.heap.size, 7, none⟩ = some (.slice paa u.ans.length pka) := KA.out.cell 7
        have e0 : wr.cell? ⟨w.heap.size + 1, 0, none⟩ = some (.int .i64 0) := KC.out.cell 0
        have e1 : wr.cell? ⟨w.heap.size + 1, 1, none⟩ = some (.slice none 0 0) := KC.out.cell 1
        have e2 : wr.cell? ⟨w.heap.size + 1, 2, none⟩ = some (.slice none 0 0) := KC.out.cell 2
        have e3 : wr.cell? ⟨w.heap.size + 1, 3, none⟩ = some (.bool false) := KC.out.cell 3
        have e4 : wr.cell? ⟨w.heap.size + 1, 4, none⟩ = some (.bool false) := KC.out.cell 4
        have e5 : wr.cell? ⟨w.heap.size + 1, 5, none⟩ = some (.int .i64 0) := KC.out.cell 5
        have e6 : wr.cell? ⟨w.heap.size + 1, 6, none⟩ = some (.slice none 0 0) := KC.out.cell 6
        have e7 : wr.cell? ⟨w.heap.size + 1, 7, none⟩ = some (.slice none 0 0) := KC.out.cell 7
        have fA := fun i => KA.out.frozen i
        have fC := fun i => KC.out.frozen i
        have HU := Lib.hid hu
        have hnl : ¬ ((st.ws.length : Int) < (u.ws.length : Int)) := by omega
        clear hu hKA hKC hRR hBR hlt
        go_wp2_with fail
        have K4 := Lib.hid (show Blk (wr.setCell ⟨w.heap.size, 6, none⟩ (.slice none 0 0)) (w.heap.size + 1) 60 [.int .i64 0, .slice none 0 0, .slice none 0 0, .bool false, .bool false, .int .i64 0, .slice none 0 0, .slice none 0 0] from KC.out.far (Nat.succ_ne_self _) _)
        have B4 := Lib.hid (BR.out.setCell (p := ⟨w.heap.size, 6, none⟩) (Nat.le_refl _) (.slice none 0 0))
        obtain ⟨o1, o2, o3, o4⟩ := put8 K4.out (.int .i64 u.limit) (.slice pa0 u.q0.length pk0) (.slice pa1 u.q1.length pk1) (.bool u.c0) (.bool u.c1) (.int .i64 u.tks) (.slice none 0 0) (.slice paa u.ans.length pka)
        have hb := o3 B4.out (Nat.le_succ _)
        have hans : u.ans = (closeS st 1).ans := by rw [HU.out]; show st.ans ++ (st.ws.take st.ws.length).map cutA = st.ans ++ st.ws.map cutA; rw [List.take_length]
        have q0 := o2 (MR0.out.r0.set_ (p := ⟨w.heap.size, 6, none⟩) (MR0.out.r0.ne KA.out (by decide)) (.slice none 0 0)) (by decide)
        have q1 := o2 (MR0.out.r1.set_ (p := ⟨w.heap.size, 6, none⟩) (MR0.out.r1.ne KA.out (by decide)) (.slice none 0 0)) (by decide)
        have qa := o2 (MR0.out.ra.set_ (p := ⟨w.heap.size, 6, none⟩) (MR0.out.ra.ne KA.out (by decide)) (.slice none 0 0)) (by decide)
        rw [hans] at qa
        have hu := HU.out
        clear HU
        subst hu
        exact bodyPost_ret (res60_1 rfl _ _ (w.heap.size + 1) _ _ _ _ _ _ _ _ _ rfl rfl o1) rfl ⟨⟨_, _, .slice none 0 0, _⟩, rfl, ⟨q0, q1, Row.nil _ _ _, by rw [hans]; exact qa, MR0.out.o.to (o3 ((Below.refl 0 wr).setCell (p := ⟨w.heap.size, 6, none⟩) (Nat.zero_le _) _) (Nat.zero_le _)).size⟩, hb⟩
theorem rclose_any (a : Int) (S : Sl) (st : St) (hs : st.ans.length + st.ws.length ≤ 100000) (w : World) (hR : Ref F w S st) :
    Calls Try.prog 48 #[rpV S st, .int .i64 a] w fun e w' => ∃ S', e = .returned (.tuple #[rpV S' (closeR st a).1, .int .i64 (closeR st a).2]) ∧ Ref F w' S' (closeR st a).1 ∧ Below w.heap.size w w' := by
  unfold closeR
  by_cases ho : openE st a = 0
  · rw [if_pos ho]
    unfold openE at ho
    by_cases h0 : a = 0
    · subst h0
      exact rclose_0 S st hs (by cases h : st.c0; rfl; simp [h] at ho) w hR
    · rw [if_neg h0] at ho
      by_cases h1 : a = 1
      · subst h1
        exact rclose_1 S st hs (by cases h : st.c1; rfl; simp [h] at ho) w hR
      · rw [if_neg h1] at ho; cases ho
  · rw [if_neg ho]
    exact rclose_no a S st ho w hR
end Go.Proofs.Ytmnlojbfdpjjdaa
