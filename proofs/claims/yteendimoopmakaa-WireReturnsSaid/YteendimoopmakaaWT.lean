/- WireReturns: what was written is read back, value by value, whatever follows. No condition of its own. -/
import Derived.Test.YteendimoopmakaaM5
import Derived.Test.YteendimoopmakaaT34
import Derived.Test.YteendimoopmakaaWS
import Derived.Test.YteendimoopmakaaWW
namespace Go.Proofs.Yteendimoopmakaa
open Go.RowKit
namespace wireReturns

theorem tinfo35 : (Try.prog.info? 35).map (fun i => (i.zero, i.size, i.bytes)) = some (some (.agg #[.int .i64 0, .int .i64 0, .int .i64 0, .string ⟨#[]⟩, .slice none 0 0]), 5, 64) := by kernel_rfl
def oks (l : List It) : List It := l.filter fun x => decide (wrE x = 0)
def encs (ws : List It) : List UInt8 := ws.flatMap wrB
def cells5 (x : It) : List Value := [.int .i64 x.kind, .int .i64 x.size, .int .i64 x.n, .string x.s, x.sl]
def cellsAll (ws : List It) : List Value := ws.flatMap cells5
theorem oks_yes (l : List It) (k : Nat) (hk : k < l.length) (h : wrE l[k]! = 0) : oks (l.take (k + 1)) = oks (l.take k) ++ [l[k]!] := by
  unfold oks
  rw [List.take_succ_eq_append_getElem hk, List.filter_append, getElem!_pos l k hk] at *
  simp [h]
theorem oks_no (l : List It) (k : Nat) (hk : k < l.length) (h : wrE l[k]! ≠ 0) : oks (l.take (k + 1)) = oks (l.take k) := by
  unfold oks
  rw [List.take_succ_eq_append_getElem hk, List.filter_append, getElem!_pos l k hk] at *
  simp [h]
theorem wrB_none (x : It) (h : wrE x ≠ 0) : wrB x = [] := by
  unfold wrE at h
  unfold wrB
  by_cases q0 : x.kind = 0
  · rw [if_pos q0] at h ⊢; rw [if_neg h]
  · rw [if_neg q0] at h ⊢
    by_cases q1 : x.kind = 1
    · rw [if_pos q1] at h ⊢; rw [if_neg h]
    · rw [if_neg q1] at h; exact absurd rfl h
theorem encs_snoc (ws : List It) (x : It) : encs (ws ++ [x]) = encs ws ++ wrB x := by simp [encs]
theorem cellsAll_snoc (ws : List It) (x : It) : cellsAll (ws ++ [x]) = cellsAll ws ++ cells5 x := by simp [cellsAll]
theorem cellsAll_len (ws : List It) : (cellsAll ws).length = ws.length * 5 := by
  induction ws with
  | nil => rfl
  | cons x l ih => rw [show cellsAll (x :: l) = cells5 x ++ cellsAll l from rfl, List.length_append, ih, show (cells5 x).length = 5 from rfl, List.length_cons]; omega
theorem cellsAll_at (ws : List It) (j : Nat) (hj : j < ws.length) (t : Nat) (ht : t < 5) : (cellsAll ws)[j * 5 + t]? = (cells5 ws[j])[t]? := by
  induction ws generalizing j with
  | nil => simp at hj
  | cons x l ih =>
    rw [show cellsAll (x :: l) = cells5 x ++ cellsAll l from rfl]
    cases j with
    | zero => rw [List.getElem?_append_left (by simp [cells5]; omega)]; simp
    | succ j =>
      rw [List.getElem?_append_right (by simp [cells5]; omega), show (cells5 x).length = 5 from rfl, show (j + 1) * 5 + t - 5 = j * 5 + t by omega, ih j (by simpa using hj)]
      simp
/-- Items in an own row of theirs. -/
theorem own_items {w : World} {base : Nat} {v : Value} {ws : List It} (h : w.ownsRow base 35 5 v ws.length (cellsAll ws)) :
    ∃ so cap, v = .slice so ws.length cap ∧ ws.length ≤ cap ∧ cap ≤ 9223372036854775807 ∧ ∀ j, j < ws.length → ∃ g, so = some ⟨g, 0, none⟩ ∧ g < w.heap.size ∧ ItemAt w g (j * 5) ws[j]! := by
  obtain ⟨hl, ⟨rfl, hz⟩ | ⟨g, cap, cur, rfl, hg, hh, h1, h2, h3, h4⟩⟩ := h
  · refine ⟨none, 0, by rw [hz], by omega, by omega, fun j hj => by omega⟩
  · refine ⟨_, cap, rfl, h1, h2, fun j hj => ⟨g, rfl, (Array.getElem?_eq_some_iff.1 hh).1, ?_⟩⟩
    have key : ∀ t, t < 5 → w.cell? ⟨g, j * 5 + t, none⟩ = (cells5 ws[j]!)[t]? := by
      intro t ht
      rw [cell_of_row w g (j * 5 + t) cur 35 (0, 0) hh, ← Array.getElem?_toList, getElem!_pos ws j hj, ← cellsAll_at ws j hj t ht, ← h4]
      exact (List.getElem?_take_of_lt (by omega)).symm
    exact ⟨key 0 (by omega), key 1 (by omega), key 2 (by omega), key 3 (by omega), key 4 (by omega)⟩
/-- Another's own row is as it was behind a writer's call. -/
theorem own_fr {w w' : World} {base e size n b : Nat} {v : Value} {xs : List Value} {r : Option Nat} (h : w.ownsRow base e size v n xs) (hf : Fr w w' b r) (n1 : v.ownBlock ≠ some b) (n2 : ∀ k, v.ownBlock = some k → r ≠ some k) : w'.ownsRow base e size v n xs := by
  obtain ⟨hl, h | ⟨g, cap, cur, rfl, hg, hh, hrest⟩⟩ := h
  · exact ⟨hl, .inl h⟩
  · refine ⟨hl, .inr ⟨g, cap, cur, rfl, hg, ?_, hrest⟩⟩
    rw [hf.block g (Array.getElem?_eq_some_iff.1 hh).1 (fun e => n1 (by simp [Value.ownBlock, e])) (fun e => n2 g (by simp [Value.ownBlock]) e.symm)]
    exact hh
/-- Two own rows of different types lie apart. -/
theorem own_apart {w : World} {b1 e1 s1 n1 b2 e2 s2 n2 : Nat} {v1 v2 : Value} {x1 x2 : List Value} (h1 : w.ownsRow b1 e1 s1 v1 n1 x1) (h2 : w.ownsRow b2 e2 s2 v2 n2 x2) (hne : e1 ≠ e2) : ∀ k, v1.ownBlock = some k → v2.ownBlock ≠ some k := by
  intro k k1 k2
  rcases h1.2 with ⟨rfl, _⟩ | ⟨g, cap, cur, rfl, _, hh, _⟩
  · simp [Value.ownBlock] at k1
  · rcases h2.2 with ⟨rfl, _⟩ | ⟨g', cap', cur', rfl, _, hh', _⟩
    · simp [Value.ownBlock] at k2
    · have a1 : g = k := by simpa [Value.ownBlock] using k1
      have a2 : g' = k := by simpa [Value.ownBlock] using k2
      subst a1
      subst a2
      rw [hh] at hh'
      injection hh' with q
      injection q with _ q
      exact hne q
theorem bools_boo {w : World} {B : Nat} {sl : Value} {L : List Bool} (h : Bools w B sl L) : Boo w sl L := by
  rcases h with ⟨⟨ao, cp, rfl⟩, rfl⟩ | ⟨bb, off, cap, rfl, _, _, _, hc⟩
  · exact ⟨ao, cp, rfl, fun j hj => by simp at hj⟩
  · exact ⟨_, _, rfl, fun j hj => ⟨bb, off, rfl, hc j hj⟩⟩
theorem encs_split (ws : List It) (j : Nat) (hj : j < ws.length) (t : List UInt8) : ∃ rest, (encs ws ++ t).drop (encs (ws.take j)).length = wrB ws[j]! ++ rest := by
  refine ⟨encs (ws.drop (j + 1)) ++ t, ?_⟩
  have e : ws = ws.take j ++ ws[j]! :: ws.drop (j + 1) := by rw [getElem!_pos ws j hj, ← List.drop_eq_getElem_cons hj, List.take_append_drop]
  conv => lhs; rw [e]
  unfold encs
  rw [List.flatMap_append, List.flatMap_cons, List.append_assoc, List.take_left' (by rw [List.length_take]; omega), List.drop_left, List.append_assoc]
theorem encs_take (ws : List It) (j : Nat) (hj : j < ws.length) : (encs (ws.take (j + 1))).length = (encs (ws.take j)).length + (wrB ws[j]!).length := by
  rw [List.take_succ_eq_append_getElem hj, encs_snoc, List.length_append, getElem!_pos ws j hj]
theorem oks_all (l : List It) (hs : ∀ i, i < l.length → (l[i]!).small) (w : World) (B : Nat) (ho : ∀ i, i < l.length → (l[i]!).ok w B) : ∀ j, j < (oks l).length → ((oks l)[j]!).small ∧ ((oks l)[j]!).ok w B ∧ wrE (oks l)[j]! = 0 := by
  intro j hj
  rw [getElem!_pos _ j hj]
  have hm := List.getElem_mem hj
  unfold oks at hm
  rw [List.mem_filter] at hm
  obtain ⟨i, hi, e⟩ := List.getElem_of_mem hm.1
  have h1 := hs i hi
  have h2 := ho i hi
  rw [getElem!_pos l i hi, e] at h1 h2
  have h3 := hm.2
  simp only [decide_eq_true_eq] at h3
  exact ⟨h1, h2, h3⟩
theorem encs_len (ws : List It) (hs : ∀ x ∈ ws, x.small) : (encs ws).length ≤ ws.length * 3009 := by
  induction ws with
  | nil => simp [encs]
  | cons x l ih =>
    have h1 := wireWrites.wrB_len x (hs x (by simp))
    have h2 := ih fun y hy => hs y (by simp [hy])
    rw [show encs (x :: l) = wrB x ++ encs l from rfl, List.length_append, List.length_cons]
    omega
theorem oks_le (l : List It) : (oks l).length ≤ l.length := List.length_filter_le _ _
theorem small_take (l : List It) (hs : ∀ i, i < l.length → (l[i]!).small) (k : Nat) : ∀ x ∈ oks (l.take k), x.small := by
  intro x hx
  unfold oks at hx
  have hm := List.mem_of_mem_take (List.mem_filter.1 hx).1
  obtain ⟨i, hi, e⟩ := List.getElem_of_mem hm
  have := hs i hi
  rw [getElem!_pos l i hi, e] at this
  exact this
theorem raw_rest (r : Nat) (S tl : ByteArray) (a : Nat) (w : World) (h : RdAt w r S a 0) (hS : S.size ≤ 140737488351232) (ha : a ≤ S.size) (hd : S.data.toList.drop a = tl.data.toList) (hz : S.size = a + tl.size) :
    Calls Try.prog 29 #[.pointer (some ⟨r, 0, none⟩), .int .i64 tl.size] w fun e w' => e = .returned (.tuple #[.string tl, .int .i64 0]) ∧ Rd w w' r S S.size 0 := by
  have := Raw_live tl.size r S a w h ha hS
  have hc : takeC S a tl.size = 0 := by unfold takeC; rw [if_neg (by omega)]
  have hv : takeV S a tl.size = .string tl := by
    unfold takeV
    rw [if_neg (by omega), Int.toNat_natCast]
    have := drop_fit0 ha (l := tl.data.toList) (rest := []) (by rw [hd, List.append_nil])
    have hl : tl.data.toList.length = tl.size := Array.length_toList
    rw [hl] at this
    rw [ba_of_list this.2.1]
  rw [if_neg (by omega), if_neg (by omega), hc, hv, Int.toNat_natCast, ← hz] at this
  exact this
theorem end_rest (r : Nat) (S : ByteArray) (w : World) (h : RdAt w r S S.size 0) (hS : S.size ≤ 140737488351232) :
    Calls Try.prog 28 #[.pointer (some ⟨r, 0, none⟩)] w fun e w' => e = .returned (.int .i64 0) ∧ Rd w w' r S S.size 0 := by
  have := End_live r S S.size w h (Nat.le_refl _) hS
  rw [if_neg (by omega)] at this
  exact this
theorem left_rest (r : Nat) (S : ByteArray) (w : World) (h : RdAt w r S S.size 0) (hS : S.size ≤ 140737488351232) :
    Calls Try.prog 25 #[.pointer (some ⟨r, 0, none⟩)] w fun e w' => e = .returned (.int .i64 0) ∧ Rd w w' r S S.size 0 := by
  have := Left_any r S S.size 0 w h (Nat.le_refl _) hS
  rw [Int.sub_self] at this
  exact this
/-- A slice of items that is read. -/
def ItemsAt (w : World) (B : Nat) (so : Option Addr) (l : List It) : Prop := ∀ i, i < l.length → ∃ ib io, so = some ⟨ib, io, none⟩ ∧ ib < B ∧ ItemAt w ib (io + i * 5) l[i]! ∧ (l[i]!).ok w B


set_option maxRecDepth 100000 in
set_option maxHeartbeats 16000000 in
theorem walk (so : Option Addr) (cap : Nat) (l : List It) (tl : ByteArray) (w : World) (htl : tl.size ≤ 140737488351232) (hItems : Items w w.heap.size (.slice so l.length cap) l) (hc : ItemsAt w w.heap.size so l) :
    Calls Try.prog 8 #[.slice so l.length cap, .string tl] w fun e w' => e = .returned (.bool true) ∧ Below w.heap.size w w' := by
  obtain ⟨i0, hi, iz0, iz1, iz2⟩ := info_parts tinfo35
  have HI := Lib.hid hItems
  have HC := Lib.hid hc
  clear hc hItems
  go_enter Try.func8, Try.ntmps8
  go_wp2_with fail
  refine (awake_any _).mono ?_
  rintro e w0 ⟨rfl, hb0⟩
  have hs0 := hb0.size
  go_wp2_with fail
  refine (few_any (HI.out.below hb0) hs0).mono ?_
  rintro e w1 ⟨rfl, hb1⟩
  have hbw1 := hb0.trans (hb1.mono hs0)
  have hs1 := hbw1.size
  have HBW1 := Lib.hid hbw1
  clear hb0 hb1
  cases hf : few l
  · go_wp2
    go_ret
    exact ⟨rfl, HBW1.out⟩
  by_cases ht3 : 3000 < tl.size
  · clear hf
    go_wp2
    go_ret
    exact ⟨rfl, HBW1.out⟩
  obtain ⟨hl30, hsm⟩ := few_true hf
  have HSM := Lib.hid hsm
  have HOK1 := Lib.hid (oks_all l hsm w w.heap.size (fun i hi => by obtain ⟨_, _, _, _, _, h⟩ := HC.out i hi; exact h))
  have HST := Lib.hid (small_take l hsm)
  clear hsm hf hbw1
  go_wp2_with fail
  refine (newWriter_any _).mono ?_
  rintro e w2 ⟨rfl, hw2⟩
  have hW2 := wr_new0 w1
  rw [hw2] at hW2
  have hs2 : w1.heap.size < w2.heap.size := by rw [← hw2]; simp
  have hb2 : Below w.heap.size w w2 := by rw [← hw2]; exact HBW1.out.alloc hs1 _
  have HW2 := Lib.hid hW2
  have HB2 := Lib.hid hb2
  clear hw2 hW2 hb2
  go_wp2_with fail
  go_loopw [6, 32] (fun vw i wr => ∃ k : Nat, k ≤ l.length ∧ i = .int .i64 k ∧ ∃ v, WrAt wr w1.heap.size w1.heap.size v (encs (oks (l.take k))) ∧ wr.ownsRow w1.heap.size 35 5 vw (oks (l.take k)).length (cellsAll (oks (l.take k))) ∧ Below w.heap.size w wr) (fun _ i _ => l.length - (intOf i).toNat)
  case atStart => exact ⟨0, by omega, rfl, _, HW2.out, World.ownsRow_nil _ _ _ _, HB2.out⟩
  case round =>
    obtain ⟨k, hk, rfl, v, hwv, howw, hb⟩ := hrel
    have hbs := hb.size
    have hlen : (encs (oks (l.take k))).length ≤ 30 * 3009 := Nat.le_trans (encs_len _ (HST.out k)) (Nat.mul_le_mul_right _ (Nat.le_trans (oks_le _) (by rw [List.length_take]; omega)))
    have hnw : (oks (l.take k)).length ≤ 30 := Nat.le_trans (oks_le _) (by rw [List.length_take]; omega)
    by_cases hlt : k < l.length
    · obtain ⟨ib, io, rfl, hib, hci, hok⟩ := HC.out k hlt
      have hci' := hci.below hb hib
      have hok' := hok.below hb
      have hsmk := HSM.out k hlt
      have HY := Lib.hid (oks_yes l k hlt)
      have HNO := Lib.hid (oks_no l k hlt)
      obtain ⟨c0, c1, c2, c3, c4⟩ := hci'
      obtain ⟨xo, xc, hsl⟩ := ok_len hok
      rw [hsl] at c4
      generalize oks (l.take k) = ws at *
      obtain ⟨x, hx⟩ : ∃ x, x = l[k]! := ⟨_, rfl⟩
      rw [← hx] at c0 c1 c2 c3 c4 hok' hsmk hsl HY HNO
      clear hci hok hx
      have HOK := Lib.hid hok'
      have HSL := Lib.hid hsl
      have hv : x.val = .agg #[.int .i64 x.kind, .int .i64 x.size, .int .i64 x.n, .string x.s, .slice xo x.L.length xc] := by unfold It.val; rw [HSL.out]
      have h5 : cells5 x = [.int .i64 x.kind, .int .i64 x.size, .int .i64 x.n, .string x.s, .slice xo x.L.length xc] := by unfold cells5; rw [HSL.out]
      have H5 := Lib.hid h5
      have hlw := Blk.lt hwv.1
      have HVL := Lib.hid (fun g (e : v.ownBlock = some g) => (hwv.2.lt g e).2)
      have hba : Below wr.heap.size wr (wr.alloc (.cells #[.int .i64 x.kind, .int .i64 x.size, .int .i64 x.n, .string x.s, .slice xo x.L.length xc] 35)) := (Below.refl _ _).alloc (Nat.le_refl _) _
      have hx0 : Blk (wr.alloc (.cells #[.int .i64 x.kind, .int .i64 x.size, .int .i64 x.n, .string x.s, .slice xo x.L.length xc] 35)) wr.heap.size 35 [.int .i64 x.kind, .int .i64 x.size, .int .i64 x.n, .string x.s, .slice xo x.L.length xc] := Blk.new wr 35 _
      have HWA := Lib.hid (hwv.below hba)
      have HOA := Lib.hid (own_below howw hba)
      have HX0 := Lib.hid hx0
      have HBA := Lib.hid (hb.alloc hbs (.cells #[.int .i64 x.kind, .int .i64 x.size, .int .i64 x.n, .string x.s, .slice xo x.L.length xc] 35))
      have HWC := Lib.hid (show Calls Try.prog 19 #[.pointer (some ⟨w1.heap.size, 0, none⟩), .agg #[.int .i64 x.kind, .int .i64 x.size, .int .i64 x.n, .string x.s, .slice xo x.L.length xc]] (wr.alloc (.cells #[.int .i64 x.kind, .int .i64 x.size, .int .i64 x.n, .string x.s, .slice xo x.L.length xc] 35)) (WritePost (wr.alloc (.cells #[.int .i64 x.kind, .int .i64 x.size, .int .i64 x.n, .string x.s, .slice xo x.L.length xc] 35)) w1.heap.size w1.heap.size v (encs ws) (wrE x) (wrB x)) by
        have := write_any x (HOK.out.below (hba.mono hbs)) hsmk hs1 (Nat.le_refl _) (by omega) HWA.out (by simp; omega)
        rwa [hv] at this)
      clear hok' hsl hv h5 hwv howw hba hx0 hb hsmk
      go_wp2_with fail
      refine HWC.out.mono ?_
      rintro e w5 ⟨rfl, v5, hW5, hF5, _⟩
      have hb5 : Below w1.heap.size (wr.alloc (.cells #[.int .i64 x.kind, .int .i64 x.size, .int .i64 x.n, .string x.s, .slice xo x.L.length xc] 35)) w5 := hF5.toBelow (by simp; omega) (Nat.le_refl _) (fun g e => HWA.out.ownB g e)
      have hb5w : Below w.heap.size w w5 := HBA.out.trans (hb5.mono hs1)
      have hs5 := hb5w.size
      have hf5s := hF5.size
      simp only [World.size_alloc] at hf5s
      have how5 : w5.ownsRow w1.heap.size 35 5 u6 ws.length (cellsAll ws) := own_fr HOA.out hF5 (own_ne HOA.out HWA.out.1 (by decide)) (own_apart HOA.out HWA.out.2 (by decide))
      have hx5 := Fr.blk hF5 HX0.out (by omega) (fun e => by have := HVL.out _ e.symm; omega)
      have HW5 := Lib.hid hW5
      have HB5 := Lib.hid hb5w
      have HX5 := Lib.hid hx5
      by_cases hE : wrE x = 0
      · have hE1 : (wrE x == 0) = true := by rw [beq_iff_eq]; exact hE
        have HNX := Lib.hid (HY.out hE)
        have x0 : w5.cell? ⟨wr.heap.size, 0, none⟩ = some (.int .i64 x.kind) := hx5.cell 0
        have x1 : w5.cell? ⟨wr.heap.size, 1, none⟩ = some (.int .i64 x.size) := hx5.cell 1
        have x2 : w5.cell? ⟨wr.heap.size, 2, none⟩ = some (.int .i64 x.n) := hx5.cell 2
        have x3 : w5.cell? ⟨wr.heap.size, 3, none⟩ = some (.string x.s) := hx5.cell 3
        have x4 : w5.cell? ⟨wr.heap.size, 4, none⟩ = some (.slice xo x.L.length xc) := hx5.cell 4
        clear hE hx5 hW5 hF5 hb5 hb5w c0 c1 c2 c3 c4
        go_wp2_with (at_builtin; refine wpList_append_own_at _ rfl (.tmp 40) (.tmp 42) 30 rfl w1.heap.size 35 i0 (.agg #[.int .i64 0, .int .i64 0, .int .i64 0, .string ⟨#[]⟩, .slice none 0 0]) 5 64 Try.underlying30 hi iz0 iz1 iz2 rfl (by decide) u6 ws.length (cellsAll ws) rfl (how5.alloc _) ⟨w5.heap.size, 0, none⟩ 1 1 [.int .i64 x.kind, .int .i64 x.size, .int .i64 x.n, .string x.s, .slice xo x.L.length xc] rfl rfl (Blk.new w5 35 [.int .i64 x.kind, .int .i64 x.size, .int .i64 x.n, .string x.s, .slice xo x.L.length xc]).lies (by simp [Value.oneCell']) ?b1 ?b2 ?b3 ?go)
        case b1 => unfold maxLen; omega
        case b2 => omega
        case b3 => simp; omega
        case go =>
          intro v' w6 hown6 hg _ _
          have how6 : w6.ownsRow w1.heap.size 35 5 v' (ws ++ [x]).length (cellsAll (ws ++ [x])) := by
            rw [cellsAll_snoc, H5.out, List.length_append]
            exact hown6
          have hnb : u6.ownBlock ≠ some w1.heap.size := own_ne HOA.out HWA.out.1 (by decide)
          have hW6 : WrAt w6 w1.heap.size w1.heap.size v5 (encs (ws ++ [x])) := by
            rw [encs_snoc]
            have hWa := HW5.out.below ((Below.refl _ _).alloc (Nat.le_refl _) (.cells #[.int .i64 x.kind, .int .i64 x.size, .int .i64 x.n, .string x.s, .slice xo x.L.length xc] 35))
            refine ⟨hWa.1.grown hg (fun e => hnb e.symm), hWa.2.kept hg ?_⟩
            cases hu : v5.ownBlock with
            | none => exact .inl rfl
            | some g => exact .inr (fun e => own_apart HW5.out.2 how5 (by decide) g hu e.symm)
          have hb6 : Below w1.heap.size (w5.alloc (.cells #[.int .i64 x.kind, .int .i64 x.size, .int .i64 x.n, .string x.s, .slice xo x.L.length xc] 35)) w6 := Below.grown ((Below.refl _ _)) hg (by simp; omega) (fun g e => (how5.lt g e).1)
          have HB6 := Lib.hid ((HB5.out.alloc HB5.out.size (.cells #[.int .i64 x.kind, .int .i64 x.size, .int .i64 x.n, .string x.s, .slice xo x.L.length xc] 35)).trans (hb6.mono hs1))
          have HW6 := Lib.hid hW6
          have HO6 := Lib.hid how6
          clear hW6 how6 hown6 hg hb6 hnb how5
          go_wp2
          go_roundw
          case rel => exact ⟨k + 1, by omega, by go_num, v5, by rw [HNX.out]; exact HW6.out, by rw [HNX.out]; exact HO6.out, HB6.out⟩
          case measure => simp [intOf]; omega
      · have hE1 : (wrE x == 0) = false := by rw [beq_eq_false_iff_ne]; exact hE
        have HNX := Lib.hid (HNO.out hE)
        have hWX : WrAt w5 w1.heap.size w1.heap.size v5 (encs ws) := by have := HW5.out; rwa [wrB_none x hE, List.append_nil] at this
        have HW6 := Lib.hid hWX
        have HO6 := Lib.hid how5
        clear hE hx5 hW5 hF5 hb5 hb5w c0 c1 c2 c3 c4 hWX how5
        go_wp2
        go_roundw
        case rel => exact ⟨k + 1, by omega, by go_num, v5, by rw [HNX.out]; exact HW6.out, by rw [HNX.out]; exact HO6.out, HB5.out⟩
        case measure => simp [intOf]; omega
    · have hkl : l.take k = l := List.take_of_length_le (by omega)
      rw [hkl] at hwv howw hlen hnw
      have HK := Lib.hid hkl
      clear hkl
      have hOKS := HOK1.out
      generalize oks l = ws at *
      obtain ⟨so2, cap2, rfl, hcw, hcw2, hits⟩ := own_items howw
      have HIT := Lib.hid hits
      clear hits howw
      have hWD := Lib.hid hwv
      go_wp2_with fail
      refine (text_any w1.heap.size w1.heap.size v _ wr hwv).mono ?_
      rintro e w4 ⟨rfl, rfl⟩
      clear hwv hlt hk
      go_wp2_with fail
      obtain ⟨wo, rfl⟩ : ∃ wo : World, wo = wr := ⟨_, rfl⟩
      obtain ⟨S, hSe⟩ : ∃ S : ByteArray, S = ⟨(encs ws).toArray⟩ ++ tl := ⟨_, rfl⟩
      rw [← hSe]
      have hSl : S.data.toList = encs ws ++ tl.data.toList := by rw [hSe, str_append]
      have hSz : S.size = (encs ws).length + tl.size := by
        have h1 : S.data.toList.length = S.size := Array.length_toList
        have h2 : tl.data.toList.length = tl.size := Array.length_toList
        rw [← h1, hSl, List.length_append, h2]
      have HSL := Lib.hid hSl
      have HSZ := Lib.hid hSz
      have hS : S.size ≤ 140737488351232 := by omega
      have hSB : S.size ≤ 100000 := by omega
      have HWD := Lib.hid hWD
      have HBR := Lib.hid hb
      have HOKS := Lib.hid hOKS
      clear hSe hSl hSz hWD hb hOKS
      refine (newReader_any S _).mono ?_
      rintro e wq0 ⟨rfl, hq0⟩
      have hrq0 := rd_new S wo
      rw [hq0] at hrq0
      have hbq0 : Below wo.heap.size wo wq0 := by rw [← hq0]; exact (Below.refl _ _).alloc (Nat.le_refl _) _
      have HRQ0 := Lib.hid hrq0
      have HBQ0 := Lib.hid hbq0
      clear hq0 hrq0 hbq0
      go_wp2_with fail
      go_loopw [54] (fun i wr => ∃ j : Nat, j ≤ ws.length ∧ i = .int .i64 j ∧ RdAt wr wo.heap.size S (encs (ws.take j)).length 0 ∧ Below wo.heap.size wo wr) (fun i _ => ws.length - (intOf i).toNat)
      case atStart => exact ⟨0, by omega, rfl, HRQ0.out, HBQ0.out⟩
      case round =>
        obtain ⟨j, hj, rfl, hrq, hbq⟩ := hrel
        have hqs := hbq.size
        have hqr : wr.heap.size ≠ wo.heap.size := by have := Blk.lt hrq; omega
        by_cases hlt : j < ws.length
        · obtain ⟨g, rfl, hg, hci⟩ := HIT.out j hlt
          obtain ⟨hsm, hok, hE⟩ := HOKS.out j hlt
          obtain ⟨rest, hrest⟩ := encs_split ws j hlt tl.data.toList
          rw [← HSL.out] at hrest
          have HNX := Lib.hid (encs_take ws j hlt)
          have hab : (encs (ws.take j)).length ≤ S.size := by
            have h1 : S.data.toList.length = S.size := Array.length_toList
            have h2 : encs ws = encs (ws.take j) ++ encs (ws.drop j) := by unfold encs; rw [← List.flatMap_append, List.take_append_drop]
            have h3 := congrArg List.length h2
            rw [List.length_append] at h3
            rw [HSZ.out]; omega
          obtain ⟨c0, c1, c2, c3, c4⟩ := hci.below hbq hg
          generalize (encs (ws.take j)).length = a at *
          generalize ws[j]! = x at *
          obtain ⟨kind, size, n, s, sl, L⟩ := x
          obtain ⟨xo, xc, hsl⟩ := ok_len hok
          have HBOO := Lib.hid (bools_boo (hok.2.below HBR.out))
          have hxn := hok.1
          have hsL : L.length ≤ 3000 := hsm.2
          dsimp only at c0 c1 c2 c3 c4 hsl HBOO hxn
          subst hsl
          generalize hLl : (wrB ⟨kind, size, n, s, .slice xo L.length xc, L⟩).length = LEN at HNX
          have HLN := Lib.hid hLl
          have HRQ := Lib.hid hrq
          have HBQ := Lib.hid hbq
          clear hrq hbq hci hok
          by_cases q0 : kind = 0
          · subst q0
            have hO : rdO S a 0 size = ⟨0, a + LEN, n, ⟨#[]⟩, []⟩ := by
              rw [← HLN.out]
              exact wr_rd S a ⟨0, size, n, s, .slice xo L.length xc, L⟩ rest hab hxn.1 hxn.2 hsm hE hrest
            have hR := fun (W : World) (h : RdAt W wo.heap.size S a 0) => read_full 0 size wo.heap.size S a W h hab hS
            rw [hO] at hR
            have HR := Lib.hid hR
            have HX0 := Lib.hid (Blk.new wr 35 [.int .i64 0, .int .i64 size, .int .i64 n, .string ⟨#[]⟩, .slice none 0 0])
            clear hO hR hrest hE hsm hxn
            clear  hab
            go_wp2_with fail
            refine (HR.out _ (by exact Blk.alloc (Blk.alloc HRQ.out _) _)).mono ?_
            rintro e w5 ⟨v5, rfl, ⟨bo, _, hown⟩, hr5⟩
            have hboo := own_boo hown
            obtain ⟨so5, ls5, cs5, rfl⟩ := own_shape hown
            clear hown
            have hx5 : Blk w5 wr.heap.size 35 [.int .i64 0, .int .i64 size, .int .i64 n, .string ⟨#[]⟩, .slice none 0 0] := blk_kept (Blk.alloc HX0.out (.cells #[.int .i64 0, .int .i64 size] 45)) hr5.2 hqr
            have hbB5 : Below wo.heap.size wo w5 := wireStops.rd_below0 ((HBQ.out.alloc hqs _).alloc (by simp; omega) _) hr5 (Nat.le_refl _)
            have HB5 := Lib.hid hbB5
            have HR5 := Lib.hid hr5.1
            have hz5 := Blk.lt hx5
            have x0 : w5.cell? ⟨wr.heap.size, 0, none⟩ = some (.int .i64 0) := hx5.cell 0
            have x1 : w5.cell? ⟨wr.heap.size, 1, none⟩ = some (.int .i64 size) := hx5.cell 1
            have x2 : w5.cell? ⟨wr.heap.size, 2, none⟩ = some (.int .i64 n) := hx5.cell 2
            have x3 : w5.cell? ⟨wr.heap.size, 3, none⟩ = some (.string ⟨#[]⟩) := hx5.cell 3
            have x4 : w5.cell? ⟨wr.heap.size, 4, none⟩ = some (.slice none 0 0) := hx5.cell 4
            have hby : Below w5.heap.size w5 (w5.alloc (.cells #[.int .i64 0, .int .i64 0, .int .i64 n, .string ⟨#[]⟩, .slice so5 ls5 cs5] 35)) := (Below.refl _ _).alloc (Nat.le_refl _) _
            have HS := Lib.hid (same_any 0 size 0 0 n ⟨#[]⟩ (L := []) (by simp) ((Boo.nil _ : Boo w5 _ _).below hby) (hboo.below hby))
            clear hbB5 hx5 hr5 hboo hby
            go_wp2_with fail
            refine HS.out.mono ?_
            rintro e w6 ⟨rfl, hb6⟩
            have HB6 := Lib.hid (HB5.out.trans (((Below.refl _ _).alloc (Nat.le_refl _) _).trans (hb6.mono (by simp)) |>.mono HB5.out.size))
            have HR6 := Lib.hid (Blk.below HR5.out (((Below.refl _ _).alloc (Nat.le_refl _) _).trans (hb6.mono (by simp))) (Blk.lt HR5.out))
            clear hb6
            go_wp2
            go_roundw
            case rel => exact ⟨j + 1, by omega, by go_num, by rw [HNX.out]; exact HR6.out, HB6.out⟩
            case measure => simp [intOf]; omega
          by_cases q1 : kind = 1
          · subst q1
            have hO : rdO S a 1 size = ⟨0, a + LEN, n, ⟨#[]⟩, []⟩ := by
              rw [← HLN.out]
              exact wr_rd S a ⟨1, size, n, s, .slice xo L.length xc, L⟩ rest hab hxn.1 hxn.2 hsm hE hrest
            have hR := fun (W : World) (h : RdAt W wo.heap.size S a 0) => read_full 1 size wo.heap.size S a W h hab hS
            rw [hO] at hR
            have HR := Lib.hid hR
            have HX0 := Lib.hid (Blk.new wr 35 [.int .i64 1, .int .i64 size, .int .i64 n, .string ⟨#[]⟩, .slice none 0 0])
            clear hO hR hrest hE hsm hxn
            clear  hab
            go_wp2_with fail
            refine (HR.out _ (by exact Blk.alloc (Blk.alloc HRQ.out _) _)).mono ?_
            rintro e w5 ⟨v5, rfl, ⟨bo, _, hown⟩, hr5⟩
            have hboo := own_boo hown
            obtain ⟨so5, ls5, cs5, rfl⟩ := own_shape hown
            clear hown
            have hx5 : Blk w5 wr.heap.size 35 [.int .i64 1, .int .i64 size, .int .i64 n, .string ⟨#[]⟩, .slice none 0 0] := blk_kept (Blk.alloc HX0.out (.cells #[.int .i64 1, .int .i64 size] 45)) hr5.2 hqr
            have hbB5 : Below wo.heap.size wo w5 := wireStops.rd_below0 ((HBQ.out.alloc hqs _).alloc (by simp; omega) _) hr5 (Nat.le_refl _)
            have HB5 := Lib.hid hbB5
            have HR5 := Lib.hid hr5.1
            have hz5 := Blk.lt hx5
            have x0 : w5.cell? ⟨wr.heap.size, 0, none⟩ = some (.int .i64 1) := hx5.cell 0
            have x1 : w5.cell? ⟨wr.heap.size, 1, none⟩ = some (.int .i64 size) := hx5.cell 1
            have x2 : w5.cell? ⟨wr.heap.size, 2, none⟩ = some (.int .i64 n) := hx5.cell 2
            have x3 : w5.cell? ⟨wr.heap.size, 3, none⟩ = some (.string ⟨#[]⟩) := hx5.cell 3
            have x4 : w5.cell? ⟨wr.heap.size, 4, none⟩ = some (.slice none 0 0) := hx5.cell 4
            have hby : Below w5.heap.size w5 (w5.alloc (.cells #[.int .i64 0, .int .i64 0, .int .i64 n, .string ⟨#[]⟩, .slice so5 ls5 cs5] 35)) := (Below.refl _ _).alloc (Nat.le_refl _) _
            have HS := Lib.hid (same_any 1 size 0 0 n ⟨#[]⟩ (L := []) (by simp) ((Boo.nil _ : Boo w5 _ _).below hby) (hboo.below hby))
            clear hbB5 hx5 hr5 hboo hby
            go_wp2_with fail
            refine HS.out.mono ?_
            rintro e w6 ⟨rfl, hb6⟩
            have HB6 := Lib.hid (HB5.out.trans (((Below.refl _ _).alloc (Nat.le_refl _) _).trans (hb6.mono (by simp)) |>.mono HB5.out.size))
            have HR6 := Lib.hid (Blk.below HR5.out (((Below.refl _ _).alloc (Nat.le_refl _) _).trans (hb6.mono (by simp))) (Blk.lt HR5.out))
            clear hb6
            go_wp2
            go_roundw
            case rel => exact ⟨j + 1, by omega, by go_num, by rw [HNX.out]; exact HR6.out, HB6.out⟩
            case measure => simp [intOf]; omega
          by_cases q2 : kind = 2
          · subst q2
            have hO : rdO S a 2 size = ⟨0, a + LEN, n, ⟨#[]⟩, []⟩ := by
              rw [← HLN.out]
              exact wr_rd S a ⟨2, size, n, s, .slice xo L.length xc, L⟩ rest hab hxn.1 hxn.2 hsm hE hrest
            have hR := fun (W : World) (h : RdAt W wo.heap.size S a 0) => read_full 2 size wo.heap.size S a W h hab hS
            rw [hO] at hR
            have HR := Lib.hid hR
            have HX0 := Lib.hid (Blk.new wr 35 [.int .i64 2, .int .i64 size, .int .i64 n, .string ⟨#[]⟩, .slice none 0 0])
            clear hO hR hrest hE hsm hxn
            clear  hab
            go_wp2_with fail
            refine (HR.out _ (by exact Blk.alloc (Blk.alloc HRQ.out _) _)).mono ?_
            rintro e w5 ⟨v5, rfl, ⟨bo, _, hown⟩, hr5⟩
            have hboo := own_boo hown
            obtain ⟨so5, ls5, cs5, rfl⟩ := own_shape hown
            clear hown
            have hx5 : Blk w5 wr.heap.size 35 [.int .i64 2, .int .i64 size, .int .i64 n, .string ⟨#[]⟩, .slice none 0 0] := blk_kept (Blk.alloc HX0.out (.cells #[.int .i64 2, .int .i64 size] 45)) hr5.2 hqr
            have hbB5 : Below wo.heap.size wo w5 := wireStops.rd_below0 ((HBQ.out.alloc hqs _).alloc (by simp; omega) _) hr5 (Nat.le_refl _)
            have HB5 := Lib.hid hbB5
            have HR5 := Lib.hid hr5.1
            have hz5 := Blk.lt hx5
            have x0 : w5.cell? ⟨wr.heap.size, 0, none⟩ = some (.int .i64 2) := hx5.cell 0
            have x1 : w5.cell? ⟨wr.heap.size, 1, none⟩ = some (.int .i64 size) := hx5.cell 1
            have x2 : w5.cell? ⟨wr.heap.size, 2, none⟩ = some (.int .i64 n) := hx5.cell 2
            have x3 : w5.cell? ⟨wr.heap.size, 3, none⟩ = some (.string ⟨#[]⟩) := hx5.cell 3
            have x4 : w5.cell? ⟨wr.heap.size, 4, none⟩ = some (.slice none 0 0) := hx5.cell 4
            have hby : Below w5.heap.size w5 (w5.alloc (.cells #[.int .i64 0, .int .i64 0, .int .i64 n, .string ⟨#[]⟩, .slice so5 ls5 cs5] 35)) := (Below.refl _ _).alloc (Nat.le_refl _) _
            have HS := Lib.hid (same_any 2 size 0 0 n ⟨#[]⟩ (L := []) (by simp) ((Boo.nil _ : Boo w5 _ _).below hby) (hboo.below hby))
            clear hbB5 hx5 hr5 hboo hby
            go_wp2_with fail
            refine HS.out.mono ?_
            rintro e w6 ⟨rfl, hb6⟩
            have HB6 := Lib.hid (HB5.out.trans (((Below.refl _ _).alloc (Nat.le_refl _) _).trans (hb6.mono (by simp)) |>.mono HB5.out.size))
            have HR6 := Lib.hid (Blk.below HR5.out (((Below.refl _ _).alloc (Nat.le_refl _) _).trans (hb6.mono (by simp))) (Blk.lt HR5.out))
            clear hb6
            go_wp2
            go_roundw
            case rel => exact ⟨j + 1, by omega, by go_num, by rw [HNX.out]; exact HR6.out, HB6.out⟩
            case measure => simp [intOf]; omega
          by_cases q3 : kind = 3
          · subst q3
            have hO : rdO S a 3 (s.size : Nat) = ⟨0, a + LEN, 0, s, []⟩ := by
              rw [← HLN.out]
              exact wr_rd S a ⟨3, size, n, s, .slice xo L.length xc, L⟩ rest hab hxn.1 hxn.2 hsm hE hrest
            have hR := fun (W : World) (h : RdAt W wo.heap.size S a 0) => read_full 3 (s.size : Nat) wo.heap.size S a W h hab hS
            rw [hO] at hR
            have HR := Lib.hid hR
            have HX0 := Lib.hid (Blk.new wr 35 [.int .i64 3, .int .i64 size, .int .i64 0, .string s, .slice none 0 0])
            clear hO hR hrest hE hsm hxn
            clear  hab
            go_wp2_with fail
            refine (HR.out _ (by exact Blk.alloc (Blk.alloc HRQ.out _) _)).mono ?_
            rintro e w5 ⟨v5, rfl, ⟨bo, _, hown⟩, hr5⟩
            have hboo := own_boo hown
            obtain ⟨so5, ls5, cs5, rfl⟩ := own_shape hown
            clear hown
            have hx5 : Blk w5 wr.heap.size 35 [.int .i64 3, .int .i64 size, .int .i64 0, .string s, .slice none 0 0] := blk_kept (Blk.alloc HX0.out (.cells #[.int .i64 3, .int .i64 (s.size : Nat)] 45)) hr5.2 hqr
            have hbB5 : Below wo.heap.size wo w5 := wireStops.rd_below0 ((HBQ.out.alloc hqs _).alloc (by simp; omega) _) hr5 (Nat.le_refl _)
            have HB5 := Lib.hid hbB5
            have HR5 := Lib.hid hr5.1
            have hz5 := Blk.lt hx5
            have x0 : w5.cell? ⟨wr.heap.size, 0, none⟩ = some (.int .i64 3) := hx5.cell 0
            have x1 : w5.cell? ⟨wr.heap.size, 1, none⟩ = some (.int .i64 size) := hx5.cell 1
            have x2 : w5.cell? ⟨wr.heap.size, 2, none⟩ = some (.int .i64 0) := hx5.cell 2
            have x3 : w5.cell? ⟨wr.heap.size, 3, none⟩ = some (.string s) := hx5.cell 3
            have x4 : w5.cell? ⟨wr.heap.size, 4, none⟩ = some (.slice none 0 0) := hx5.cell 4
            have hby : Below w5.heap.size w5 (w5.alloc (.cells #[.int .i64 0, .int .i64 0, .int .i64 0, .string s, .slice so5 ls5 cs5] 35)) := (Below.refl _ _).alloc (Nat.le_refl _) _
            have HS := Lib.hid (same_any 3 size 0 0 0 s (L := []) (by simp) ((Boo.nil _ : Boo w5 _ _).below hby) (hboo.below hby))
            clear hbB5 hx5 hr5 hboo hby
            go_wp2_with fail
            refine HS.out.mono ?_
            rintro e w6 ⟨rfl, hb6⟩
            have HB6 := Lib.hid (HB5.out.trans (((Below.refl _ _).alloc (Nat.le_refl _) _).trans (hb6.mono (by simp)) |>.mono HB5.out.size))
            have HR6 := Lib.hid (Blk.below HR5.out (((Below.refl _ _).alloc (Nat.le_refl _) _).trans (hb6.mono (by simp))) (Blk.lt HR5.out))
            clear hb6
            go_wp2
            go_roundw
            case rel => exact ⟨j + 1, by omega, by go_num, by rw [HNX.out]; exact HR6.out, HB6.out⟩
            case measure => simp [intOf]; omega
          by_cases q6 : kind = 6
          · subst q6
            have hO : rdO S a 2 size = ⟨0, a + LEN, n, ⟨#[]⟩, []⟩ := by
              rw [← HLN.out]
              exact wr_rd S a ⟨6, size, n, s, .slice xo L.length xc, L⟩ rest hab hxn.1 hxn.2 hsm hE hrest
            have hR := fun (W : World) (h : RdAt W wo.heap.size S a 0) => read_full 2 size wo.heap.size S a W h hab hS
            rw [hO] at hR
            have HR := Lib.hid hR
            have HX0 := Lib.hid (Blk.new wr 35 [.int .i64 6, .int .i64 size, .int .i64 n, .string ⟨#[]⟩, .slice none 0 0])
            clear hO hR hrest hE hsm hxn
            clear  hab
            go_wp2_with fail
            refine (HR.out _ (by exact Blk.alloc (Blk.alloc HRQ.out _) _)).mono ?_
            rintro e w5 ⟨v5, rfl, ⟨bo, _, hown⟩, hr5⟩
            have hboo := own_boo hown
            obtain ⟨so5, ls5, cs5, rfl⟩ := own_shape hown
            clear hown
            have hx5 : Blk w5 wr.heap.size 35 [.int .i64 6, .int .i64 size, .int .i64 n, .string ⟨#[]⟩, .slice none 0 0] := blk_kept (Blk.alloc HX0.out (.cells #[.int .i64 2, .int .i64 size] 45)) hr5.2 hqr
            have hbB5 : Below wo.heap.size wo w5 := wireStops.rd_below0 ((HBQ.out.alloc hqs _).alloc (by simp; omega) _) hr5 (Nat.le_refl _)
            have HB5 := Lib.hid hbB5
            have HR5 := Lib.hid hr5.1
            have hz5 := Blk.lt hx5
            have x0 : w5.cell? ⟨wr.heap.size, 0, none⟩ = some (.int .i64 6) := hx5.cell 0
            have x1 : w5.cell? ⟨wr.heap.size, 1, none⟩ = some (.int .i64 size) := hx5.cell 1
            have x2 : w5.cell? ⟨wr.heap.size, 2, none⟩ = some (.int .i64 n) := hx5.cell 2
            have x3 : w5.cell? ⟨wr.heap.size, 3, none⟩ = some (.string ⟨#[]⟩) := hx5.cell 3
            have x4 : w5.cell? ⟨wr.heap.size, 4, none⟩ = some (.slice none 0 0) := hx5.cell 4
            have hby : Below w5.heap.size w5 (w5.alloc (.cells #[.int .i64 0, .int .i64 0, .int .i64 n, .string ⟨#[]⟩, .slice so5 ls5 cs5] 35)) := (Below.refl _ _).alloc (Nat.le_refl _) _
            have HS := Lib.hid (same_any 6 size 0 0 n ⟨#[]⟩ (L := []) (by simp) ((Boo.nil _ : Boo w5 _ _).below hby) (hboo.below hby))
            clear hbB5 hx5 hr5 hboo hby
            go_wp2_with fail
            refine HS.out.mono ?_
            rintro e w6 ⟨rfl, hb6⟩
            have HB6 := Lib.hid (HB5.out.trans (((Below.refl _ _).alloc (Nat.le_refl _) _).trans (hb6.mono (by simp)) |>.mono HB5.out.size))
            have HR6 := Lib.hid (Blk.below HR5.out (((Below.refl _ _).alloc (Nat.le_refl _) _).trans (hb6.mono (by simp))) (Blk.lt HR5.out))
            clear hb6
            go_wp2
            go_roundw
            case rel => exact ⟨j + 1, by omega, by go_num, by rw [HNX.out]; exact HR6.out, HB6.out⟩
            case measure => simp [intOf]; omega
          by_cases q4 : kind = 4
          · subst q4
            have hO : rdO S a 4 (L.length : Nat) = ⟨0, a + LEN, 0, ⟨#[]⟩, L⟩ := by
              rw [← HLN.out]
              exact wr_rd S a ⟨4, size, n, s, .slice xo L.length xc, L⟩ rest hab hxn.1 hxn.2 hsm hE hrest
            have hR := fun (W : World) (h : RdAt W wo.heap.size S a 0) => read_full 4 (L.length : Nat) wo.heap.size S a W h hab hS
            rw [hO] at hR
            have HR := Lib.hid hR
            have HX0 := Lib.hid (Blk.new wr 35 [.int .i64 4, .int .i64 size, .int .i64 0, .string ⟨#[]⟩, .slice xo L.length xc])
            clear hO hR hrest hE hsm hxn
            clear  hab
            go_wp2_with fail
            refine (HR.out _ (by exact Blk.alloc (Blk.alloc HRQ.out _) _)).mono ?_
            rintro e w5 ⟨v5, rfl, ⟨bo, _, hown⟩, hr5⟩
            have hboo := own_boo hown
            obtain ⟨so5, ls5, cs5, rfl⟩ := own_shape hown
            clear hown
            have hx5 : Blk w5 wr.heap.size 35 [.int .i64 4, .int .i64 size, .int .i64 0, .string ⟨#[]⟩, .slice xo L.length xc] := blk_kept (Blk.alloc HX0.out (.cells #[.int .i64 4, .int .i64 (L.length : Nat)] 45)) hr5.2 hqr
            have hbB5 : Below wo.heap.size wo w5 := wireStops.rd_below0 ((HBQ.out.alloc hqs _).alloc (by simp; omega) _) hr5 (Nat.le_refl _)
            have HB5 := Lib.hid hbB5
            have HR5 := Lib.hid hr5.1
            have hz5 := Blk.lt hx5
            have x0 : w5.cell? ⟨wr.heap.size, 0, none⟩ = some (.int .i64 4) := hx5.cell 0
            have x1 : w5.cell? ⟨wr.heap.size, 1, none⟩ = some (.int .i64 size) := hx5.cell 1
            have x2 : w5.cell? ⟨wr.heap.size, 2, none⟩ = some (.int .i64 0) := hx5.cell 2
            have x3 : w5.cell? ⟨wr.heap.size, 3, none⟩ = some (.string ⟨#[]⟩) := hx5.cell 3
            have x4 : w5.cell? ⟨wr.heap.size, 4, none⟩ = some (.slice xo L.length xc) := hx5.cell 4
            have hby : Below w5.heap.size w5 (w5.alloc (.cells #[.int .i64 0, .int .i64 0, .int .i64 0, .string ⟨#[]⟩, .slice so5 ls5 cs5] 35)) := (Below.refl _ _).alloc (Nat.le_refl _) _
            have HS := Lib.hid (same_any 4 size 0 0 0 ⟨#[]⟩ (L := L) (by have := hsL; omega) ((HBOO.out.below (by exact hbB5) : Boo w5 _ _).below hby) (hboo.below hby))
            clear hbB5 hx5 hr5 hboo hby
            go_wp2_with fail
            refine HS.out.mono ?_
            rintro e w6 ⟨rfl, hb6⟩
            have HB6 := Lib.hid (HB5.out.trans (((Below.refl _ _).alloc (Nat.le_refl _) _).trans (hb6.mono (by simp)) |>.mono HB5.out.size))
            have HR6 := Lib.hid (Blk.below HR5.out (((Below.refl _ _).alloc (Nat.le_refl _) _).trans (hb6.mono (by simp))) (Blk.lt HR5.out))
            clear hb6
            go_wp2
            go_roundw
            case rel => exact ⟨j + 1, by omega, by go_num, by rw [HNX.out]; exact HR6.out, HB6.out⟩
            case measure => simp [intOf]; omega
          have hO : rdO S a kind (s.size : Nat) = ⟨0, a + LEN, 0, s, []⟩ := by
            rw [← HLN.out]
            have := wr_rd S a ⟨kind, size, n, s, .slice xo L.length xc, L⟩ rest hab hxn.1 hxn.2 hsm hE hrest
            unfold askK askN backN backS backL at this
            dsimp only at this
            rw [if_neg q6, if_neg (by rintro (h | h | h | h) <;> contradiction), if_neg q4, if_neg (by rintro (h | h | h | h) <;> contradiction), if_neg (by rintro (h | h | h | h | h) <;> contradiction), if_neg q4] at this
            exact this
          have hR := fun (W : World) (h : RdAt W wo.heap.size S a 0) => read_full kind (s.size : Nat) wo.heap.size S a W h hab hS
          rw [hO] at hR
          have HR := Lib.hid hR
          have HX0 := Lib.hid (Blk.new wr 35 [.int .i64 kind, .int .i64 size, .int .i64 0, .string s, .slice none 0 0])
          clear hO hR hrest hE hsm hxn
          have g0 : (kind == 0) = false := by rw [beq_eq_false_iff_ne]; exact q0
          have g1 : (kind == 1) = false := by rw [beq_eq_false_iff_ne]; exact q1
          have g2 : (kind == 2) = false := by rw [beq_eq_false_iff_ne]; exact q2
          have g3 : (kind == 3) = false := by rw [beq_eq_false_iff_ne]; exact q3
          have g4 : (kind == 4) = false := by rw [beq_eq_false_iff_ne]; exact q4
          have g6 : (kind == 6) = false := by rw [beq_eq_false_iff_ne]; exact q6
          clear q0 q1 q2 q3 q4 q6 hab
          go_wp2_with fail
          refine (HR.out _ (by exact Blk.alloc (Blk.alloc HRQ.out _) _)).mono ?_
          rintro e w5 ⟨v5, rfl, ⟨bo, _, hown⟩, hr5⟩
          have hboo := own_boo hown
          obtain ⟨so5, ls5, cs5, rfl⟩ := own_shape hown
          clear hown
          have hx5 : Blk w5 wr.heap.size 35 [.int .i64 kind, .int .i64 size, .int .i64 0, .string s, .slice none 0 0] := blk_kept (Blk.alloc HX0.out (.cells #[.int .i64 kind, .int .i64 (s.size : Nat)] 45)) hr5.2 hqr
          have hbB5 : Below wo.heap.size wo w5 := wireStops.rd_below0 ((HBQ.out.alloc hqs _).alloc (by simp; omega) _) hr5 (Nat.le_refl _)
          have HB5 := Lib.hid hbB5
          have HR5 := Lib.hid hr5.1
          have hz5 := Blk.lt hx5
          have x0 : w5.cell? ⟨wr.heap.size, 0, none⟩ = some (.int .i64 kind) := hx5.cell 0
          have x1 : w5.cell? ⟨wr.heap.size, 1, none⟩ = some (.int .i64 size) := hx5.cell 1
          have x2 : w5.cell? ⟨wr.heap.size, 2, none⟩ = some (.int .i64 0) := hx5.cell 2
          have x3 : w5.cell? ⟨wr.heap.size, 3, none⟩ = some (.string s) := hx5.cell 3
          have x4 : w5.cell? ⟨wr.heap.size, 4, none⟩ = some (.slice none 0 0) := hx5.cell 4
          have hby : Below w5.heap.size w5 (w5.alloc (.cells #[.int .i64 0, .int .i64 0, .int .i64 0, .string s, .slice so5 ls5 cs5] 35)) := (Below.refl _ _).alloc (Nat.le_refl _) _
          have HS := Lib.hid (same_any kind size 0 0 0 s (L := []) (by simp) ((Boo.nil _ : Boo w5 _ _).below hby) (hboo.below hby))
          clear hbB5 hx5 hr5 hboo hby
          go_wp2_with fail
          refine HS.out.mono ?_
          rintro e w6 ⟨rfl, hb6⟩
          have HB6 := Lib.hid (HB5.out.trans (((Below.refl _ _).alloc (Nat.le_refl _) _).trans (hb6.mono (by simp)) |>.mono HB5.out.size))
          have HR6 := Lib.hid (Blk.below HR5.out (((Below.refl _ _).alloc (Nat.le_refl _) _).trans (hb6.mono (by simp))) (Blk.lt HR5.out))
          clear hb6
          go_wp2
          go_roundw
          case rel => exact ⟨j + 1, by omega, by go_num, by rw [HNX.out]; exact HR6.out, HB6.out⟩
          case measure => simp [intOf]; omega
        · have htk : ws.take j = ws := List.take_of_length_le (by omega)
          rw [htk] at hrq
          have hab : (encs ws).length ≤ S.size := by rw [HSZ.out]; omega
          have hdr : S.data.toList.drop (encs ws).length = tl.data.toList := by rw [HSL.out, List.drop_left]
          have HRW := Lib.hid (raw_rest wo.heap.size S tl _ wr hrq hS hab hdr HSZ.out)
          have hat : ((S.size : Int) == ((encs ws).length : Int) + tl.size) = true := by rw [beq_iff_eq, HSZ.out]; omega
          have HBQ := Lib.hid hbq
          have HSZ2 := Lib.hid hSB
          clear htk hrq hab hdr hbq
          go_wp2_with fail
          refine HRW.out.mono ?_
          rintro e w5 ⟨rfl, hr5⟩
          have HB5 := Lib.hid (wireStops.rd_below0 HBQ.out hr5 (Nat.le_refl _))
          have HR5 := Lib.hid hr5.1
          clear hr5
          go_wp2_with fail
          refine (end_rest _ S _ (by exact HR5.out) hS).mono ?_
          rintro e w6 ⟨rfl, hr6⟩
          have HB6 := Lib.hid (wireStops.rd_below0 HB5.out hr6 (Nat.le_refl _))
          have HR6 := Lib.hid hr6.1
          clear hr6
          go_wp2_with fail
          refine (left_rest _ S _ (by exact HR6.out) hS).mono ?_
          rintro e w7 ⟨rfl, hr7⟩
          have HB7 := Lib.hid (wireStops.rd_below0 HB6.out hr7 (Nat.le_refl _))
          have HR7 := Lib.hid hr7.1
          clear hr7
          go_wp2_with fail
          refine (At_any _ S S.size 0 _ (by exact HR7.out)).mono ?_
          rintro e w8 ⟨rfl, rfl⟩
          go_wp2_with fail
          refine (len_any w1.heap.size w1.heap.size v _ _ (by exact HWD.out.below HB7.out)).mono ?_
          rintro e w8 ⟨rfl, rfl⟩
          go_wp2
          go_ret
          exact ⟨rfl, HBR.out.trans (HB7.out.mono HBR.out.size)⟩
open Go.ChangeShapes Go.WideShapes Go.ChangeAt Go.Deep
set_option maxRecDepth 100000 in
theorem lifted (os : Os) (started : os.Started) (H : Type) (enc : TypeId × Value → H) :
    ReturnsInHanded {} Try.checked os 8 .any (Rows.wireReturnsSpec.pre6 enc Try.prog Try.f8 Rows.wireReturnsRow.domain false) (Rows.wireReturnsSpec.post enc Try.prog Try.f8 false true false false) := by
  refine returnsInHanded_of_change_sized (C := Try.checked) Try.own started (by kernel_rfl) Try.func8
    (ChangeSpec.witness6 (enc := enc) (C := Try.checked) false ⟨#[], #[.slice none 0 0, .string ⟨#[]⟩], []⟩ 8 (by kernel_rfl) (by kernel_rfl) (by kernel_rfl) (by kernel_rfl)) ?_
  intro W base args ds gs before hval0 hW _ hsz0 _
  have hval : ∀ (j : Nat) t v, Try.f8.params[j]? = some t → args[j]? = some v → Value.okWide Try.prog W .any base t v := hval0
  have hW' := hW
  obtain ⟨p, q, hA0, hV, rfl, _, _⟩ := hW
  have hA : DataW.TrodAll enc Try.prog W 0 (fun _ => true) true Try.f8.params.toList args.toList ds p := hA0
  have hsz : (DataW.weightsEach Try.prog (Try.f8.params.toList ++ Rows.wireReturnsSpec.plain.varTypes Try.prog) (ds ++ gs)).all (· ≤ reachBytes) = true := hsz0
  rw [Try.params8] at hA hval hsz
  obtain ⟨v0, vs0, d0, ds0, p0, q0, hargs, rfl, rfl, h0, r0⟩ := trodAll_cons hA
  obtain ⟨v1, vs1, d1, ds1, p1, q1, rfl, rfl, rfl, h1, r1⟩ := trodAll_cons r0
  obtain ⟨rfl, rfl, rfl⟩ := trodAll_nil r1
  obtain rfl : args = #[v0, v1] := by cases args; simp_all
  have hwt : ∀ (j : Nat) (t : TypeId) (d : DataW H), [30, 9][j]? = some t → [d0, d1][j]? = some d → ∀ m ∈ d.weights Try.prog t, m ≤ reachBytes := by
    intro j t d ht hd m hm
    have hj : j < 2 := (List.getElem?_eq_some_iff.1 ht).1
    have := List.all_eq_true.1 hsz m (DataW.weights_mem_each (j := j) (t := t) (d := d) (by rcases j with _ | _ | j <;> first | exact ht | omega) (by rcases j with _ | _ | j <;> first | exact hd | omega) m hm)
    simpa using this
  obtain ⟨l, hl⟩ := open_items (hval 0 30 v0 rfl rfl) h0 (hwt 0 30 d0 rfl rfl)
  obtain ⟨s, rfl⟩ := okWide_string Try.underlying9 (hval 1 9 v1 rfl rfl)
  obtain ⟨fu, hfu⟩ := h1
  obtain ⟨s', hs1, hs2, _⟩ := DataW.trod_string Try.underlying9 hfu
  obtain rfl : s = s' := by simpa [Value.cells] using hs1
  have hd1 : d1 = .lit (.string s.data.toList) := congrArg Prod.fst hs2
  have hs : s.size ≤ 140737488351232 := by
    have := hwt 1 9 d1 rfl rfl s.size (by rw [hd1]; simp [DataW.weights])
    rw [reach_is] at this
    exact this
  clear hA0 hval0 hsz0
  obtain ⟨so, cap, hv⟩ : ∃ so cap, v0 = .slice so l.length cap := by
    rcases hl with ⟨⟨ao, cp, h1⟩, h2⟩ | ⟨ib, io, cap, h1, _⟩
    · exact ⟨ao, cp, by rw [h1, h2]; rfl⟩
    · exact ⟨_, _, h1⟩
  subst hv
  have hat : ItemsAt W W.heap.size so l := by
    intro i hi
    rcases hl with ⟨_, h2⟩ | ⟨ib, io, cap', h1, h2, _, _, h5⟩
    · rw [h2] at hi; simp at hi
    · injection h1 with h1 _ _
      exact ⟨ib, io, h1, h2, h5 i hi⟩
  refine (walk so cap l s W hs hl hat).mono fun e W' ⟨he, hb⟩ => ?_
  subst he
  exact ⟨_, rfl, post_law Try.laidOut rfl rfl Try.underlying4 rfl (by intro t ht; rw [Try.params8] at ht; simp at ht; rcases ht with rfl | rfl <;> exact ⟨by kernel_rfl, of_decide_eq_true (by kernel_rfl)⟩) hW' hb⟩

theorem over : Rows.wireReturnsRow.holds Try.pinned (OpenSpec.ofChange Rows.wireReturnsSpec) :=
  OpenClaim.holds_of_wide 8 Try.f8 rfl rfl rfl rfl rfl rfl rfl ⟨rfl, rfl, rfl, rfl, rfl⟩ rfl rfl rfl rfl rfl (by kernel_rfl) Try.func8 (by kernel_rfl)
    (of_decide_eq_true (by kernel_rfl)) (by unfold Func.isWrapper; first | (rw [if_pos (by decide +kernel)]; kernel_rfl) | (rw [if_neg (by decide +kernel)]; exact ⟨rfl, rfl⟩))
    (fun os started H enc _ => lifted os started H enc)

/-- THE STATEMENT. -/
theorem proved : Rows.WireReturnsSaid := over
#print axioms proved
end wireReturns
end Go.Proofs.Yteendimoopmakaa
