/- do: its walk. -/
import Derived.Test.YtmnlojbfdpjjdaaA7
import Derived.Deep.AppendLies
namespace Go.Proofs.Ytmnlojbfdpjjdaa
open Go.RowKit
attribute [local go_sem] Oper.semAt_some
attribute [local go_sem ↓] run_appSem
theorem setCell_same {w : World} {g i : Nat} {t : TypeId} {cs : List Value} {v : Value} (h : Blk w g t cs) (hv : w.cell? ⟨g, i, none⟩ = some v) : w.setCell ⟨g, i, none⟩ v = w := by
  have hs := h.set_ i v
  rw [h.cell] at hv
  obtain ⟨hi, he⟩ := List.getElem?_eq_some_iff.1 hv
  rw [show cs.set i v = cs by rw [← he]; exact List.set_getElem_self hi] at hs
  have hh : (w.setCell ⟨g, i, none⟩ v).heap = w.heap := by
    refine Array.ext_getElem? fun k => ?_
    by_cases e : k = g
    · subst e; exact hs.trans h.symm
    · exact Below.heap_setCell w _ v k e
  have : w.setCell ⟨g, i, none⟩ v = { w with heap := (w.setCell ⟨g, i, none⟩ v).heap } := rfl
  rw [this, hh]
theorem PipeAt.drewN {w : World} {g : Nat} {S : Sl} {st : St} (h : PipeAt w g S st) (n : Nat) : PipeAt (w.drewN n) g S st := h.keep fun _ _ => rfl
theorem Turn.drewN {g : Nat} {S S' : Sl} {w w' : World} (h : Turn g S w S' w') (n : Nat) : Turn g S w S' (w'.drewN n) := ⟨h.os, h.tape, h.output, h.size, h.block, h.mine⟩
set_option maxHeartbeats 800000 in
theorem do_none (x : Op) (he : emptyB x = true) (g : Nat) (w : World) :
    Calls Try.prog 56 #[.pointer (some ⟨g, 0, none⟩), opV x] w fun e w' => e = .returned (.tuple #[.int .i64 0, .string ⟨#[]⟩]) ∧ Below w.heap.size w w' := by
  have CE := Lib.hid (fun W => empty_any x W)
  rw [he] at CE
  clear he
  obtain ⟨k, f, c, d⟩ := x
  unfold opV at *
  go_enter Try.func56, Try.ntmps56
  go_wp2_with (go_at_call 72; refine (CE.out _).mono ?_; rintro e v1 ⟨rfl, hb1⟩)
  go_ret2
  exact ⟨rfl, keepBelow ((Below.refl _ _).alloc (Nat.le_refl _) _) hb1⟩
set_option maxHeartbeats 1600000 in
theorem do_write (x : Op) (hx : OpIn x) (he : emptyB x = false) (hk1 : x.kind = 1) (g : Nat) (S : Sl) (st : St) (w : World) (hP : PipeAt w g S st) (hs : Sm st) (hd : x.data.size ≤ 1000000) :
    Calls Try.prog 56 #[.pointer (some ⟨g, 0, none⟩), opV x] w fun e w' => e = .returned (.tuple #[.int .i64 x.data.size, .string ⟨#[]⟩]) ∧ ∃ S', PipeAt w' g S' (setQ st x (qOf st x ++ [x.data])) ∧ Turn g S w S' w' := by
  obtain ⟨i0, hi, hz0, hz1, hz2⟩ := info_parts Try.info9
  have CE := Lib.hid (fun W => empty_any x W)
  rw [he] at CE
  have CQ := Lib.hid (fun W => queue_any g x.kind x.fin x.count x.data hx.1 hx.2 W)
  have hql : (qOf st x).length ≤ 100000 := by have := hs.q; unfold qOf; split <;> omega
  have HP := Lib.hid (fun W (hb : Below w.heap.size w W) => hP.below hb)
  obtain ⟨o, ho⟩ : ∃ o, o = qo x.kind x.fin := ⟨_, rfl⟩
  have HQ := Lib.hid (fun W (hb : Below w.heap.size w W) => (hP.below hb).queue2 x)
  have HU := Lib.hid (fun W (hb : Below w.heap.size w W) W1 v (hg : W.grownBy W1 (sOf S x).ownBlock) hr h0 => (hP.below hb).updQ (w1 := W1) x (v := v) (qOf st x ++ [x.data]) hg hr h0)
  rw [← ho] at CQ HQ HU
  have hg := hP.blk.lt
  have HX := Lib.hid hx
  have hst : setQ st x (qOf st x ++ [x.data]) = setQ st x (qOf st x ++ [x.data]) := rfl
  generalize setQ st x (qOf st x ++ [x.data]) = st' at *
  generalize setS S x = ss at *
  generalize sOf S x = sv at *
  generalize qOf st x = q at *
  clear hst he hx hP hs ho
  obtain ⟨k, f, c, d⟩ := x
  simp only at hk1 hd CE CQ HU
  subst hk1
  unfold opV at *
  go_enter Try.func56, Try.ntmps56
  go_upto_region 5 with (first
    | (go_at_call 72; refine (CE.out _).mono ?_; rintro e v1 ⟨rfl, hb1⟩; have K1 := Lib.hid (keepBlk hb1 (Blk.new w 42 [.int .i64 1, .int .i64 f, .int .i64 c, .string d])); have b0v1 : v1.cell? ⟨w.heap.size, 0, none⟩ = some (.int .i64 1) := K1.out.cell 0; have b1v1 : v1.cell? ⟨w.heap.size, 1, none⟩ = some (.int .i64 f) := K1.out.cell 1; have b2v1 : v1.cell? ⟨w.heap.size, 2, none⟩ = some (.int .i64 c) := K1.out.cell 2; have b3v1 : v1.cell? ⟨w.heap.size, 3, none⟩ = some (.string d) := K1.out.cell 3; have B1 := Lib.hid (keepBelow ((Below.refl _ _).alloc (Nat.le_refl _) _) hb1); clear hb1)
    | (go_at_call 73; refine (CQ.out _).mono ?_; rintro e v2 ⟨rfl, hb2⟩; have K2 := Lib.hid (keepBlk hb2 K1.out); have b0v2 : v2.cell? ⟨w.heap.size, 0, none⟩ = some (.int .i64 1) := K2.out.cell 0; have b1v2 : v2.cell? ⟨w.heap.size, 1, none⟩ = some (.int .i64 f) := K2.out.cell 1; have b2v2 : v2.cell? ⟨w.heap.size, 2, none⟩ = some (.int .i64 c) := K2.out.cell 2; have b3v2 : v2.cell? ⟨w.heap.size, 3, none⟩ = some (.string d) := K2.out.cell 3; have B2 := Lib.hid (keepBelow B1.out hb2); clear hb2 b0v1 b1v1 b2v1 b3v1))
  obtain ⟨zc, hrow⟩ := HQ.out v2 B2.out
  have zf := (HP.out v2 B2.out).frozen o
  have hgv : g < v2.heap.size := Nat.lt_of_lt_of_le hg B2.out.size
  have hbv : w.heap.size < v2.heap.size := K2.out.lt
  have hdr : Below v2.heap.size v2 ((v2.alloc (.cells #[.string d] 9)).drew) := (((Below.refl _ _).alloc (Nat.le_refl _) _).drew)
  have hdr2 : Below v2.heap.size v2 ((v2.drew.alloc (.cells #[.string d] 9))) := ((Below.refl _ _).drew).alloc (Nat.le_refl _) _
  obtain ⟨v4, w4, hrun, hrow4, hgr, hat⟩ := run_append_row (P := Try.prog) (w := (v2.alloc (.cells #[.string d] 9)).drew) 22 22 9 i0 _ 1 16 Try.underlying22 hi hz0 hz1 hz2 rfl (by decide) sv q.length (strC q) (hrow.below hdr)
    ⟨v2.heap.size, 0, none⟩ 1 1 [.string d] rfl (World.news_of_block (cs := #[.string d]) (t := 9) (fr := (0, 0)) (heap_alloc_new v2 _)) (by simp [Value.oneCell']) (by unfold maxLen; omega) (by omega)
  obtain ⟨a4, cap4, rfl, _⟩ := hrow4.form
  rw [run_appSem] at hrun
  have hsg : sv.ownBlock ≠ some g := hrow.ne (HP.out v2 B2.out).blk (by decide)
  have hsb : sv.ownBlock ≠ some w.heap.size := hrow.ne K2.out (by decide)
  have w4c : w4.cell? ⟨g, o, none⟩ = some sv := by rw [grown_cell hgr (by simp; omega) hsg, World.cell?_drew, World.cell?_alloc_lt _ _ _ hgv]; exact zc
  have w4f : w4.frozen? ⟨g, o, none⟩ = false := by rw [grown_frozen hgr (by simp; omega) hsg, World.frozen?_of_block (w := v2) (hdr.block g hgv)]; exact zf
  have w4d : w4.cell? ⟨w.heap.size, 3, none⟩ = some (.string d) := by rw [grown_cell hgr (by simp; omega) hsb, World.cell?_drew, World.cell?_alloc_lt _ _ _ hbv]; exact b3v2
  have FIN := HU.out v2 B2.out w4 _ (grown_trans (below_grown hdr _) hgr) (by simpa [strC_append, strC] using hrow4) (hat.imp id fun h k hk => by have := h k hk; simp at this; omega)
  have FIN2 := Lib.hid (And.intro FIN.1 ((Turn.of_below B2.out : Turn g S w S v2).trans FIN.2))
  clear FIN hdr2 hrow4 hat hgr hrow hi hz0 hz1 hz2 hdr
  go_region
  all_goals go_wp2_with fail
  all_goals go_ret2
  all_goals exact ⟨rfl, _, FIN2.out.1, FIN2.out.2⟩
set_option maxHeartbeats 1600000 in
theorem do_read_all (x : Op) (hx : OpIn x) (he : emptyB x = false) (hk0 : x.kind = 0) (hcn : 0 ≤ x.count) (b : ByteArray) (r : List ByteArray) (g : Nat) (S : Sl) (st : St) (hqr : qOf st x = b :: r) (hcb : ¬ x.count < b.size) (w : World) (hP : PipeAt w g S st) (hs : Sm st) :
    Calls Try.prog 56 #[.pointer (some ⟨g, 0, none⟩), opV x] w fun e w' => e = .returned (.tuple #[.int .i64 0, .string b]) ∧ ∃ S', PipeAt w' g S' (setQ st x (r)) ∧ Turn g S w S' w' := by
  have CE := Lib.hid (fun W => empty_any x W)
  rw [he] at CE
  have CQ := Lib.hid (fun W => queue_any g x.kind x.fin x.count x.data hx.1 hx.2 W)
  have hql : (qOf st x).length ≤ 100000 := by have := hs.q; unfold qOf; split <;> omega
  have hqz : sizes (qOf st x) ≤ 1000000000000 := by have := hs.z; unfold qOf; split <;> omega
  rw [hqr] at hql hqz
  have hbz : b.size ≤ 1000000000000 := by have : sizes (b :: r) = b.size + sizes r := rfl; omega
  have HP := Lib.hid (fun W (hb : Below w.heap.size w W) => hP.below hb)
  obtain ⟨o, ho⟩ : ∃ o, o = qo x.kind x.fin := ⟨_, rfl⟩
  have HQ := Lib.hid (fun W (hb : Below w.heap.size w W) => (hP.below hb).queue2 x)
  have HU := Lib.hid (fun W (hb : Below w.heap.size w W) W1 v (hg : W.grownBy W1 (sOf S x).ownBlock) hr h0 => (hP.below hb).updQ (w1 := W1) x (v := v) (r) hg hr h0)
  rw [← ho] at CQ HQ HU
  rw [hqr] at HQ
  have hg := hP.blk.lt
  have hst : setQ st x (r) = setQ st x (r) := rfl
  generalize setQ st x (r) = st' at *
  generalize setS S x = ss at *
  generalize sOf S x = sv at *
  clear hst he hx hP hs ho hqr hqz
  obtain ⟨k, f, c, d⟩ := x
  simp only at hk0 CE CQ HU hcn hcb
  subst hk0
  unfold opV at *
  have hm : c = b.size ∨ (b.size : Int) < c := by omega
  clear hcb
  go_enter Try.func56, Try.ntmps56
  go_upto_region 7 with (first
    | (go_at_call 72; refine (CE.out _).mono ?_; rintro e v1 ⟨rfl, hb1⟩; have K1 := Lib.hid (keepBlk hb1 (Blk.new w 42 [.int .i64 0, .int .i64 f, .int .i64 c, .string d])); have b0v1 : v1.cell? ⟨w.heap.size, 0, none⟩ = some (.int .i64 0) := K1.out.cell 0; have b1v1 : v1.cell? ⟨w.heap.size, 1, none⟩ = some (.int .i64 f) := K1.out.cell 1; have b2v1 : v1.cell? ⟨w.heap.size, 2, none⟩ = some (.int .i64 c) := K1.out.cell 2; have b3v1 : v1.cell? ⟨w.heap.size, 3, none⟩ = some (.string d) := K1.out.cell 3; have B1 := Lib.hid (keepBelow ((Below.refl _ _).alloc (Nat.le_refl _) _) hb1); clear hb1)
    | (go_at_call 73; refine (CQ.out _).mono ?_; rintro e v2 ⟨rfl, hb2⟩; have K2 := Lib.hid (keepBlk hb2 K1.out); have b0v2 : v2.cell? ⟨w.heap.size, 0, none⟩ = some (.int .i64 0) := K2.out.cell 0; have b1v2 : v2.cell? ⟨w.heap.size, 1, none⟩ = some (.int .i64 f) := K2.out.cell 1; have b2v2 : v2.cell? ⟨w.heap.size, 2, none⟩ = some (.int .i64 c) := K2.out.cell 2; have b3v2 : v2.cell? ⟨w.heap.size, 3, none⟩ = some (.string d) := K2.out.cell 3; have B2 := Lib.hid (keepBelow B1.out hb2); clear hb2 b0v1 b1v1 b2v1 b3v1))
  obtain ⟨zc, hrow⟩ := HQ.out v2 B2.out
  have zf := (HP.out v2 B2.out).frozen o
  have hgv : g < v2.heap.size := Nat.lt_of_lt_of_le hg B2.out.size
  have hbv : w.heap.size < v2.heap.size := K2.out.lt
  have hsg : sv.ownBlock ≠ some g := hrow.ne (HP.out v2 B2.out).blk (by decide)
  have hsb : sv.ownBlock ≠ some w.heap.size := hrow.ne K2.out (by decide)
  obtain ⟨gb, off, cap, rfl, h1, h2, hgb, hcl, hfr⟩ := hrow.open (by simp)
  simp only [List.length_cons] at h1 hql
  unfold maxLen at h2
  have hc0 : v2.cell? ⟨gb, off, none⟩ = some (.string b) := hcl 0 (by simp)
  have hf0 : v2.frozen? ⟨gb, off, none⟩ = false := hfr 0
  have hng : gb ≠ g := fun e => hsg (by rw [e]; rfl)
  have hnb : gb ≠ w.heap.size := fun e => hsb (by rw [e]; rfl)
  clear hcl hfr
  have FIN := HU.out v2 B2.out v2 (cutV gb off (r.length + 1) cap) (World.grownBy.refl v2 _) (by have h := hrow.cut; simp only [List.length_cons, Nat.add_sub_cancel] at h; exact h) (.inl (by rw [cutV_own]; rfl))
  have FIN2 := Lib.hid (And.intro FIN.1 ((Turn.of_below B2.out : Turn g S w S v2).trans FIN.2))
  clear FIN hrow
  unfold cutV at FIN2
  rw [Nat.add_sub_cancel] at FIN2
  rcases hm with rfl | hm <;> by_cases hc1 : cap = 1
  · subst hc1
    obtain rfl : r = [] := List.eq_nil_of_length_eq_zero (by omega)
    rw [if_pos rfl] at FIN2
    go_upto_region 12 with fail
    go_quiet (fail)
    go_wp2_with fail
    go_ret2
    exact ⟨rfl, _, FIN2.out.1.drewN _, FIN2.out.2.drewN _⟩
  · rw [if_neg hc1] at FIN2
    go_upto_region 12 with fail
    go_quiet (fail)
    go_wp2_with fail
    go_ret2
    exact ⟨rfl, _, FIN2.out.1.drewN _, FIN2.out.2.drewN _⟩
  · subst hc1
    obtain rfl : r = [] := List.eq_nil_of_length_eq_zero (by omega)
    rw [if_pos rfl] at FIN2
    go_upto_region 12 with fail
    go_quiet (fail)
    go_wp2_with fail
    go_ret2
    exact ⟨rfl, _, FIN2.out.1.drewN _, FIN2.out.2.drewN _⟩
  · rw [if_neg hc1] at FIN2
    go_upto_region 12 with fail
    go_quiet (fail)
    go_wp2_with fail
    go_ret2
    exact ⟨rfl, _, FIN2.out.1.drewN _, FIN2.out.2.drewN _⟩
set_option maxHeartbeats 1600000 in
theorem do_read_part (x : Op) (hx : OpIn x) (he : emptyB x = false) (hk0 : x.kind = 0) (hcn : 0 ≤ x.count) (b : ByteArray) (r : List ByteArray) (g : Nat) (S : Sl) (st : St) (hqr : qOf st x = b :: r) (hcb : x.count < b.size) (w : World) (hP : PipeAt w g S st) (hs : Sm st) :
    Calls Try.prog 56 #[.pointer (some ⟨g, 0, none⟩), opV x] w fun e w' => e = .returned (.tuple #[.int .i64 0, .string (b.extract 0 x.count.toNat)]) ∧ ∃ S', PipeAt w' g S' (setQ st x (b.extract x.count.toNat b.size :: r)) ∧ Turn g S w S' w' := by
  have CE := Lib.hid (fun W => empty_any x W)
  rw [he] at CE
  have CQ := Lib.hid (fun W => queue_any g x.kind x.fin x.count x.data hx.1 hx.2 W)
  have hql : (qOf st x).length ≤ 100000 := by have := hs.q; unfold qOf; split <;> omega
  have hqz : sizes (qOf st x) ≤ 1000000000000 := by have := hs.z; unfold qOf; split <;> omega
  rw [hqr] at hql hqz
  have hbz : b.size ≤ 1000000000000 := by have : sizes (b :: r) = b.size + sizes r := rfl; omega
  have HP := Lib.hid (fun W (hb : Below w.heap.size w W) => hP.below hb)
  obtain ⟨o, ho⟩ : ∃ o, o = qo x.kind x.fin := ⟨_, rfl⟩
  have HQ := Lib.hid (fun W (hb : Below w.heap.size w W) => (hP.below hb).queue2 x)
  have HU := Lib.hid (fun W (hb : Below w.heap.size w W) W1 v (hg : W.grownBy W1 (sOf S x).ownBlock) hr h0 => (hP.below hb).updQ (w1 := W1) x (v := v) (b.extract x.count.toNat b.size :: r) hg hr h0)
  rw [← ho] at CQ HQ HU
  rw [hqr] at HQ
  have hg := hP.blk.lt
  have hst : setQ st x (b.extract x.count.toNat b.size :: r) = setQ st x (b.extract x.count.toNat b.size :: r) := rfl
  generalize setQ st x (b.extract x.count.toNat b.size :: r) = st' at *
  generalize setS S x = ss at *
  generalize sOf S x = sv at *
  clear hst he hx hP hs ho hqr hqz
  obtain ⟨k, f, c, d⟩ := x
  simp only at hk0 CE CQ HU hcn hcb
  subst hk0
  unfold opV at *
  go_enter Try.func56, Try.ntmps56
  go_upto_region 7 with (first
    | (go_at_call 72; refine (CE.out _).mono ?_; rintro e v1 ⟨rfl, hb1⟩; have K1 := Lib.hid (keepBlk hb1 (Blk.new w 42 [.int .i64 0, .int .i64 f, .int .i64 c, .string d])); have b0v1 : v1.cell? ⟨w.heap.size, 0, none⟩ = some (.int .i64 0) := K1.out.cell 0; have b1v1 : v1.cell? ⟨w.heap.size, 1, none⟩ = some (.int .i64 f) := K1.out.cell 1; have b2v1 : v1.cell? ⟨w.heap.size, 2, none⟩ = some (.int .i64 c) := K1.out.cell 2; have b3v1 : v1.cell? ⟨w.heap.size, 3, none⟩ = some (.string d) := K1.out.cell 3; have B1 := Lib.hid (keepBelow ((Below.refl _ _).alloc (Nat.le_refl _) _) hb1); clear hb1)
    | (go_at_call 73; refine (CQ.out _).mono ?_; rintro e v2 ⟨rfl, hb2⟩; have K2 := Lib.hid (keepBlk hb2 K1.out); have b0v2 : v2.cell? ⟨w.heap.size, 0, none⟩ = some (.int .i64 0) := K2.out.cell 0; have b1v2 : v2.cell? ⟨w.heap.size, 1, none⟩ = some (.int .i64 f) := K2.out.cell 1; have b2v2 : v2.cell? ⟨w.heap.size, 2, none⟩ = some (.int .i64 c) := K2.out.cell 2; have b3v2 : v2.cell? ⟨w.heap.size, 3, none⟩ = some (.string d) := K2.out.cell 3; have B2 := Lib.hid (keepBelow B1.out hb2); clear hb2 b0v1 b1v1 b2v1 b3v1))
  obtain ⟨zc, hrow⟩ := HQ.out v2 B2.out
  have zf := (HP.out v2 B2.out).frozen o
  have hgv : g < v2.heap.size := Nat.lt_of_lt_of_le hg B2.out.size
  have hbv : w.heap.size < v2.heap.size := K2.out.lt
  have hsg : sv.ownBlock ≠ some g := hrow.ne (HP.out v2 B2.out).blk (by decide)
  have hsb : sv.ownBlock ≠ some w.heap.size := hrow.ne K2.out (by decide)
  obtain ⟨gb, off, cap, rfl, h1, h2, hgb, hcl, hfr⟩ := hrow.open (by simp)
  simp only [List.length_cons] at h1 hql
  unfold maxLen at h2
  have hc0 : v2.cell? ⟨gb, off, none⟩ = some (.string b) := hcl 0 (by simp)
  have hf0 : v2.frozen? ⟨gb, off, none⟩ = false := hfr 0
  have hng : gb ≠ g := fun e => hsg (by rw [e]; rfl)
  have hnb : gb ≠ w.heap.size := fun e => hsb (by rw [e]; rfl)
  clear hcl hfr
  have hb2 : Blk (v2.setCell ⟨gb, off, none⟩ (.string (b.extract c.toNat b.size))) g 88 (pipeC S st) := (HP.out v2 B2.out).blk.far (Ne.symm hng) _
  have hsame : (v2.setCell ⟨gb, off, none⟩ (.string (b.extract c.toNat b.size))).cell? ⟨g, o, none⟩ = some (.slice (some ⟨gb, off, none⟩) (r.length + 1) cap) := by rw [World.cell?_setCell_other (h := fun e => hng (Addr.mk.inj e).1)]; exact zc
  have FIN := HU.out v2 B2.out (v2.setCell ⟨gb, off, none⟩ (.string (b.extract c.toNat b.size))) (.slice (some ⟨gb, off, none⟩) (r.length + 1) cap) (setC_grown v2 gb off _) (Row.put hrow _) (.inl rfl)
  rw [setCell_same hb2 hsame] at FIN
  have FIN2 := Lib.hid (And.intro FIN.1 ((Turn.of_below B2.out : Turn g S w S v2).trans FIN.2))
  have HPP := Lib.hid hb2
  clear FIN hrow hb2 hsame
  have hmin : min c (b.size : Int) = c := by omega
  have hne : (c == (b.size : Int)) = false := by rw [beq_eq_false_iff_ne]; omega
  have hne2 : ¬ (b.size : Int) < c := by omega
  go_upto_region 11 with fail
  go_region
  all_goals go_upto_region 12 with fail
  all_goals go_quiet (fail)
  all_goals go_wp2_with fail
  all_goals go_ret2
  all_goals exact ⟨rfl, _, FIN2.out.1.drewN _, FIN2.out.2.drewN _⟩
theorem do_any (x : Op) (hx : OpIn x) (hcn : x.kind = 0 → 0 ≤ x.count) (g : Nat) (S : Sl) (st : St) (hq : emptyB x = false → x.kind = 0 → qOf st x ≠ []) (w : World) (hP : PipeAt w g S st) (hs : Sm st) (hd : x.data.size ≤ 1000000) :
    Calls Try.prog 56 #[.pointer (some ⟨g, 0, none⟩), opV x] w fun e w' => e = .returned (.tuple #[.int .i64 (doS st x).2.1, .string (doS st x).2.2]) ∧ ∃ S', PipeAt w' g S' (doS st x).1 ∧ Turn g S w S' w' := by
  unfold doS
  cases he : emptyB x with
  | true =>
    rw [if_pos rfl]
    exact (do_none x he g w).mono fun e w' h => ⟨h.1, S, hP.below h.2, Turn.of_below h.2⟩
  | false =>
    rw [if_neg (by simp)]
    by_cases h1 : x.kind = 1
    · rw [if_pos h1]
      exact do_write x hx he h1 g S st w hP hs hd
    · rw [if_neg h1]
      have h0 : x.kind = 0 := hx.1.resolve_right h1
      cases hqr : qOf st x with
      | nil => exact absurd hqr (hq he h0)
      | cons b r =>
        by_cases hcb : x.count < b.size
        · simp only [if_pos hcb]
          exact do_read_part x hx he h0 (hcn h0) b r g S st hqr hcb w hP hs
        · simp only [if_neg hcb]
          exact do_read_all x hx he h0 (hcn h0) b r g S st hqr hcb w hP hs
end Go.Proofs.Ytmnlojbfdpjjdaa
