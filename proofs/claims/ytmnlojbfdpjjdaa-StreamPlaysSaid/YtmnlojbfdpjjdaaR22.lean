/- StreamPlays: the law's walk. -/
import Derived.Test.YtmnlojbfdpjjdaaR21
import Derived.Test.YtmnlojbfdpjjdaaE3
import Derived.Carry
import Derived.OwnWalk
namespace Go.Proofs.Ytmnlojbfdpjjdaa
open Go.RowKit
variable {F : Nat → Prop}
theorem fewP {l : List Ac} (h : fewB l = true) : l.length ≤ 60 ∧ ∀ x ∈ l, x.op.data.size ≤ 9000 := by
  unfold fewB at h
  simp only [Bool.and_eq_true, decide_eq_true_eq, Bool.not_eq_true', List.any_eq_false] at h
  refine ⟨h.1, fun x hx => ?_⟩
  have := h.2 x hx
  unfold longA at this
  simp at this
  exact this
theorem getP_mem {l : List Ac} {i : Nat} (hi : i < l.length) : l.getD i ac0 ∈ l := by
  rw [List.getD_eq_getElem?_getD, List.getElem?_eq_getElem hi]
  exact List.getElem_mem hi
theorem Uq.doR {l : Int} {st : St} (h : Uq st) (hB : Bi l st) (x : Ac) : Uq (doR st x).1 := by
  rcases doR_ws st x with ⟨_, _, _, _, hs⟩ | ⟨_, _, hs⟩
  · refine List.Pairwise.sublist hs ?_
    rw [List.pairwise_append]
    refine ⟨h, List.pairwise_singleton _ _, fun a ha b hb => ?_⟩
    rw [List.mem_singleton] at hb
    subst hb
    have := (hB.w a ha).2.2.2.2
    show a.tk ≠ st.tks + 1
    omega
  · exact List.Pairwise.sublist hs h
theorem doR_ans (st : St) (x : Ac) : (doR st x).2.ans.length ≤ st.ans.length := by
  unfold doR
  repeat' split
  all_goals simp
theorem Rg.doR {N : Nat} {l : Int} {st : St} (h : Rg N l st) (x : Ac) (hd : x.op.data.size ≤ 9000) : Rg (N + 1) l (doR st x).1 :=
  ⟨h.L, h.G.doR x hd, (h.B.doR h.L h.G.t0 h.X x hd).1, h.U.doR h.B x, (h.B.doR h.L h.G.t0 h.X x hd).2⟩
theorem Rg.new (l : Int) (h : 1 ≤ l) : Rg 0 l (newSt l) := ⟨h, Gd.new l, (Bi.new l h).1, List.Pairwise.nil, (Bi.new l h).2⟩
/-- the two pipes side by side -/
structure Py (w : World) (g pb : Nat) (S : Sl) (st : St) (S2 : Sl) (s2 : St) (v : World) : Prop where
  pipe : PipeAt v g S st
  own : ∀ k, S.has g k → w.heap.size ≤ k
  low : Below w.heap.size w v
  box : Blk v pb 60 (rpC S2 s2)
  ref : Ref (S.has g) v S2 s2
  pb0 : w.heap.size ≤ pb
section
variable {w v v' : World} {g pb : Nat} {S S' S2 S3 : Sl} {st st' s2 s3 : St}
theorem PipeAt.notBlk {b : Nat} {t : TypeId} {cs : List Value} (h : PipeAt v g S st) (hB : Blk v b t cs) (h88 : t ≠ 88) (h9 : t ≠ 9) (h92 : t ≠ 92) (h51 : t ≠ 51) : ¬ S.has g b := by
  rintro (rfl | e | e | e | e)
  · exact h88 (hB.uniq h.blk)
  · exact h.r0.ne hB (Ne.symm h9) e
  · exact h.r1.ne hB (Ne.symm h9) e
  · exact h.rw_.ne hB (Ne.symm h92) e
  · exact h.ra.ne hB (Ne.symm h51) e
theorem PipeAt.notRow {e size n : Nat} {u : Value} {xs : List Value} (h : PipeAt v g S st) (hR : Row v e size u n xs) (h88 : e ≠ 88) (h9 : e ≠ 9) (h92 : e ≠ 92) (h51 : e ≠ 51) : ∀ k, u.ownBlock = some k → ¬ S.has g k := by
  rintro k hk (rfl | e | e | e | e)
  · exact hR.ne h.blk h88 hk
  · exact hR.ne2 h.r0 h9 hk e
  · exact hR.ne2 h.r1 h9 hk e
  · exact hR.ne2 h.rw_ h92 hk e
  · exact hR.ne2 h.ra h51 hk e
theorem Py.below (h : Py w g pb S st S2 s2 v) (hb : Below v.heap.size v v') : Py w g pb S st S2 s2 v' :=
  ⟨h.pipe.below hb, h.own, keepBelow h.low hb, keepBlk hb h.box, h.ref.below hb, h.pb0⟩
theorem Py.turn (h : Py w g pb S st S2 s2 v) (ht : Turn g S v S' v') (hp : PipeAt v' g S' st') : Py w g pb S' st' S2 s2 v' := by
  have hk : ∀ {u : Value} {e size n : Nat} {xs : List Value}, Row v e size u n xs → (∀ k, u.ownBlock = some k → ¬ S.has g k) → Row v' e size u n xs := fun hr hn => hr.keep fun k hk => ht.block k (hr.lt hk) (hn k hk)
  refine ⟨hp, fun k hk => ?_, ⟨ht.os.trans h.low.os, ht.tape.trans h.low.tape, ht.output.trans h.low.output, Nat.le_trans h.low.size ht.size, fun k hk => (ht.block k (Nat.lt_of_lt_of_le hk h.low.size) (fun hh => by have := h.own k hh; omega)).trans (h.low.block k hk)⟩, ht.blk h.box (h.pipe.notBlk h.box (by decide) (by decide) (by decide) (by decide)), ?_, h.pb0⟩
  · rcases ht.mine k hk with h1 | h1
    · exact h.own k h1
    · exact Nat.le_trans h.low.size h1
  · refine ⟨hk h.ref.r0 h.ref.o.2.1, hk h.ref.r1 h.ref.o.2.2, hk h.ref.rw_ (h.pipe.notRow h.ref.rw_ (by decide) (by decide) (by decide) (by decide)), hk h.ref.ra (h.pipe.notRow h.ref.ra (by decide) (by decide) (by decide) (by decide)), fun k hk => hp.lt hk, fun k hk hh => ?_, fun k hk hh => ?_⟩
    · rcases ht.mine k hh with h1 | h1
      · exact h.ref.o.2.1 k hk h1
      · have := h.ref.r0.lt hk; omega
    · rcases ht.mine k hh with h1 | h1
      · exact h.ref.o.2.2 k hk h1
      · have := h.ref.r1.lt hk; omega
theorem Py.set47 (h : Py w g pb S st S2 s2 v) {b i : Nat} {cs : List Value} (hB : Blk v b 47 cs) (hb : w.heap.size ≤ b) (u : Value) : Py w g pb S st S2 s2 (v.setCell ⟨b, i, none⟩ u) :=
  ⟨h.pipe.keep fun k hk => Below.heap_setCell v _ u k (fun e => h.pipe.notBlk hB (by decide) (by decide) (by decide) (by decide) ((show k = b from e) ▸ hk)), h.own, h.low.setCell (p := ⟨b, i, none⟩) hb u, h.box.far (p := ⟨b, i, none⟩) (fun e => by subst e; exact absurd (hB.uniq h.box) (by decide)) u, h.ref.set47 hB u, h.pb0⟩
theorem PipeAt.set60 (h : PipeAt v g S st) {b i : Nat} {cs : List Value} (hB : Blk v b 60 cs) (u : Value) : PipeAt (v.setCell ⟨b, i, none⟩ u) g S st :=
  h.keep fun k hk => Below.heap_setCell v _ u k (fun e => h.notBlk hB (by decide) (by decide) (by decide) (by decide) ((show k = b from e) ▸ hk))
theorem Py.put (h : Py w g pb S st S2 s2 v) (hr : Ref (S.has g) v S3 s3) (x0 x1 x2 x3 x4 x5 x6 x7 : Value) (he : rpC S3 s3 = [x0, x1, x2, x3, x4, x5, x6, x7]) :
    Py w g pb S st S3 s3 ((((((((v.setCell ⟨pb, 0, none⟩ x0).setCell ⟨pb, 1, none⟩ x1).setCell ⟨pb, 2, none⟩ x2).setCell ⟨pb, 3, none⟩ x3).setCell ⟨pb, 4, none⟩ x4).setCell ⟨pb, 5, none⟩ x5).setCell ⟨pb, 6, none⟩ x6).setCell ⟨pb, 7, none⟩ x7) := by
  obtain ⟨o1, o2, o3, o4⟩ := put8 (w := v) (b := pb) h.box x0 x1 x2 x3 x4 x5 x6 x7
  have b0 := h.box
  refine ⟨(((((((h.pipe.set60 b0 x0).set60 (b0.set_ 0 x0) x1).set60 ((b0.set_ 0 x0).set_ 1 x1) x2).set60 (((b0.set_ 0 x0).set_ 1 x1).set_ 2 x2) x3).set60 ((((b0.set_ 0 x0).set_ 1 x1).set_ 2 x2).set_ 3 x3) x4).set60 (((((b0.set_ 0 x0).set_ 1 x1).set_ 2 x2).set_ 3 x3).set_ 4 x4) x5).set60 ((((((b0.set_ 0 x0).set_ 1 x1).set_ 2 x2).set_ 3 x3).set_ 4 x4).set_ 5 x5) x6).set60 (((((((b0.set_ 0 x0).set_ 1 x1).set_ 2 x2).set_ 3 x3).set_ 4 x4).set_ 5 x5).set_ 6 x6) x7, h.own, o3 h.low h.pb0, by rw [he]; exact o1, ⟨o2 hr.r0 (by decide), o2 hr.r1 (by decide), o2 hr.rw_ (by decide), o2 hr.ra (by decide), hr.o.to (o3 (Below.refl 0 _) (Nat.zero_le _)).size⟩, h.pb0⟩
end
set_option maxRecDepth 100000 in
set_option maxHeartbeats 1600000 in
theorem same_any (num er : Int) (txt : ByteArray) (va vb : Value) (l : List An) (w : World) (ha : Row w 51 4 va l.length (ansC l)) (hb : Row w 51 4 vb l.length (ansC l)) (hl : l.length ≤ 100000) :
    Calls Try.prog 24 #[.agg #[.int .i64 num, .string txt, .int .i64 er, va], .agg #[.int .i64 num, .string txt, .int .i64 er, vb]] w fun e w' => e = .returned (.bool true) ∧ Below w.heap.size w w' := by
  have C := Lib.hid (fun W (h : Below w.heap.size w W) => eqAns va vb l W (ha.below h) (hb.below h) hl)
  have hn : (num == num) = true := beq_self_eq_true _
  have he : (er == er) = true := beq_self_eq_true _
  have hs : (txt.toList == txt.toList) = true := str_eq txt
  have HB := Lib.hid (fun o o' => (((Below.refl w.heap.size w).alloc (Nat.le_refl _) o).alloc (by simp) o'))
  obtain ⟨aa, ca, rfl, _⟩ := ha.form
  obtain ⟨ab, cb, rfl, _⟩ := hb.form
  clear ha hb
  go_enter Try.func24, Try.ntmps24
  go_wp2_with (go_at_call 51; refine (C.out _ (HB.out _ _)).mono ?_; rintro e v1 ⟨rfl, hb1⟩; have B1 := Lib.hid (keepBelow (HB.out _ _) hb1); clear hb1)
  go_ret
  exact ⟨rfl, B1.out⟩
set_option maxRecDepth 100000 in
set_option maxHeartbeats 1600000 in
theorem plays_no (lim : Int) (sv : Value) (l : List Ac) (hf : fewB l = false) (w : World) (hr : Acts w sv l) : Calls Try.prog 5 #[.int .i64 lim, sv] w fun e w' => e = .returned (.bool true) ∧ Below w.heap.size w w' := by
  have CA := Lib.hid (fun W => awake_any W)
  have CF := Lib.hid (fun W (hb : Below w.heap.size w W) => few_any l sv W (hr.below hb))
  rw [hf] at CF
  clear hr hf
  go_enter Try.func5, Try.ntmps5
  go_wp2_with (first
    | (go_at_call 9; refine (CA.out _).mono ?_; rintro e v1 ⟨rfl, hb1⟩; have B1 := Lib.hid hb1; clear hb1)
    | (go_at_call 17; refine (CF.out _ ?_).mono ?_; exact B1.out; rintro e v2 ⟨rfl, hb2⟩; have B2 := Lib.hid (keepBelow B1.out hb2); clear hb2))
  go_ret
  exact ⟨rfl, B2.out⟩
set_option maxRecDepth 100000 in
set_option maxHeartbeats 1600000 in
theorem plays_bad (lim : Int) (sv : Value) (l : List Ac) (hf : fewB l = true) (hl : lim < 1 ∨ 1048576 < lim) (w : World) (hr : Acts w sv l) : Calls Try.prog 5 #[.int .i64 lim, sv] w fun e w' => e = .returned (.bool true) ∧ Below w.heap.size w w' := by
  have CA := Lib.hid (fun W => awake_any W)
  have CF := Lib.hid (fun W (hb : Below w.heap.size w W) => few_any l sv W (hr.below hb))
  rw [hf] at CF
  have CN := Lib.hid (fun W => New_no lim hl W)
  have CR := Lib.hid (fun W => rnew_no lim hl W)
  unfold rpV nilSl newSt at CR
  clear hr hf hl
  go_enter Try.func5, Try.ntmps5
  go_wp2_with (first
    | (go_at_call 9; refine (CA.out _).mono ?_; rintro e v1 ⟨rfl, hb1⟩; have B1 := Lib.hid hb1; clear hb1)
    | (go_at_call 17; refine (CF.out _ ?_).mono ?_; exact B1.out; rintro e v2 ⟨rfl, hb2⟩; have B2 := Lib.hid (keepBelow B1.out hb2); clear hb2)
    | (go_at_call 12; refine (CN.out _).mono ?_; rintro e v3 ⟨rfl, rfl⟩)
    | (go_at_call 22; refine (CR.out _).mono ?_; rintro e v4 ⟨rfl, hb4⟩; have B4 := Lib.hid (keepBelow B2.out hb4); clear hb4))
  go_ret
  exact ⟨rfl, B4.out.alloc B4.out.size _⟩
set_option maxRecDepth 100000 in
set_option maxHeartbeats 6400000 in
theorem plays_ok (lim : Int) (sv : Value) (l : List Ac) (hf : fewB l = true) (hl1 : 1 ≤ lim) (hl2 : lim ≤ 1048576) (w : World) (hr : Acts w sv l) : Calls Try.prog 5 #[.int .i64 lim, sv] w fun e w' => e = .returned (.bool true) ∧ Below w.heap.size w w' := by
  have CA := Lib.hid (fun W => awake_any W)
  have CF := Lib.hid (fun W (hb : Below w.heap.size w W) => few_any l sv W (hr.below hb))
  rw [hf] at CF
  have CN := Lib.hid (fun W => New_any lim hl1 hl2 W)
  have CM := Lib.hid (fun W => rnew_any lim hl1 hl2 W)
  unfold rpV nilSl newSt at CM
  obtain ⟨hlen, hdat⟩ := fewP hf
  have HDAT := Lib.hid hdat
  have HR := Lib.hid hr
  obtain ⟨aa, ca, hsv, hca⟩ := hr.form
  have HSV := Lib.hid hsv
  rw [hsv] at CF
  rw [hsv]
  clear hr hf hdat hsv
  go_enter Try.func5, Try.ntmps5
  go_upto_region 11 with (first
    | (go_at_call 9; refine (CA.out _).mono ?_; rintro e v1 ⟨rfl, hb1⟩; have B1 := Lib.hid hb1; clear hb1)
    | (go_at_call 17; refine (CF.out _ ?_).mono ?_; exact B1.out; rintro e v2 ⟨rfl, hb2⟩; have B2 := Lib.hid (keepBelow B1.out hb2); clear hb2)
    | (go_at_call 12; refine (CN.out _).mono ?_; rintro e v3 ⟨rfl, P3, hb3⟩; have HP3 := Lib.hid P3; have B3 := Lib.hid (keepBelow B2.out hb3); clear hb3 P3)
    | (go_at_call 22; refine (CM.out _).mono ?_; rintro e v4 ⟨rfl, hb4⟩; have HP4 := Lib.hid (HP3.out.below hb4); have B4 := Lib.hid (keepBelow B3.out hb4); clear hb4))
  obtain ⟨g, hg⟩ : ∃ g, g = v2.heap.size := ⟨_, rfl⟩
  obtain ⟨pb, hpb⟩ : ∃ pb, pb = v4.heap.size := ⟨_, rfl⟩
  have hgl : w.heap.size ≤ g := by rw [hg]; exact B2.out.size
  have hpl : w.heap.size ≤ pb := by rw [hpb]; exact B4.out.size
  refine gen_world (fun wx => Py w g pb nilSl (newSt lim) nilSl (newSt lim) wx) ?_ (fun V0 hV0 => ?_)
  · rw [hg, hpb]
    have hp := HP4.out.below ((Below.refl v4.heap.size v4).alloc (Nat.le_refl _) (.cells (rpC nilSl (newSt lim)).toArray 60))
    exact ⟨hp, fun k hk => (by rcases hk with rfl | h | h | h | h; exact B2.out.size; all_goals cases h), B4.out.alloc B4.out.size _, Blk.new v4 60 (rpC nilSl (newSt lim)), ⟨Row.nil _ _ _, Row.nil _ _ _, Row.nil _ _ _, Row.nil _ _ _, fun k hk => hp.lt hk, fun k hk => (by cases hk), fun k hk => (by cases hk)⟩, B4.out.size⟩
  rw [← hg, ← hpb]
  clear hg hpb HP4 HP3 B4 B3 B2 B1 CA CF CN CM
  have PY0 := Lib.hid hV0
  clear hV0
  have HLEN := Lib.hid hlen
  have HACS : Hid (∀ i, i < l.length → ∃ ab off, aa = some ⟨ab, off, none⟩ ∧ ab < w.heap.size ∧ AcAt w ab (off + i * 6) (l.getD i ac0)) := Lib.hid (fun i hi => by
    rcases HR.out with ⟨h0, _⟩ | ⟨b, off, cap, h1, _, _, h4, h5⟩
    · rw [h0] at hi; exact absurd hi (by simp)
    · have h2 := HSV.out.symm.trans h1
      injection h2 with h3 _ _
      exact ⟨b, off, h3, h4, h5 i hi⟩)
  clear HR HSV
  go_wp2_with fail
  go_loopg [43] l.length (fun k i wr => ∃ (m : Nat) (S S2 : Sl) (st : St), m + k = l.length ∧ i = .int .i64 m ∧ Py w g pb S st S2 st wr ∧ Rg m lim st)
  case atStart => exact ⟨0, nilSl, nilSl, newSt lim, by omega, rfl, PY0.out, Rg.new lim hl1⟩
  case round =>
    obtain ⟨m, S, S2, st, hm, rfl, hpy, hrg⟩ := hrel
    have HM := Lib.hid hm
    have PY := Lib.hid hpy
    have RG := Lib.hid hrg
    obtain ⟨za0, zk0, za1, zk1, zaw, zkw, zaa, zka, rfl⟩ := hpy.ref.open
    clear hm hpy hrg
    by_cases hlt : m < l.length
    · obtain ⟨ab0, off, rfl, habl, hA0⟩ := HACS.out m hlt
      obtain ⟨x, hx⟩ : ∃ x, x = l.getD m ac0 := ⟨_, rfl⟩
      have hA := hA0.below PY.out.low habl
      rw [← hx] at hA
      obtain ⟨c0, c1, c2, c3, c4, c5⟩ := hA
      have hd : x.op.data.size ≤ 9000 := by rw [hx]; exact HDAT.out _ (getP_mem hlt)
      have CD := Lib.hid (fun W (hb : Below wr.heap.size wr W) => Do_any x hd RG.out.G (by have := HLEN.out; have := HM.out; omega) g S W (PY.out.pipe.below hb))
      have CR := Lib.hid (fun (S4 : Sl) W (h : Ref (S4.has g) W ⟨.slice za0 st.q0.length zk0, .slice za1 st.q1.length zk1, .slice zaw st.ws.length zkw, .slice zaa st.ans.length zka⟩ st) => Refer_any x hd ⟨.slice za0 st.q0.length zk0, .slice za1 st.q1.length zk1, .slice zaw st.ws.length zkw, .slice zaa st.ans.length zka⟩ st RG.out (by have := HLEN.out; have := HM.out; omega) W h)
      have RG2 := Lib.hid (RG.out.doR x hd)
      have hal : (doR st x).2.ans.length ≤ 100000 := by have := doR_ans st x; have := RG.out.G.a; have := HLEN.out; have := HM.out; omega
      have habl' : ab0 < wr.heap.size := Nat.lt_of_lt_of_le habl PY.out.low.size
      clear hx hd hA0
      obtain ⟨k, t, ⟨ok, of_, oc, od⟩⟩ := x
      simp only at c0 c1 c2 c3 c4 c5
      unfold acV at CD CR
      simp only at CD CR
      unfold rpV at CR
      generalize doR st ⟨k, t, ⟨ok, of_, oc, od⟩⟩ = r at *
      obtain ⟨st', ⟨num, txt, er, an⟩⟩ := r
      simp only at CD CR RG2 hal
      go_upto_region 15 with (go_at_call 18; refine (CD.out _ ?_).mono ?_; exact (Below.refl _ _).alloc (Nat.le_refl _) _; rintro e v4 ⟨rv, S4, rfl, R4, A4, P4, T4⟩; obtain ⟨ra, rc, rfl, _⟩ := R4.form; have PP4 := Lib.hid ((PY.out.below ((Below.refl _ _).alloc (Nat.le_refl _) _)).turn T4 P4); have K4 := Lib.hid (T4.blk (Blk.new wr 44 [.int .i64 k, .int .i64 t, .int .i64 ok, .int .i64 of_, .int .i64 oc, .string od]) (fun hh => by have := PY.out.pipe.lt hh; omega)); have HR4 := Lib.hid R4; clear P4 T4 R4 A4)
      obtain ⟨ab, hab⟩ : ∃ b, b = wr.heap.size := ⟨_, rfl⟩
      obtain ⟨rb, hrb⟩ : ∃ b, b = v4.heap.size := ⟨_, rfl⟩
      refine gen_world (fun wx => Py w g pb S4 st' ⟨.slice za0 st.q0.length zk0, .slice za1 st.q1.length zk1, .slice zaw st.ws.length zkw, .slice zaa st.ans.length zka⟩ st wx ∧ Blk wx ab 44 [.int .i64 k, .int .i64 t, .int .i64 ok, .int .i64 of_, .int .i64 oc, .string od] ∧ Blk wx rb 47 [.int .i64 num, .string txt, .int .i64 er, .slice ra an.length rc] ∧ Row wx 51 4 (.slice ra an.length rc) an.length (ansC an)) ?_ (fun v5 h5 => ?_)
      · rw [hab, hrb]
        exact ⟨PP4.out.below ((Below.refl _ _).alloc (Nat.le_refl _) _), keepBlk ((Below.refl _ _).alloc (Nat.le_refl _) _) K4.out, Blk.new v4 47 [.int .i64 num, .string txt, .int .i64 er, .slice ra an.length rc], HR4.out.below ((Below.refl _ _).alloc (Nat.le_refl _) _)⟩
      rw [← hab, ← hrb]
      have hrbl : w.heap.size ≤ rb := by rw [hrb]; exact PP4.out.low.size
      obtain ⟨hp5, ha5, hr5, hw5⟩ := h5
      have PP5 := Lib.hid hp5
      have KA5 := Lib.hid ha5
      have KR5 := Lib.hid hr5
      have HW5 := Lib.hid hw5
      clear hab hrb PP4 K4 HR4 hp5 ha5 hr5 hw5 c0 c1 c2 c3 c4 c5 CD
      go_upto_region 16 with fail
      obtain ⟨cb, hcb⟩ : ∃ b, b = v5.heap.size := ⟨_, rfl⟩
      refine gen_world (fun wx => Py w g pb S4 st' ⟨.slice za0 st.q0.length zk0, .slice za1 st.q1.length zk1, .slice zaw st.ws.length zkw, .slice zaa st.ans.length zka⟩ st wx ∧ Blk wx ab 44 [.int .i64 k, .int .i64 t, .int .i64 ok, .int .i64 of_, .int .i64 oc, .string od] ∧ Blk wx rb 47 [.int .i64 num, .string txt, .int .i64 er, .slice ra an.length rc] ∧ Row wx 51 4 (.slice ra an.length rc) an.length (ansC an) ∧ Blk wx cb 47 [.int .i64 0, .string ⟨#[]⟩, .int .i64 0, .slice none 0 0]) ?_ (fun v6 h6 => ?_)
      · rw [hcb]
        exact ⟨PP5.out.below ((Below.refl _ _).alloc (Nat.le_refl _) _), keepBlk ((Below.refl _ _).alloc (Nat.le_refl _) _) KA5.out, keepBlk ((Below.refl _ _).alloc (Nat.le_refl _) _) KR5.out, HW5.out.below ((Below.refl _ _).alloc (Nat.le_refl _) _), Blk.new v5 47 [.int .i64 0, .string ⟨#[]⟩, .int .i64 0, .slice none 0 0]⟩
      rw [← hcb]
      have hcbl : w.heap.size ≤ cb := by rw [hcb]; exact PP5.out.low.size
      have hrc : rb ≠ cb := by have := KR5.out.lt; omega
      obtain ⟨hp6, ha6, hr6, hw6, hc6⟩ := h6
      have PP6 := Lib.hid hp6
      have KA6 := Lib.hid ha6
      have KR6 := Lib.hid hr6
      have HW6 := Lib.hid hw6
      have KC6 := Lib.hid hc6
      have hpr : rb ≠ pb := fun e => absurd (KR6.out.uniq (e ▸ PP6.out.box)) (by decide)
      have hpc : cb ≠ pb := fun e => absurd (KC6.out.uniq (e ▸ PP6.out.box)) (by decide)
      clear hcb PP5 KA5 KR5 HW5 hp6 ha6 hr6 hw6 hc6
      have p0 : v6.cell? ⟨pb, 0, none⟩ = some (.int .i64 st.limit) := PP6.out.box.cell 0
      have p1 : v6.cell? ⟨pb, 1, none⟩ = some (.slice za0 st.q0.length zk0) := PP6.out.box.cell 1
      have p2 : v6.cell? ⟨pb, 2, none⟩ = some (.slice za1 st.q1.length zk1) := PP6.out.box.cell 2
      have p3 : v6.cell? ⟨pb, 3, none⟩ = some (.bool st.c0) := PP6.out.box.cell 3
      have p4 : v6.cell? ⟨pb, 4, none⟩ = some (.bool st.c1) := PP6.out.box.cell 4
      have p5 : v6.cell? ⟨pb, 5, none⟩ = some (.int .i64 st.tks) := PP6.out.box.cell 5
      have p6 : v6.cell? ⟨pb, 6, none⟩ = some (.slice zaw st.ws.length zkw) := PP6.out.box.cell 6
      have p7 : v6.cell? ⟨pb, 7, none⟩ = some (.slice zaa st.ans.length zka) := PP6.out.box.cell 7
      have q0 : v6.cell? ⟨ab, 0, none⟩ = some (.int .i64 k) := KA6.out.cell 0
      have q1 : v6.cell? ⟨ab, 1, none⟩ = some (.int .i64 t) := KA6.out.cell 1
      have q2 : v6.cell? ⟨ab, 2, none⟩ = some (.int .i64 ok) := KA6.out.cell 2
      have q3 : v6.cell? ⟨ab, 3, none⟩ = some (.int .i64 of_) := KA6.out.cell 3
      have q4 : v6.cell? ⟨ab, 4, none⟩ = some (.int .i64 oc) := KA6.out.cell 4
      have q5 : v6.cell? ⟨ab, 5, none⟩ = some (.string od) := KA6.out.cell 5
      go_upto_region 17 with (go_at_call 23; refine (CR.out S4 _ PP6.out.ref).mono ?_; rintro e v7 ⟨S3, vb, he7, R7, W7, hb7⟩; obtain ⟨ta0, tk0, ta1, tk1, taw, tkw, taa, tka, rfl⟩ := R7.open; obtain ⟨xa, xc, hvb, _⟩ := W7.form; subst hvb; (try unfold rpV at he7); (try dsimp only at he7); subst he7; have HR7 := Lib.hid R7; have HW7 := Lib.hid W7; have HB7 := Lib.hid hb7; have KP7 := Lib.hid (keepBlk hb7 PP6.out.box); have m0 : v7.cell? ⟨pb, 0, none⟩ = some (.int .i64 st.limit) := KP7.out.cell 0; have m1 : v7.cell? ⟨pb, 1, none⟩ = some (.slice za0 st.q0.length zk0) := KP7.out.cell 1; have m2 : v7.cell? ⟨pb, 2, none⟩ = some (.slice za1 st.q1.length zk1) := KP7.out.cell 2; have m3 : v7.cell? ⟨pb, 3, none⟩ = some (.bool st.c0) := KP7.out.cell 3; have m4 : v7.cell? ⟨pb, 4, none⟩ = some (.bool st.c1) := KP7.out.cell 4; have m5 : v7.cell? ⟨pb, 5, none⟩ = some (.int .i64 st.tks) := KP7.out.cell 5; have m6 : v7.cell? ⟨pb, 6, none⟩ = some (.slice zaw st.ws.length zkw) := KP7.out.cell 6; have m7 : v7.cell? ⟨pb, 7, none⟩ = some (.slice zaa st.ans.length zka) := KP7.out.cell 7; have KC7 := Lib.hid (keepBlk hb7 KC6.out); have n0 : v7.cell? ⟨cb, 0, none⟩ = some (.int .i64 0) := KC7.out.cell 0; have n1 : v7.cell? ⟨cb, 1, none⟩ = some (.string ⟨#[]⟩) := KC7.out.cell 1; have n2 : v7.cell? ⟨cb, 2, none⟩ = some (.int .i64 0) := KC7.out.cell 2; have n3 : v7.cell? ⟨cb, 3, none⟩ = some (.slice none 0 0) := KC7.out.cell 3; have fm := fun i => KP7.out.frozen i; have fn := fun i => KC7.out.frozen i; clear R7 W7 hb7)
      refine gen_world (fun wx => Py w g pb S4 st' ⟨.slice ta0 st'.q0.length tk0, .slice ta1 st'.q1.length tk1, .slice taw st'.ws.length tkw, .slice taa st'.ans.length tka⟩ st' wx ∧ Blk wx rb 47 [.int .i64 num, .string txt, .int .i64 er, .slice ra an.length rc] ∧ Row wx 51 4 (.slice ra an.length rc) an.length (ansC an) ∧ Blk wx cb 47 [.int .i64 num, .string txt, .int .i64 er, .slice xa an.length xc] ∧ Row wx 51 4 (.slice xa an.length xc) an.length (ansC an)) ?_ (fun v8 h8 => ?_)
      · have h1 := (PP6.out.below HB7.out).put HR7.out (.int .i64 st'.limit) (.slice ta0 st'.q0.length tk0) (.slice ta1 st'.q1.length tk1) (.bool st'.c0) (.bool st'.c1) (.int .i64 st'.tks) (.slice taw st'.ws.length tkw) (.slice taa st'.ans.length tka) rfl
        obtain ⟨o1, o2, o3, o4⟩ := put8 (w := v7) (b := pb) KP7.out (.int .i64 st'.limit) (.slice ta0 st'.q0.length tk0) (.slice ta1 st'.q1.length tk1) (.bool st'.c0) (.bool st'.c1) (.int .i64 st'.tks) (.slice taw st'.ws.length tkw) (.slice taa st'.ans.length tka)
        have kc := o4 KC7.out hpc
        obtain ⟨x1, x2, x3, x4⟩ := put4 kc (.int .i64 num) (.string txt) (.int .i64 er) (.slice xa an.length xc)
        exact ⟨(((h1.set47 kc hcbl _).set47 (kc.set_ 0 _) hcbl _).set47 ((kc.set_ 0 _).set_ 1 _) hcbl _).set47 (((kc.set_ 0 _).set_ 1 _).set_ 2 _) hcbl _, x4 (o4 (keepBlk HB7.out KR6.out) hpr) hrc, x2 (o2 (HW6.out.below HB7.out) (by decide)) (by decide), x1, x2 (o2 HW7.out (by decide)) (by decide)⟩
      obtain ⟨hp8, hr8, hw8, hc8, hv8⟩ := h8
      have PP8 := Lib.hid hp8
      have KA8 := Lib.hid hr8
      have KC8 := Lib.hid hc8
      have HW8 := Lib.hid hw8
      have HV8 := Lib.hid hv8
      have hsm : Sm st' := RG2.out.G.sm (by have := HM.out; have := HLEN.out; omega)
      have hwl : st'.ws.length ≤ 100000 := by have := hsm.q; omega
      have C24 := Lib.hid (fun W (hb : Below v8.heap.size v8 W) => same_any num er txt (.slice ra an.length rc) (.slice xa an.length xc) an W (HW8.out.below hb) (HV8.out.below hb) hal)
      have C26 := Lib.hid (fun W (hb : Below v8.heap.size v8 W) => Waiting_any g S4 st' W (PP8.out.pipe.below hb) hsm)
      have C27 := Lib.hid (fun W (hb : Below v8.heap.size v8 W) => tickets_any ⟨.slice ta0 st'.q0.length tk0, .slice ta1 st'.q1.length tk1, .slice taw st'.ws.length tkw, .slice taa st'.ans.length tka⟩ st' hsm W (PP8.out.ref.below hb))
      unfold rpV at C27
      have C25 := Lib.hid (fun va vb W (h1 : Row W 3 1 va st'.ws.length (tkC st'.ws)) (h2 : Row W 3 1 vb st'.ws.length (tkC st'.ws)) => eqInts va vb st'.ws W h1 h2 hwl)
      have T0 := Lib.hid (show Below v8.heap.size v8 v8.drew from (Below.refl _ _).drew)
      have tok0 : True := trivial
      have SB := Lib.hid (show ∀ W, Below v8.heap.size v8 W → (fun W => W.cell? ⟨rb, 0, none⟩ = some (.int .i64 num) ∧ W.cell? ⟨rb, 1, none⟩ = some (.string txt) ∧ W.cell? ⟨rb, 2, none⟩ = some (.int .i64 er) ∧ W.cell? ⟨rb, 3, none⟩ = some (.slice ra an.length rc) ∧ W.cell? ⟨cb, 0, none⟩ = some (.int .i64 num) ∧ W.cell? ⟨cb, 1, none⟩ = some (.string txt) ∧ W.cell? ⟨cb, 2, none⟩ = some (.int .i64 er) ∧ W.cell? ⟨cb, 3, none⟩ = some (.slice xa an.length xc) ∧ W.cell? ⟨pb, 0, none⟩ = some (.int .i64 st'.limit) ∧ W.cell? ⟨pb, 1, none⟩ = some (.slice ta0 st'.q0.length tk0) ∧ W.cell? ⟨pb, 2, none⟩ = some (.slice ta1 st'.q1.length tk1) ∧ W.cell? ⟨pb, 3, none⟩ = some (.bool st'.c0) ∧ W.cell? ⟨pb, 4, none⟩ = some (.bool st'.c1) ∧ W.cell? ⟨pb, 5, none⟩ = some (.int .i64 st'.tks) ∧ W.cell? ⟨pb, 6, none⟩ = some (.slice taw st'.ws.length tkw) ∧ W.cell? ⟨pb, 7, none⟩ = some (.slice taa st'.ans.length tka)) W from fun W hb => ⟨(keepBlk hb KA8.out).cell 0, (keepBlk hb KA8.out).cell 1, (keepBlk hb KA8.out).cell 2, (keepBlk hb KA8.out).cell 3, (keepBlk hb KC8.out).cell 0, (keepBlk hb KC8.out).cell 1, (keepBlk hb KC8.out).cell 2, (keepBlk hb KC8.out).cell 3, (keepBlk hb PP8.out.box).cell 0, (keepBlk hb PP8.out.box).cell 1, (keepBlk hb PP8.out.box).cell 2, (keepBlk hb PP8.out.box).cell 3, (keepBlk hb PP8.out.box).cell 4, (keepBlk hb PP8.out.box).cell 5, (keepBlk hb PP8.out.box).cell 6, (keepBlk hb PP8.out.box).cell 7⟩)
      clear hp8 hr8 hw8 hc8 hv8 hsm hal hwl PP6 KA6 KR6 HW6 KC6 KP7 KC7 HR7 HW7 HB7 fm fn p0 p1 p2 p3 p4 p5 p6 p7 q0 q1 q2 q3 q4 q5 m0 m1 m2 m3 m4 m5 m6 m7 n0 n1 n2 n3 CR
      go_region_held3 (fun W => W.cell? ⟨rb, 0, none⟩ = some (.int .i64 num) ∧ W.cell? ⟨rb, 1, none⟩ = some (.string txt) ∧ W.cell? ⟨rb, 2, none⟩ = some (.int .i64 er) ∧ W.cell? ⟨rb, 3, none⟩ = some (.slice ra an.length rc) ∧ W.cell? ⟨cb, 0, none⟩ = some (.int .i64 num) ∧ W.cell? ⟨cb, 1, none⟩ = some (.string txt) ∧ W.cell? ⟨cb, 2, none⟩ = some (.int .i64 er) ∧ W.cell? ⟨cb, 3, none⟩ = some (.slice xa an.length xc) ∧ W.cell? ⟨pb, 0, none⟩ = some (.int .i64 st'.limit) ∧ W.cell? ⟨pb, 1, none⟩ = some (.slice ta0 st'.q0.length tk0) ∧ W.cell? ⟨pb, 2, none⟩ = some (.slice ta1 st'.q1.length tk1) ∧ W.cell? ⟨pb, 3, none⟩ = some (.bool st'.c0) ∧ W.cell? ⟨pb, 4, none⟩ = some (.bool st'.c1) ∧ W.cell? ⟨pb, 5, none⟩ = some (.int .i64 st'.tks) ∧ W.cell? ⟨pb, 6, none⟩ = some (.slice taw st'.ws.length tkw) ∧ W.cell? ⟨pb, 7, none⟩ = some (.slice taa st'.ans.length tka)) (first | with_reducible exact SB.out _ T4.out | with_reducible exact SB.out _ T3.out | with_reducible exact SB.out _ T2.out | with_reducible exact SB.out _ T1.out | with_reducible exact SB.out _ T0.out) (first
        | (go_at_call 24; have _t := tok0; refine (C24.out _ T0.out).mono ?_; rintro e u1 ⟨rfl, hb⟩; have T1 := Lib.hid (keepBelow T0.out hb); clear tok0 hb)
        | (go_at_call 26; refine (C26.out _ T1.out).mono ?_; rintro e u2 ⟨wv, rfl, Rw, hb, _⟩; have T2 := Lib.hid (keepBelow T1.out hb); have HRW := Lib.hid Rw; clear hb Rw)
        | (go_at_call 27; refine (C27.out _ T2.out).mono ?_; rintro e u3 ⟨tv, rfl, Rt, hb⟩; have T3 := Lib.hid (keepBelow T2.out hb); have HRV := Lib.hid (HRW.out.below hb); have HRT := Lib.hid Rt; clear hb Rt)
        | (go_at_call 25; refine (C25.out _ _ _ HRV.out HRT.out).mono ?_; rintro e u4 ⟨rfl, hb⟩; have T4 := Lib.hid (keepBelow T3.out hb); clear hb))
      all_goals
        have HZ : Hid (Py w g pb S4 st' ⟨.slice ta0 st'.q0.length tk0, .slice ta1 st'.q1.length tk1, .slice taw st'.ws.length tkw, .slice taa st'.ans.length tka⟩ st' u4) := Lib.hid (PP8.out.below T4.out)
        clear T0 T1 T2 T3 T4 C24 C25 C26 C27 SB HRW HRT HRV
        go_wp2_with fail
        obtain ⟨gko, hgko⟩ : ∃ x, x = gk := ⟨_, rfl⟩
        go_loopg [68] 2 (fun k i wr2 => ∃ (q : Nat), q + k = 2 ∧ i = .int .i64 q ∧ Py w g pb S4 st' ⟨.slice ta0 st'.q0.length tk0, .slice ta1 st'.q1.length tk1, .slice taw st'.ws.length tkw, .slice taa st'.ans.length tka⟩ st' wr2)
        case atStart => exact ⟨0, rfl, rfl, HZ.out⟩
        case round =>
          obtain ⟨q, hq, rfl, hpz⟩ := hrel
          have HQ := Lib.hid hq
          have PZ := Lib.hid hpz
          clear hq hpz
          rcases (show q = 0 ∨ q = 1 ∨ q = 2 by have := HQ.out; omega) with rfl | rfl | rfl
          · have HO : (openE st' 0 == 0) = !st'.c0 := by unfold openE; cases st'.c0 <;> rfl
            have CO := Lib.hid (fun W (hb : Below wr.heap.size wr W) => Open_any 0 g S4 st' W (PZ.out.pipe.below hb))
            have CB := Lib.hid (fun W (hb : Below wr.heap.size wr W) => Blocks_any 0 g S4 st' W (PZ.out.pipe.below hb) (RG2.out.G.sm (by have := HM.out; have := HLEN.out; omega)))
            have hqe : qAt st' 0 = st'.q0 := rfl
            rw [hqe] at CB
            rw [HO] at CO
            have CE := Lib.hid (fun va vb W (h1 : Row W 9 1 va st'.q0.length (strC st'.q0)) (h2 : Row W 9 1 vb st'.q0.length (strC st'.q0)) => equal_any va vb st'.q0 st'.q0 W h1 h2 (by have := RG2.out.G.q; have := HM.out; have := HLEN.out; omega))
            have hdd : decide (st'.q0 = st'.q0) = true := decide_eq_true rfl
            rw [hdd] at CE
            have SB := Lib.hid (show ∀ W, Below wr.heap.size wr W → W.cell? ⟨pb, 3, none⟩ = some (.bool st'.c0) ∧ W.cell? ⟨pb, 1, none⟩ = some (.slice ta0 st'.q0.length tk0) from fun W hb => ⟨(keepBlk hb PZ.out.box).cell 3, (keepBlk hb PZ.out.box).cell 1⟩)
            have T0 := Lib.hid (show Below wr.heap.size wr wr.drew from (Below.refl _ _).drew)
            have RB := Lib.hid (fun W (hb : Below wr.heap.size wr W) => (PZ.out.ref.below hb).r0)
            have tok0 : True := trivial
            generalize st'.c0 = cl at *
            clear HO hqe hdd
            cases cl
            case false =>
              go_upto_region 22 with fail
              go_region_held3 (fun W => W.cell? ⟨pb, 3, none⟩ = some (.bool false) ∧ W.cell? ⟨pb, 1, none⟩ = some (.slice ta0 st'.q0.length tk0)) (first | with_reducible exact SB.out _ T2.out | with_reducible exact SB.out _ T1.out | with_reducible exact SB.out _ T0.out) (first
                | (go_at_call 15; refine (CO.out _ T0.out).mono ?_; rintro e u1 ⟨rfl, rfl⟩)
                | (go_at_call 21; refine (CB.out _ T0.out).mono ?_; rintro e u2 ⟨bv, rfl, Rb, hb, _⟩; have T1 := Lib.hid (keepBelow T0.out hb); have HRb := Lib.hid Rb; have HRc := Lib.hid (RB.out _ T1.out); clear hb Rb)
                | (go_at_call 28; refine (CE.out _ _ _ HRb.out HRc.out).mono ?_; rintro e u3 ⟨rfl, hb⟩; have T2 := Lib.hid (keepBelow T1.out hb); clear hb))
              all_goals
                go_wp2_with fail
                go_roundg (gk - 1)
                case measure => have := HQ.out; omega
                case rel => exact ⟨1, by have := HQ.out; omega, by go_num, PZ.out.below T2.out⟩
            case true =>
              go_upto_region 22 with fail
              go_region_held3 (fun W => W.cell? ⟨pb, 3, none⟩ = some (.bool true) ∧ W.cell? ⟨pb, 1, none⟩ = some (.slice ta0 st'.q0.length tk0)) (first | with_reducible exact SB.out _ T2.out | with_reducible exact SB.out _ T1.out | with_reducible exact SB.out _ T0.out) (first
                | (go_at_call 15; refine (CO.out _ T0.out).mono ?_; rintro e u1 ⟨rfl, rfl⟩)
                | (go_at_call 21; refine (CB.out _ T0.out).mono ?_; rintro e u2 ⟨bv, rfl, Rb, hb, _⟩; have T1 := Lib.hid (keepBelow T0.out hb); have HRb := Lib.hid Rb; have HRc := Lib.hid (RB.out _ T1.out); clear hb Rb)
                | (go_at_call 28; refine (CE.out _ _ _ HRb.out HRc.out).mono ?_; rintro e u3 ⟨rfl, hb⟩; have T2 := Lib.hid (keepBelow T1.out hb); clear hb))
              all_goals
                go_wp2_with fail
                go_roundg (gk - 1)
                case measure => have := HQ.out; omega
                case rel => exact ⟨1, by have := HQ.out; omega, by go_num, PZ.out.below T2.out⟩
          · have HO : (openE st' 1 == 0) = !st'.c1 := by unfold openE; cases st'.c1 <;> rfl
            have CO := Lib.hid (fun W (hb : Below wr.heap.size wr W) => Open_any 1 g S4 st' W (PZ.out.pipe.below hb))
            have CB := Lib.hid (fun W (hb : Below wr.heap.size wr W) => Blocks_any 1 g S4 st' W (PZ.out.pipe.below hb) (RG2.out.G.sm (by have := HM.out; have := HLEN.out; omega)))
            have hqe : qAt st' 1 = st'.q1 := rfl
            rw [hqe] at CB
            rw [HO] at CO
            have CE := Lib.hid (fun va vb W (h1 : Row W 9 1 va st'.q1.length (strC st'.q1)) (h2 : Row W 9 1 vb st'.q1.length (strC st'.q1)) => equal_any va vb st'.q1 st'.q1 W h1 h2 (by have := RG2.out.G.q; have := HM.out; have := HLEN.out; omega))
            have hdd : decide (st'.q1 = st'.q1) = true := decide_eq_true rfl
            rw [hdd] at CE
            have SB := Lib.hid (show ∀ W, Below wr.heap.size wr W → W.cell? ⟨pb, 4, none⟩ = some (.bool st'.c1) ∧ W.cell? ⟨pb, 2, none⟩ = some (.slice ta1 st'.q1.length tk1) from fun W hb => ⟨(keepBlk hb PZ.out.box).cell 4, (keepBlk hb PZ.out.box).cell 2⟩)
            have T0 := Lib.hid (show Below wr.heap.size wr wr.drew from (Below.refl _ _).drew)
            have RB := Lib.hid (fun W (hb : Below wr.heap.size wr W) => (PZ.out.ref.below hb).r1)
            have tok0 : True := trivial
            generalize st'.c1 = cl at *
            clear HO hqe hdd
            cases cl
            case false =>
              go_upto_region 22 with fail
              go_region_held3 (fun W => W.cell? ⟨pb, 4, none⟩ = some (.bool false) ∧ W.cell? ⟨pb, 2, none⟩ = some (.slice ta1 st'.q1.length tk1)) (first | with_reducible exact SB.out _ T2.out | with_reducible exact SB.out _ T1.out | with_reducible exact SB.out _ T0.out) (first
                | (go_at_call 15; refine (CO.out _ T0.out).mono ?_; rintro e u1 ⟨rfl, rfl⟩)
                | (go_at_call 21; refine (CB.out _ T0.out).mono ?_; rintro e u2 ⟨bv, rfl, Rb, hb, _⟩; have T1 := Lib.hid (keepBelow T0.out hb); have HRb := Lib.hid Rb; have HRc := Lib.hid (RB.out _ T1.out); clear hb Rb)
                | (go_at_call 28; refine (CE.out _ _ _ HRb.out HRc.out).mono ?_; rintro e u3 ⟨rfl, hb⟩; have T2 := Lib.hid (keepBelow T1.out hb); clear hb))
              all_goals
                go_wp2_with fail
                go_roundg (gk - 1)
                case measure => have := HQ.out; omega
                case rel => exact ⟨2, by have := HQ.out; omega, by go_num, PZ.out.below T2.out⟩
            case true =>
              go_upto_region 22 with fail
              go_region_held3 (fun W => W.cell? ⟨pb, 4, none⟩ = some (.bool true) ∧ W.cell? ⟨pb, 2, none⟩ = some (.slice ta1 st'.q1.length tk1)) (first | with_reducible exact SB.out _ T2.out | with_reducible exact SB.out _ T1.out | with_reducible exact SB.out _ T0.out) (first
                | (go_at_call 15; refine (CO.out _ T0.out).mono ?_; rintro e u1 ⟨rfl, rfl⟩)
                | (go_at_call 21; refine (CB.out _ T0.out).mono ?_; rintro e u2 ⟨bv, rfl, Rb, hb, _⟩; have T1 := Lib.hid (keepBelow T0.out hb); have HRb := Lib.hid Rb; have HRc := Lib.hid (RB.out _ T1.out); clear hb Rb)
                | (go_at_call 28; refine (CE.out _ _ _ HRb.out HRc.out).mono ?_; rintro e u3 ⟨rfl, hb⟩; have T2 := Lib.hid (keepBelow T1.out hb); clear hb))
              all_goals
                go_wp2_with fail
                go_roundg (gk - 1)
                case measure => have := HQ.out; omega
                case rel => exact ⟨2, by have := HQ.out; omega, by go_num, PZ.out.below T2.out⟩
          · go_wp2_with fail
            go_roundg (gko - 1)
            case measure => have := HM.out; omega
            case rel => exact ⟨m + 1, S4, _, st', by have := HM.out; omega, by go_num, PZ.out, RG2.out⟩
    · obtain rfl : m = l.length := by have := HM.out; omega
      have hs : Sm st := RG.out.G.sm (by have := HLEN.out; omega)
      have CO := Lib.hid (fun a W (hb : Below wr.heap.size wr W) => Open_any a g S st W (PY.out.pipe.below hb))
      have CB := Lib.hid (fun W (hb : Below wr.heap.size wr W) => Blocks_any 2 g S st W (PY.out.pipe.below hb) hs)
      have hq2 : (qAt st 2).length = 0 := rfl
      have T0 := Lib.hid (Below.refl wr.heap.size wr)
      have e1 : (openE st (-1) == 0) = false := rfl
      have e2 : (openE st 2 == 0) = false := rfl
      have CO1 := Lib.hid (CO.out (-1))
      have CO2 := Lib.hid (CO.out 2)
      rw [e1] at CO1
      rw [e2] at CO2
      have tok1 : True := trivial
      clear e1 e2 CO hs
      go_wp2_with (first
        | (go_at_call 15; have _t := tok1; refine (CO1.out _ T0.out).mono ?_; rintro e u1 ⟨rfl, rfl⟩; clear tok1)
        | (go_at_call 15; refine (CO2.out _ T0.out).mono ?_; rintro e u2 ⟨rfl, rfl⟩)
        | (go_at_call 21; refine (CB.out _ T0.out).mono ?_; rintro e u3 ⟨bv, rfl, Rb, hb, _⟩; have T1 := Lib.hid hb; obtain ⟨ba, bc, rfl, _⟩ := Rb.form; clear Rb hb))
      go_ret
      exact ⟨rfl, keepBelow PY.out.low T1.out⟩
theorem plays_any (lim : Int) (sv : Value) (l : List Ac) (w : World) (hr : Acts w sv l) : Calls Try.prog 5 #[.int .i64 lim, sv] w fun e w' => e = .returned (.bool true) ∧ Below w.heap.size w w' := by
  cases hf : fewB l with
  | false => exact plays_no lim sv l hf w hr
  | true =>
    by_cases h : 1 ≤ lim ∧ lim ≤ 1048576
    · exact plays_ok lim sv l hf h.1 h.2 w hr
    · exact plays_bad lim sv l hf (by omega) w hr
end Go.Proofs.Ytmnlojbfdpjjdaa
