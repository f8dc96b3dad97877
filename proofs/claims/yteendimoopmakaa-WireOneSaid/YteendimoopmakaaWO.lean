/- WireOne: what a reader has read of any bytes is what a writer writes for it, so each value has one encoding. No condition of its own. -/
import Derived.Test.YteendimoopmakaaT36
import Derived.Test.YteendimoopmakaaM4
import Derived.Test.YteendimoopmakaaT34
import Derived.Test.YteendimoopmakaaWS
namespace Go.Proofs.Yteendimoopmakaa
open Go.RowKit
namespace wireOne

/-- A reader's call leaves a writer as it was. -/
theorem wr_rd {w w' : World} {base b r : Nat} {v : Value} {bs : List UInt8} {s : ByteArray} {a k : Nat} {c c' : Int} (hw : WrAt w base b v bs) (hr : RdAt w r s a c) (h : Rd w w' r s k c') (hne : b ≠ r) : WrAt w' base b v bs :=
  ⟨blk_kept hw.1 h.2 hne, hw.2.kept h.2 (.inr (own_ne hw.2 hr (by decide)))⟩
/-- A writer's call leaves a reader as it was. -/
theorem rd_wr_at {w w' : World} {base b r : Nat} {v : Value} {bs : List UInt8} {s : ByteArray} {a : Nat} {c : Int} (hw : WrAt w base b v bs) (hr : RdAt w r s a c) (h : Fr w w' b v.ownBlock) (hne : r ≠ b) : RdAt w' r s a c :=
  h.blk hr hne (fun e => own_ne hw.2 hr (by decide) e.symm)
/-- An own slice of bools lies outside the writer. -/
theorem own_out {w : World} {base b bo : Nat} {v sl : Value} {bs : List UInt8} {L : List Bool} (hw : WrAt w base b v bs) (h : w.ownsRow bo 4 1 sl L.length (bools L)) :
    (∃ ao cp, sl = .slice ao 0 cp ∧ L = []) ∨ ∃ bb off cap, sl = .slice (some ⟨bb, off, none⟩) L.length cap ∧ bb < w.heap.size ∧ bb ≠ b ∧ v.ownBlock ≠ some bb ∧ L.length ≤ cap ∧ cap ≤ 9223372036854775807 ∧ ∀ j, j < L.length → w.cell? ⟨bb, off + j, none⟩ = some (.bool (L.getD j false)) := by
  have hboo := own_boo h
  obtain ⟨hl, ⟨rfl, hz⟩ | ⟨g, cap, cur, rfl, hg, hh, h1, h2, h3, h4⟩⟩ := h
  · left
    refine ⟨none, 0, rfl, ?_⟩
    cases L with
    | nil => rfl
    | cons x l => simp at hz
  · right
    obtain ⟨so, cap', e, hc⟩ := hboo
    have hlt : g < w.heap.size := (Array.getElem?_eq_some_iff.1 hh).1
    refine ⟨g, 0, cap, rfl, hlt, ?_, ?_, h1, h2, fun j hj => ?_⟩
    · rintro rfl
      have := hw.1
      unfold Blk at this
      rw [hh] at this
      injection this with this
      injection this with _ ht
      exact absurd ht (by decide)
    · intro e
      rcases hw.2.2 with ⟨rfl, _⟩ | ⟨g', cap2, cur2, rfl, _, hh2, _⟩
      · simp [Value.ownBlock] at e
      · have : g' = g := by simpa [Value.ownBlock] using e
        subst this
        rw [hh] at hh2
        injection hh2 with hh2
        injection hh2 with _ ht
        exact absurd ht (by decide)
    · obtain ⟨b', o', e', hc'⟩ := hc j hj
      injection e with e1 e2 e3
      rw [e'] at e1
      injection e1 with e1
      injection e1 with q1 q2
      subst q1 q2
      exact hc'
theorem text_at (base b : Nat) (v : Value) (s : ByteArray) (a : Nat) (w : World) (hw : WrAt w base b v (s.data.toList.take a)) :
    Calls Try.prog 13 #[.pointer (some ⟨b, 0, none⟩)] w fun e w' => e = .returned (.string (s.extract 0 a)) ∧ w = w' := by
  have e : (⟨(s.data.toList.take a).toArray⟩ : ByteArray) = s.extract 0 a := by
    have := ext_list' s (Nat.zero_le a)
    rw [List.drop_zero, Nat.sub_zero] at this
    rw [← this, str_eta]
  have := text_any base b v _ w hw
  rw [e] at this
  exact this
theorem len_at (base b : Nat) (v : Value) (s : ByteArray) (a : Nat) (w : World) (hw : WrAt w base b v (s.data.toList.take a)) (ha : a ≤ s.size) :
    Calls Try.prog 17 #[.pointer (some ⟨b, 0, none⟩)] w fun e w' => e = .returned (.int .i64 a) ∧ w = w' := by
  have e : (s.data.toList.take a).length = a := by
    have hl : s.data.toList.length = s.size := Array.length_toList
    rw [List.length_take]; omega
  have := len_any base b v _ w hw
  rw [e] at this
  exact this
theorem take_next (s : ByteArray) {a k : Nat} {l : List UInt8} (h : a ≤ k) (hl : (s.data.toList.drop a).take (k - a) = l) : s.data.toList.take a ++ l = s.data.toList.take k := by
  rw [← hl, show k = a + (k - a) by omega, List.take_add, show a + (k - a) - a = k - a by omega]
theorem boolsLen (s : ByteArray) (a : Nat) (most : Int) : (btX s a most).2.1.length ≤ 65536 := by
  have hneg := rdCount_neg s a (min most 65536)
  have hle := rdCount_le s a (min most 65536)
  have hnn := rdCount_nn s a (min most 65536)
  generalize hx : rdCount s a (min most 65536) = x at *
  obtain ⟨n, c, k⟩ := x
  dsimp only at *
  obtain ⟨m, rfl⟩ := Int.eq_ofNat_of_zero_le hnn
  rw [btX_of hx]
  by_cases hc : c = 0
  · have hm : 0 ≤ min most 65536 := by
      rcases (show min most 65536 < 0 ∨ 0 ≤ min most 65536 by omega) with h | h
      · exact absurd hc (hneg h)
      · exact h
    have := hle hm
    rw [if_neg (fun h => h hc)]
    split
    · simp
    · split
      · rw [bitsOf_length]; omega
      · simp
  · rw [if_pos hc]; simp
theorem takeS_size (s : ByteArray) (a : Nat) (n : Int) : (takeS s a n).size ≤ s.size := by
  unfold takeS
  split
  · exact Nat.zero_le _
  · rw [ByteArray.size_extract]; omega
theorem rdO_small (s : ByteArray) (a : Nat) (kind n : Int) : (rdO s a kind n).s.size ≤ s.size ∧ (rdO s a kind n).l.length ≤ 65536 := by
  have hz : (⟨#[]⟩ : ByteArray).size ≤ s.size := Nat.zero_le _
  unfold rdO
  split
  · exact ⟨hz, by simp⟩
  split
  · exact ⟨hz, by simp⟩
  split
  · exact ⟨hz, by simp⟩
  split
  · refine ⟨?_, by simp⟩
    dsimp only
    split
    · unfold stS
      split
      · exact takeS_size _ _ _
      · exact hz
    · exact hz
  split
  · exact ⟨hz, by simp⟩
  split
  · refine ⟨hz, ?_⟩
    dsimp only
    split
    · exact boolsLen s a n
    · simp
  · refine ⟨?_, by simp⟩
    dsimp only
    split
    · exact takeS_size _ _ _
    · exact hz

set_option maxRecDepth 100000 in
set_option maxHeartbeats 3200000 in
theorem walk (s : ByteArray) (so1 : Option Addr) (cs1 : Nat) (l1 : List (Int × Int)) (w : World) (hs : s.size ≤ 140737488351232) (_hl1 : l1.length ≤ cs1) (_hc1 : cs1 ≤ 140737488351232) (h1 : Asks w w.heap.size so1 l1) :
    Calls Try.prog 7 #[.string s, .slice so1 l1.length cs1] w fun e w' => e = .returned (.bool true) ∧ Below w.heap.size w w' := by
  have H1 := Lib.hid h1
  clear h1
  by_cases hz1 : 5000 < s.size
  · go_enter Try.func7, Try.ntmps7
    go_wp2_with fail
    refine (awake_any _).mono ?_
    rintro e w0 ⟨rfl, hb0⟩
    go_wp2
    go_ret
    exact ⟨rfl, hb0⟩
  by_cases hz2 : 40 < l1.length
  · go_enter Try.func7, Try.ntmps7
    go_wp2_with fail
    refine (awake_any _).mono ?_
    rintro e w0 ⟨rfl, hb0⟩
    go_wp2
    go_ret
    exact ⟨rfl, hb0⟩
  go_enter Try.func7, Try.ntmps7
  go_wp2_with fail
  refine (awake_any _).mono ?_
  rintro e w0 ⟨rfl, hb0⟩
  have hs0 := hb0.size
  go_wp2_with fail
  refine (newReader_any s _).mono ?_
  rintro e w1 ⟨rfl, hw1⟩
  have hr1 := rd_new s w0
  rw [hw1] at hr1
  have hb1 : Below w.heap.size w w1 := by rw [← hw1]; exact hb0.alloc hs0 _
  have hsz1 : w1.heap.size = w0.heap.size + 1 := by rw [← hw1]; simp
  have HS1 := Lib.hid hsz1
  have HR1 := Lib.hid hr1
  have HB1 := Lib.hid hb1
  clear hw1 hsz1 hr1 hb1
  go_wp2_with fail
  refine (newWriter_any _).mono ?_
  rintro e w2 ⟨rfl, hw2⟩
  have hwr := wr_new w1
  have hr2 := HR1.out.alloc (.cells #[.slice none 0 0] 64)
  have hb2 := HB1.out.alloc (by rw [HS1.out]; omega) (.cells #[.slice none 0 0] 64)
  rw [hw2] at hwr hr2 hb2
  have hsz2 : w2.heap.size = w1.heap.size + 1 := by rw [← hw2]; simp
  have HS2 := Lib.hid hsz2
  have HW2 := Lib.hid hwr
  have HR2 := Lib.hid hr2
  have HB2 := Lib.hid hb2
  clear hw2 hsz2 hwr hr2 hb2
  go_wp2_with fail
  go_loopw [32] (fun i wr => ∃ k : Nat, k ≤ l1.length ∧ i = .int .i64 k ∧ ∃ (a : Nat) (v : Value), RdAt wr w0.heap.size s a 0 ∧ WrAt wr (w1.heap.size + 1) w1.heap.size v (s.data.toList.take a) ∧ a ≤ s.size ∧ Below w.heap.size w wr) (fun i _ => l1.length - (intOf i).toNat)
  case atStart => exact ⟨0, by omega, rfl, 0, _, HR2.out, HW2.out, by omega, HB2.out⟩
  case round =>
    obtain ⟨k, hk, rfl, a, v, hr, hwv, ha, hb⟩ := hrel
    have hbs := hb.size
    by_cases hlt : k < l1.length
    · obtain ⟨ib, io, rfl, hib, q0, q1⟩ := H1.out k hlt
      have q0' := (hb.cell (p := ⟨ib, io + k * 2, none⟩) hib).trans q0
      have q1' := (hb.cell (p := ⟨ib, io + k * 2 + 1, none⟩) hib).trans q1
      generalize l1[k]!.1 = kd at q0 q0'
      generalize l1[k]!.2 = an at q1 q1'
      clear q0 q1
      have hlr := Blk.lt hr
      have hlw := Blk.lt hwv.1
      have hbA : Below wr.heap.size wr (wr.alloc (.cells #[.int .i64 kd, .int .i64 an] 45)) := (Below.refl _ _).alloc (Nat.le_refl _) _
      have HRA := Lib.hid (Blk.below hr hbA hlr)
      have HWA := Lib.hid (hwv.below hbA)
      have HBA := Lib.hid (hb.alloc hbs (.cells #[.int .i64 kd, .int .i64 an] 45))
      have HOR := Lib.hid (read_full kd an w0.heap.size s a _ HRA.out ha hs)
      have HLE := Lib.hid (rdO_le s a kd an ha)
      have HFT := Lib.hid (fun sl => rd_wr s a kd an ha sl)
      have HER := Lib.hid (rdO_err s a kd an)
      have HSM := Lib.hid (rdO_small s a kd an)
      generalize rdO s a kd an = o at HOR HLE HFT HER HSM
      clear hr hwv hb hbA
      go_wp2_with fail
      refine HOR.out.mono ?_
      rintro e w4 ⟨v4, rfl, ⟨bo, _, hown⟩, hr4⟩
      have HO4 := Lib.hid hown
      obtain ⟨so, ls, cs, rfl⟩ := own_shape hown
      clear hown
      have hne : w1.heap.size ≠ w0.heap.size := by rw [HS1.out]; omega
      have hwne : wr.heap.size ≠ w0.heap.size := by omega
      have hw4 := wr_rd HWA.out HRA.out hr4 hne
      have hx4 : Blk w4 wr.heap.size 45 [.int .i64 kd, .int .i64 an] := blk_kept (Blk.new wr 45 [.int .i64 kd, .int .i64 an]) hr4.2 hwne
      have hz4 : wr.heap.size < w4.heap.size := Blk.lt hx4
      have hb4 : Below w.heap.size w w4 := wireStops.rd_below0 (by exact HBA.out) hr4 hs0
      have hbs4 := hb4.size
      have HB4 := Lib.hid hb4
      have HW4 := Lib.hid hw4
      have HR4 := Lib.hid hr4.1
      have x0 : w4.cell? ⟨wr.heap.size, 0, none⟩ = some (.int .i64 kd) := hx4.cell 0
      have x1 : w4.cell? ⟨wr.heap.size, 1, none⟩ = some (.int .i64 an) := hx4.cell 1
      clear hr4 hx4 hb4 hw4
      by_cases hoc : o.c = 0
      · have hne0 : (o.c != 0) = false := by rw [bne_eq_false_iff_eq]; exact hoc
        have hfit := HFT.out (.slice so ls cs) hoc
        have HOC := Lib.hid hoc
        obtain ⟨hE, hbytes, hn0, hn1⟩ := hfit
        have hnext := take_next s (HLE.out).1 hbytes
        have HNX := Lib.hid hnext
        have hl5 : (s.data.toList.take a).length ≤ 100000 := by rw [List.length_take]; omega
        have hs5 : o.s.size ≤ 65536 := by have := HSM.out.1; omega
        have HWB := Lib.hid (fun (W : World) (h1 : WrAt W (w1.heap.size + 1) w1.heap.size v (s.data.toList.take a)) (h2 : w1.heap.size + 1 ≤ W.heap.size) (h3 : W.ownsRow bo 4 1 (.slice so ls cs) o.l.length (bools o.l)) => (show Calls Try.prog 19 #[.pointer (some ⟨w1.heap.size, 0, none⟩), .agg #[.int .i64 kd, .int .i64 an, .int .i64 o.n, .string o.s, .slice so ls cs]] W (WritePost W (w1.heap.size + 1) w1.heap.size v (s.data.toList.take a) 0 (wrB (itOf kd an o (.slice so ls cs)))) by
          have := write_big (itOf kd an o (.slice so ls cs)) hn0 hn1 hs5 HSM.out.2 (own_out h1 h3) hl5 h1 h2
          rwa [hE] at this))
        generalize wrB (itOf kd an o (.slice so ls cs)) = BX at HWB HNX
        clear hoc hE hbytes hnext hl5 hs5 HFT
        go_wp2_with fail
        go_region
        go_wp2_with fail
        have hbd : Below w4.heap.size w4 (w4.alloc (.cells #[.int .i64 kd, .int .i64 an, .int .i64 o.n, .string o.s, .slice so ls cs] 35)).drew := ((Below.refl _ _).alloc (Nat.le_refl _) _).drew
        have HWD := Lib.hid (HW4.out.below hbd)
        have HRD := Lib.hid (Blk.below HR4.out hbd (Blk.lt HR4.out))
        have HOD := Lib.hid (own_below HO4.out hbd)
        have HBD := Lib.hid (HB4.out.trans (hbd.mono hbs4))
        clear hbd
        refine (HWB.out _ (by exact HWD.out) (by have := Blk.lt HW4.out.1; show _ ≤ (w4.alloc _).heap.size; simp; omega) (by exact HOD.out)).mono ?_
        rintro e w5 ⟨rfl, v5, hW5, hF5, _⟩
        have hb5 : Below w1.heap.size _ w5 := hF5.toBelow (by have := Blk.lt HW4.out.1; show _ ≤ (w4.alloc _).heap.size; simp; omega) (Nat.le_refl _) (fun g e => by have := HWD.out.ownB g e; omega)
        have HB5 := Lib.hid (HBD.out.trans (hb5.mono (by rw [HS1.out]; omega)))
        have HR5 := Lib.hid (rd_wr_at HWD.out HRD.out hF5 hne.symm)
        rw [HNX.out] at hW5
        have HW5 := Lib.hid hW5
        have HOC2 := HOC.out
        clear hW5 hF5 hb5
        go_wp2
        go_roundw
        case rel => exact ⟨k + 1, by omega, by go_num, o.k, v5, by have := HR5.out; rwa [HOC.out] at this, HW5.out, HLE.out.2, HB5.out⟩
        case measure => simp [intOf]; omega
      · have hne0 : (o.c != 0) = true := by rw [bne_iff_ne]; exact hoc
        have hk1 := (HER.out hoc).1
        have hby : Below w4.heap.size w4 (w4.alloc (.cells #[.int .i64 0, .int .i64 0, .int .i64 o.n, .string o.s, .slice so ls cs] 35)) := (Below.refl _ _).alloc (Nat.le_refl _) _
        have hR5 := Blk.below HR4.out hby (Blk.lt HR4.out)
        have HR5 := Lib.hid (show RdAt (w4.alloc (.cells #[.int .i64 0, .int .i64 0, .int .i64 o.n, .string o.s, .slice so ls cs] 35)) w0.heap.size s a o.c by rw [← hk1]; exact hR5)
        have HW5 := Lib.hid (HW4.out.below hby)
        have HB5 := Lib.hid (HB4.out.trans (hby.mono hbs4))
        clear hoc hk1 hby hR5
        go_wp2_with fail
        refine (At_any _ s a o.c _ (by exact HR5.out)).mono ?_
        rintro e w5 ⟨rfl, rfl⟩
        go_wp2_with fail
        refine (len_at _ _ v s a _ HW5.out ha).mono ?_
        rintro e w5 ⟨rfl, rfl⟩
        go_wp2_with fail
        refine (text_at _ _ v s a _ HW5.out).mono ?_
        rintro e w5 ⟨rfl, rfl⟩
        go_wp2_with fail
        refine (At_any _ s a o.c _ (by exact HR5.out)).mono ?_
        rintro e w5 ⟨rfl, rfl⟩
        go_wp2
        go_ret
        exact ⟨by simp, HB5.out⟩
    · go_wp2_with fail
      refine (At_any _ s a 0 _ (by exact hr)).mono ?_
      rintro e w5 ⟨rfl, rfl⟩
      go_wp2_with fail
      refine (len_at _ _ v s a _ hwv ha).mono ?_
      rintro e w5 ⟨rfl, rfl⟩
      go_wp2_with fail
      refine (text_at _ _ v s a _ hwv).mono ?_
      rintro e w5 ⟨rfl, rfl⟩
      go_wp2_with fail
      refine (At_any _ s a 0 _ (by exact hr)).mono ?_
      rintro e w5 ⟨rfl, rfl⟩
      go_wp2
      go_ret
      exact ⟨by simp, hb⟩
open Go.ChangeShapes Go.WideShapes Go.ChangeAt Go.Deep
set_option maxRecDepth 100000 in
theorem lifted (os : Os) (started : os.Started) (H : Type) (enc : TypeId × Value → H) :
    ReturnsInHanded {} Try.checked os 7 .any (Rows.wireOneSpec.pre6 enc Try.prog Try.f7 Rows.wireOneRow.domain false) (Rows.wireOneSpec.post enc Try.prog Try.f7 false true false false) := by
  refine returnsInHanded_of_change_sized (C := Try.checked) Try.own started (by kernel_rfl) Try.func7
    (ChangeSpec.witness6 (enc := enc) (C := Try.checked) false ⟨#[], #[.string ⟨#[]⟩, .slice none 0 0], []⟩ 8 (by kernel_rfl) (by kernel_rfl) (by kernel_rfl) (by kernel_rfl)) ?_
  intro W base args ds gs before hval0 hW _ hsz0 _
  have hval : ∀ (j : Nat) t v, Try.f7.params[j]? = some t → args[j]? = some v → Value.okWide Try.prog W .any base t v := hval0
  have hW' := hW
  obtain ⟨p, q, hA0, hV, rfl, _, _⟩ := hW
  have hA : DataW.TrodAll enc Try.prog W 0 (fun _ => true) true Try.f7.params.toList args.toList ds p := hA0
  have hsz : (DataW.weightsEach Try.prog (Try.f7.params.toList ++ Rows.wireOneSpec.plain.varTypes Try.prog) (ds ++ gs)).all (· ≤ reachBytes) = true := hsz0
  rw [Try.params7] at hA hval hsz
  obtain ⟨v0, vs0, d0, ds0, p0, q0, hargs, rfl, rfl, h0, r0⟩ := trodAll_cons hA
  obtain ⟨v1, vs1, d1, ds1, p1, q1, rfl, rfl, rfl, h1, r1⟩ := trodAll_cons r0
  obtain ⟨rfl, rfl, rfl⟩ := trodAll_nil r1
  obtain rfl : args = #[v0, v1] := by cases args; simp_all
  have hwt : ∀ (j : Nat) (t : TypeId) (d : DataW H), [9, 39][j]? = some t → [d0, d1][j]? = some d → ∀ m ∈ d.weights Try.prog t, m ≤ reachBytes := by
    intro j t d ht hd m hm
    have hj : j < 2 := (List.getElem?_eq_some_iff.1 ht).1
    have := List.all_eq_true.1 hsz m (DataW.weights_mem_each (j := j) (t := t) (d := d) (by rcases j with _ | _ | j <;> first | exact ht | omega) (by rcases j with _ | _ | j <;> first | exact hd | omega) m hm)
    simpa using this
  obtain ⟨s, rfl⟩ := okWide_string Try.underlying9 (hval 0 9 v0 rfl rfl)
  obtain ⟨fu, hfu⟩ := h0
  obtain ⟨s', hs1, hs2, _⟩ := DataW.trod_string Try.underlying9 hfu
  obtain rfl : s = s' := by simpa [Value.cells] using hs1
  have hd0 : d0 = .lit (.string s.data.toList) := congrArg Prod.fst hs2
  obtain ⟨so1, l1, cs1, rfl, a1, a2, a3⟩ := wireStops.open_asks (hval 1 39 v1 rfl rfl) h1 (hwt 1 39 d1 rfl rfl)
  have hs : s.size ≤ 140737488351232 := by
    have := hwt 0 9 d0 rfl rfl s.size (by rw [hd0]; simp [DataW.weights])
    rw [reach_is] at this
    exact this
  clear hA0 hval0 hsz0
  refine (walk s so1 cs1 l1 W hs a1 a2 a3).mono fun e W' ⟨he, hb⟩ => ?_
  subst he
  exact ⟨_, rfl, post_law Try.laidOut rfl rfl Try.underlying4 rfl (by intro t ht; rw [Try.params7] at ht; simp at ht; rcases ht with rfl | rfl <;> exact ⟨by kernel_rfl, of_decide_eq_true (by kernel_rfl)⟩) hW' hb⟩

theorem over : Rows.wireOneRow.holds Try.pinned (OpenSpec.ofChange Rows.wireOneSpec) :=
  OpenClaim.holds_of_wide 7 Try.f7 rfl rfl rfl rfl rfl rfl rfl ⟨rfl, rfl, rfl, rfl, rfl⟩ rfl rfl rfl rfl rfl (by kernel_rfl) Try.func7 (by kernel_rfl)
    (of_decide_eq_true (by kernel_rfl)) (by unfold Func.isWrapper; first | (rw [if_pos (by decide +kernel)]; kernel_rfl) | (rw [if_neg (by decide +kernel)]; exact ⟨rfl, rfl⟩))
    (fun os started H enc _ => lifted os started H enc)

/-- THE STATEMENT. -/
theorem proved : Rows.WireOneSaid := over
#print axioms proved
end wireOne
end Go.Proofs.Yteendimoopmakaa
