/- WireStops: the first error of a reader is returned by every further call, with zero values, and the place stays. No condition of its own. -/
import Derived.Test.YteendimoopmakaaT25
import Derived.Test.YteendimoopmakaaT10
import Derived.Test.YteendimoopmakaaL1
import Derived.Test.YteendimoopmakaaL2
namespace Go.Proofs.Yteendimoopmakaa
open Go.RowKit
/-- A slice of asks that is read. -/
def Asks (w : World) (B : Nat) (so : Option Addr) (l : List (Int × Int)) : Prop :=
  ∀ i, i < l.length → ∃ ib io, so = some ⟨ib, io, none⟩ ∧ ib < B ∧ w.cell? ⟨ib, io + i * 2, none⟩ = some (.int .i64 l[i]!.1) ∧ w.cell? ⟨ib, io + i * 2 + 1, none⟩ = some (.int .i64 l[i]!.2)
namespace wireStops
theorem rd_below0 {w W w' : World} {r : Nat} {s : ByteArray} {k : Nat} {c : Int} (hb : Below w.heap.size w W) (h : Rd W w' r s k c) (hr : w.heap.size ≤ r) : Below w.heap.size w w' :=
  hb.grown h.2 hb.size (fun _ e => by cases e; exact hr)

set_option maxRecDepth 100000 in
set_option maxHeartbeats 3200000 in
theorem walk (s : ByteArray) (so1 so2 : Option Addr) (cs1 cs2 : Nat) (l1 l2 : List (Int × Int)) (w : World) (hs : s.size ≤ 140737488351232) (_hl1 : l1.length ≤ cs1) (_hl2 : l2.length ≤ cs2) (_hc1 : cs1 ≤ 140737488351232) (_hc2 : cs2 ≤ 140737488351232)
    (h1 : Asks w w.heap.size so1 l1) (h2 : Asks w w.heap.size so2 l2) :
    Calls Try.prog 6 #[.string s, .slice so1 l1.length cs1, .slice so2 l2.length cs2] w fun e w' => e = .returned (.bool true) ∧ Below w.heap.size w w' := by
  have H1 := Lib.hid h1
  have H2 := Lib.hid h2
  clear h1 h2
  by_cases hbig : 5000 < s.size ∨ 40 < l1.length ∨ 40 < l2.length
  · by_cases hz1 : 5000 < s.size
    · clear hbig
      go_enter Try.func6, Try.ntmps6
      go_wp2_with fail
      refine (awake_any _).mono ?_
      rintro e w0 ⟨rfl, hb0⟩
      go_wp2
      go_ret
      exact ⟨rfl, hb0⟩
    · by_cases hz2 : 40 < l1.length
      · clear hbig
        go_enter Try.func6, Try.ntmps6
        go_wp2_with fail
        refine (awake_any _).mono ?_
        rintro e w0 ⟨rfl, hb0⟩
        go_wp2
        go_ret
        exact ⟨rfl, hb0⟩
      · have hz3 : 40 < l2.length := by omega
        clear hbig
        go_enter Try.func6, Try.ntmps6
        go_wp2_with fail
        refine (awake_any _).mono ?_
        rintro e w0 ⟨rfl, hb0⟩
        go_wp2
        go_ret
        exact ⟨rfl, hb0⟩
  · have hz1 : s.size ≤ 5000 := by omega
    have hz2 : l1.length ≤ 40 := by omega
    have hz3 : l2.length ≤ 40 := by omega
    clear hbig
    go_enter Try.func6, Try.ntmps6
    go_wp2_with fail
    refine (awake_any _).mono ?_
    rintro e w0 ⟨rfl, hb0⟩
    have hs0 := hb0.size
    go_wp2_with fail
    refine (newReader_any s _).mono ?_
    rintro e w1 ⟨rfl, hw1⟩
    have hr1 := rd_new s w0
    rw [hw1] at hr1
    have hb1 : Below w.heap.size w w1 := by rw [← hw1]; exact hb0.alloc hs0 _
    clear hw1
    go_wp2_with fail
    go_loopw [38] (fun i wr => ∃ k : Nat, k ≤ l1.length ∧ i = .int .i64 k ∧ ∃ a, RdAt wr w0.heap.size s a 0 ∧ a ≤ s.size ∧ Below w.heap.size w wr) (fun i _ => l1.length - (intOf i).toNat)
    case atStart => exact ⟨0, by omega, rfl, 0, hr1, by omega, hb1⟩
    case round =>
      obtain ⟨k, hk, rfl, a, hr, ha, hb⟩ := hrel
      have hbs := hb.size
      by_cases hlt : k < l1.length
      · obtain ⟨ib, io, rfl, hib, q0, q1⟩ := H1.out k hlt
        have q0' := (hb.cell (p := ⟨ib, io + k * 2, none⟩) hib).trans q0
        have q1' := (hb.cell (p := ⟨ib, io + k * 2 + 1, none⟩) hib).trans q1
        generalize l1[k]!.1 = kd at q0 q0'
        generalize l1[k]!.2 = an at q1 q1'
        clear q0 q1
        have hra : RdAt (wr.alloc (.cells #[.int .i64 kd, .int .i64 an] 45)) w0.heap.size s a 0 := Blk.below hr ((Below.refl _ _).alloc (Nat.le_refl _) _) (Blk.lt hr)
        have hba : Below w.heap.size w (wr.alloc (.cells #[.int .i64 kd, .int .i64 an] 45)) := hb.alloc hbs _
        have HRA := Lib.hid hra
        have HBA := Lib.hid hba
        have HHA := Lib.hid ha
        clear hra hba hr hb
        go_wp2_with fail
        refine (At_any _ s a 0 _ (by exact HRA.out)).mono ?_
        rintro e w3 ⟨rfl, rfl⟩
        go_wp2_with fail
        refine (read_live kd an _ s a _ (by exact HRA.out) HHA.out hs).mono ?_
        rintro e w4 ⟨c, k4, N, S, so, ls, cs, rfl, hr4, hk4, hk4', hz⟩
        have hb4 := rd_below0 (by exact HBA.out) hr4 hs0
        have hbs4 := hb4.size
        have hr4' := hr4.1
        clear hr4
        by_cases hc : c = 0
        · subst hc
          clear hz
          have HR4 := Lib.hid hr4'
          have HB4 := Lib.hid hb4
          clear hr4' hb4
          go_wp2
          go_roundw
          case rel => exact ⟨k + 1, by omega, by go_num, k4, Blk.below HR4.out ((Below.refl _ _).alloc (Nat.le_refl _) _) (Blk.lt HR4.out), hk4', HB4.out.alloc hbs4 _⟩
          case measure => simp [intOf]; omega
        · obtain ⟨rfl, rfl, rfl, rfl, rfl, rfl⟩ := hz hc
          clear hz hk4 hk4'
          have hne : (c == 0) = false := by rw [beq_eq_false_iff_ne]; exact hc
          have HC := Lib.hid hc
          clear hc
          have hx0 : Blk (w4.alloc zero35) w4.heap.size 35 zcells := Blk.new w4 35 zcells
          have HR4 := Lib.hid hr4'
          have HB4 := Lib.hid hb4
          clear hr4' hb4
          go_wp2_with fail
          refine (same_zero _).mono ?_
          rintro e w6 ⟨rfl, hb6⟩
          have hb46 : Below w4.heap.size w4 w6 := ((Below.refl _ _).alloc (Nat.le_refl _) zero35).trans (hb6.mono (by simp))
          have HR6 := Lib.hid (Blk.below HR4.out hb46 (Blk.lt HR4.out))
          have HB6 := Lib.hid (HB4.out.trans (hb46.mono hbs4))
          clear hb6 hb46 hx0
          go_wp2_with fail
          refine (At_any _ s _ c _ (by exact HR6.out)).mono ?_
          rintro e w7 ⟨rfl, rfl⟩
          go_wp2_with fail
          go_loopw [64] (fun i wq => ∃ j : Nat, j ≤ l2.length ∧ i = .int .i64 j ∧ RdAt wq w0.heap.size s k4 c ∧ Below w.heap.size w wq) (fun i _ => l2.length - (intOf i).toNat)
          case atStart => exact ⟨0, by omega, rfl, HR6.out, HB6.out⟩
          case round =>
            obtain ⟨j, hj, rfl, hrq, hbq⟩ := hrel
            have hbqs := hbq.size
            have HRQ := Lib.hid hrq
            have HBQ := Lib.hid hbq
            clear hrq hbq
            by_cases hjl : j < l2.length
            · obtain ⟨jb, jo, rfl, hjb, p0, p1⟩ := H2.out j hjl
              have p0' := (HBQ.out.cell (p := ⟨jb, jo + j * 2, none⟩) hjb).trans p0
              have p1' := (HBQ.out.cell (p := ⟨jb, jo + j * 2 + 1, none⟩) hjb).trans p1
              generalize l2[j]!.1 = kd2 at p0 p0'
              generalize l2[j]!.2 = an2 at p1 p1'
              clear p0 p1
              have HRB := Lib.hid (show RdAt (wr.alloc (.cells #[.int .i64 kd2, .int .i64 an2] 45)) w0.heap.size s k4 c from Blk.below HRQ.out ((Below.refl _ _).alloc (Nat.le_refl _) _) (Blk.lt HRQ.out))
              have HBB := Lib.hid (show Below w.heap.size w (wr.alloc (.cells #[.int .i64 kd2, .int .i64 an2] 45)) from HBQ.out.alloc hbqs _)
              go_wp2_with fail
              refine (read_stopped kd2 an2 _ s k4 c _ (by exact HRB.out) HC.out).mono ?_
              rintro e w8 ⟨rfl, hr8⟩
              have HB8 := Lib.hid (rd_below0 (by exact HBB.out) hr8 hs0)
              have HR8 := Lib.hid hr8.1
              have hbs8 := HB8.out.size
              clear hr8
              go_wp2_with fail
              refine (same_zero _).mono ?_
              rintro e w9 ⟨rfl, hb9⟩
              have hb89 : Below w8.heap.size w8 w9 := ((Below.refl _ _).alloc (Nat.le_refl _) zero35).trans (hb9.mono (by simp))
              have HR9 := Lib.hid (Blk.below HR8.out hb89 (Blk.lt HR8.out))
              have HB9 := Lib.hid (HB8.out.trans (hb89.mono hbs8))
              clear hb9 hb89
              go_wp2
              go_roundw
              case rel => exact ⟨j + 1, by omega, by go_num, HR9.out, HB9.out⟩
              case measure => simp [intOf]; omega
            · go_wp2_with fail
              refine (At_any _ s _ c _ (by exact HRQ.out)).mono ?_
              rintro e w8 ⟨rfl, rfl⟩
              go_wp2_with fail
              refine (Left_any _ s _ c _ (by exact HRQ.out) (by first | exact HHA.out | exact HHA) hs).mono ?_
              rintro e w8 ⟨rfl, hr8⟩
              have HB8 := Lib.hid (rd_below0 HBQ.out hr8 hs0)
              have HR8 := Lib.hid hr8.1
              clear hr8
              go_wp2_with fail
              refine (Err_any _ s _ c _ (by exact HR8.out)).mono ?_
              rintro e w9 ⟨rfl, rfl⟩
              go_wp2_with fail
              refine (End_stopped _ s _ c _ (by exact HR8.out) HC.out).mono ?_
              rintro e w9 ⟨rfl, hr9⟩
              have HB9 := Lib.hid (rd_below0 HB8.out hr9 hs0)
              clear hr9
              go_wp2
              go_ret
              exact ⟨by simp, HB9.out⟩
      · go_wp2_with fail
        refine (Err_any _ s a 0 _ (by exact hr)).mono ?_
        rintro e w9 ⟨rfl, rfl⟩
        go_wp2
        go_ret
        exact ⟨rfl, hb⟩

open Go.ChangeShapes Go.WideShapes Go.ChangeAt Go.Deep
set_option maxRecDepth 100000 in
theorem open_asks {H : Type} {enc : TypeId × Value → H} {W : World} {b0 : Nat} {v : Value} {d : DataW H} {p : List MemPlace} (hok : Value.okWide Try.prog W .any b0 39 v) (h : DataW.Trod enc Try.prog W 0 (fun _ => true) true 39 v d p) (hw : ∀ m ∈ d.weights Try.prog 39, m ≤ reachBytes) :
    ∃ so l cs, v = .slice so l.length cs ∧ l.length ≤ cs ∧ cs ≤ 140737488351232 ∧ Asks W W.heap.size so l := by
  obtain ⟨a0, len0, cap0, rfl⟩ := okWide_slice Try.underlying39 hok
  obtain ⟨fuel, hf⟩ := h
  rcases open_slice Try.underlying39 hf with ⟨h1, _⟩ | ⟨a, len, cap, m, k, D, Pl, h1, _, hl, _, hm, hx, hi⟩
  · obtain ⟨rfl, rfl, rfl⟩ : a0 = none ∧ len0 = 0 ∧ cap0 = 0 := by simpa [Value.cells] using h1
    exact ⟨none, [], 0, rfl, by simp, by omega, fun i hi => by simp at hi⟩
  · obtain ⟨rfl, rfl, rfl⟩ : a0 = some a ∧ len0 = len ∧ cap0 = cap := by simpa [Value.cells] using h1
    have hm' : m = cap0 := by simpa using hm
    have hd : d = .slice ((List.range len0).map D) ((List.range (m - len0)).map fun j => D (len0 + j)) := congrArg Prod.fst hx
    have e5 : Try.prog.cellsOf 45 = 2 := by kernel_rfl
    have hcap : cap0 ≤ reachBytes := by
      have h1 : (len0 + (m - len0)) * Try.prog.bytesOf 45 ≤ reachBytes := hw _ (by rw [hd]; simp [DataW.weights, Try.underlying39])
      have h2 : 1 ≤ Try.prog.bytesOf 45 := of_decide_eq_true (by kernel_rfl)
      have h3 : (len0 + (m - len0)) * 1 ≤ (len0 + (m - len0)) * Try.prog.bytesOf 45 := Nat.mul_le_mul_left _ h2
      omega
    have hel : ∀ i, i < len0 → ∃ x : Int × Int, a.spot = none ∧ W.cell? ⟨a.block, a.off + i * 2, none⟩ = some (.int .i64 x.1) ∧ W.cell? ⟨a.block, a.off + i * 2 + 1, none⟩ = some (.int .i64 x.2) := by
      intro i hi0
      obtain ⟨cs', hc, ht⟩ := hi i (by omega)
      obtain ⟨ys, n', _, hy, hlen, hyl, hff⟩ := DataW.trod_struct Try.underlying45 ht
      obtain ⟨_, hcl, hat⟩ := World.cells?_some hc
      rw [e5] at hlen hat
      match cs', hlen with
      | [v0, v1], _ =>
      match ys, hyl with
      | [y0, y1], _ =>
        have g0 : DataW.trod enc Try.prog W 0 (fun _ => true) true n' 3 [v0] = some y0 := by
          have := hff 0 _ rfl
          rwa [show Try.prog.cellsOf _ = 1 by kernel_rfl] at this
        have g1 : DataW.trod enc Try.prog W 0 (fun _ => true) true n' 3 [v1] = some y1 := by
          have := hff 1 _ rfl
          rwa [show Try.prog.cellsOf _ = 1 by kernel_rfl] at this
        obtain ⟨x0, hx0, _, _⟩ := DataW.trod_int Try.underlying3 g0
        obtain ⟨x1, hx1, _, _⟩ := DataW.trod_int Try.underlying3 g1
        obtain rfl : v0 = .int .i64 x0 := by simpa using hx0
        obtain rfl : v1 = .int .i64 x1 := by simpa using hx1
        have z0 := hat 0 (by omega)
        have z1 := hat 1 (by omega)
        rw [Go.Deep.add_add] at z0 z1
        have hsp : a.spot = none := by
          obtain ⟨cs0, hc0, _⟩ := hi 0 (by omega)
          obtain ⟨_, hcl0, hat0⟩ := World.cells?_some hc0
          rw [e5] at hcl0 hat0
          have h00 := hat0 0 (by omega)
          rw [List.getElem?_eq_getElem (by omega)] at h00
          have := World.cell?_spot h00
          simpa [Addr.add] using this
        obtain ⟨ab, ao, asp⟩ := a
        dsimp only at hsp
        subst hsp
        have hadd : ∀ t, (Addr.add ⟨ab, ao, none⟩ t) = ⟨ab, ao + t, none⟩ := by intro t; unfold Addr.add; split <;> simp_all
        rw [hadd] at z0 z1
        exact ⟨(x0, x1), rfl, z0, z1⟩
    obtain ⟨f, hf⟩ := choose_lt (α := Int × Int) hel
    refine ⟨some a, (List.range len0).map f, cap0, by simp, by simpa using hl, by rw [reach_is] at hcap; exact hcap, fun j hj => ?_⟩
    have hj' : j < len0 := by simpa using hj
    obtain ⟨z, y0, y1⟩ := hf j hj'
    obtain ⟨ab, ao, asp⟩ := a
    dsimp only at z
    subst z
    refine ⟨ab, ao, rfl, World.block_lt_of_cell? _ _ y0, ?_⟩
    rw [getElem!_pos _ j hj]
    simpa using ⟨y0, y1⟩

set_option maxRecDepth 100000 in
theorem lifted (os : Os) (started : os.Started) (H : Type) (enc : TypeId × Value → H) :
    ReturnsInHanded {} Try.checked os 6 .any (Rows.wireStopsSpec.pre6 enc Try.prog Try.f6 Rows.wireStopsRow.domain false) (Rows.wireStopsSpec.post enc Try.prog Try.f6 false true false false) := by
  refine returnsInHanded_of_change_sized (C := Try.checked) Try.own started (by kernel_rfl) Try.func6
    (ChangeSpec.witness6 (enc := enc) (C := Try.checked) false ⟨#[], #[.string ⟨#[]⟩, .slice none 0 0, .slice none 0 0], []⟩ 8 (by kernel_rfl) (by kernel_rfl) (by kernel_rfl) (by kernel_rfl)) ?_
  intro W base args ds gs before hval0 hW _ hsz0 _
  have hval : ∀ (j : Nat) t v, Try.f6.params[j]? = some t → args[j]? = some v → Value.okWide Try.prog W .any base t v := hval0
  have hW' := hW
  obtain ⟨p, q, hA0, hV, rfl, _, _⟩ := hW
  have hA : DataW.TrodAll enc Try.prog W 0 (fun _ => true) true Try.f6.params.toList args.toList ds p := hA0
  have hsz : (DataW.weightsEach Try.prog (Try.f6.params.toList ++ Rows.wireStopsSpec.plain.varTypes Try.prog) (ds ++ gs)).all (· ≤ reachBytes) = true := hsz0
  rw [Try.params6] at hA hval hsz
  obtain ⟨v0, vs0, d0, ds0, p0, q0, hargs, rfl, rfl, h0, r0⟩ := trodAll_cons hA
  obtain ⟨v1, vs1, d1, ds1, p1, q1, rfl, rfl, rfl, h1, r1⟩ := trodAll_cons r0
  obtain ⟨v2, vs2, d2, ds2, p2, q2, rfl, rfl, rfl, h2, r2⟩ := trodAll_cons r1
  obtain ⟨rfl, rfl, rfl⟩ := trodAll_nil r2
  obtain rfl : args = #[v0, v1, v2] := by cases args; simp_all
  have hwt : ∀ (j : Nat) (t : TypeId) (d : DataW H), [9, 39, 39][j]? = some t → [d0, d1, d2][j]? = some d → ∀ m ∈ d.weights Try.prog t, m ≤ reachBytes := by
    intro j t d ht hd m hm
    have hj : j < 3 := (List.getElem?_eq_some_iff.1 ht).1
    have := List.all_eq_true.1 hsz m (DataW.weights_mem_each (j := j) (t := t) (d := d) (by rcases j with _ | _ | _ | j <;> first | exact ht | omega) (by rcases j with _ | _ | _ | j <;> first | exact hd | omega) m hm)
    simpa using this
  obtain ⟨s, rfl⟩ := okWide_string Try.underlying9 (hval 0 9 v0 rfl rfl)
  obtain ⟨fu, hfu⟩ := h0
  obtain ⟨s', hs1, hs2, _⟩ := DataW.trod_string Try.underlying9 hfu
  obtain rfl : s = s' := by simpa [Value.cells] using hs1
  have hd0 : d0 = .lit (.string s.data.toList) := congrArg Prod.fst hs2
  obtain ⟨so1, l1, cs1, rfl, a1, a2, a3⟩ := open_asks (hval 1 39 v1 rfl rfl) h1 (hwt 1 39 d1 rfl rfl)
  obtain ⟨so2, l2, cs2, rfl, b1, b2, b3⟩ := open_asks (hval 2 39 v2 rfl rfl) h2 (hwt 2 39 d2 rfl rfl)
  have hs : s.size ≤ 140737488351232 := by
    have := hwt 0 9 d0 rfl rfl s.size (by rw [hd0]; simp [DataW.weights])
    rw [reach_is] at this
    exact this
  clear hA0 hval0 hsz0
  refine (walk s so1 so2 cs1 cs2 l1 l2 W hs a1 b1 a2 b2 a3 b3).mono fun e W' ⟨he, hb⟩ => ?_
  subst he
  exact ⟨_, rfl, post_law Try.laidOut rfl rfl Try.underlying4 rfl (by intro t ht; rw [Try.params6] at ht; simp at ht; rcases ht with rfl | rfl <;> exact ⟨by kernel_rfl, of_decide_eq_true (by kernel_rfl)⟩) hW' hb⟩

theorem over : Rows.wireStopsRow.holds Try.pinned (OpenSpec.ofChange Rows.wireStopsSpec) :=
  OpenClaim.holds_of_wide 6 Try.f6 rfl rfl rfl rfl rfl rfl rfl ⟨rfl, rfl, rfl, rfl, rfl⟩ rfl rfl rfl rfl rfl (by kernel_rfl) Try.func6 (by kernel_rfl)
    (of_decide_eq_true (by kernel_rfl)) (by unfold Func.isWrapper; first | (rw [if_pos (by decide +kernel)]; kernel_rfl) | (rw [if_neg (by decide +kernel)]; exact ⟨rfl, rfl⟩))
    (fun os started H enc _ => lifted os started H enc)

/-- THE STATEMENT. -/
theorem proved : Rows.WireStopsSaid := over
#print axioms proved
end wireStops
end Go.Proofs.Yteendimoopmakaa
