/- WireNil: a nil writer or reader returns ErrState and zero values. No condition of its own. -/
import Derived.Test.YteendimoopmakaaT35
import Derived.Test.YteendimoopmakaaT10
import Derived.Test.YteendimoopmakaaT17
import Derived.Test.YteendimoopmakaaL1
import Derived.Test.YteendimoopmakaaL2
import Derived.Lib.SmallJoins
namespace Go.Proofs.Yteendimoopmakaa
open Go.RowKit
namespace wireNil
set_option maxRecDepth 100000 in
set_option maxHeartbeats 3200000 in
theorem walk (kind size n : Int) (s : ByteArray) (so : Option Addr) (ls cs : Nat) (L : List Bool) (ak an : Int) (w : World) (hx : (⟨kind, size, n, s, .slice so ls cs, L⟩ : It).ok w w.heap.size) :
    Calls Try.prog 9 #[.agg #[.int .i64 kind, .int .i64 size, .int .i64 n, .string s, .slice so ls cs], .agg #[.int .i64 ak, .int .i64 an]] w fun e w' => e = .returned (.bool true) ∧ Below w.heap.size w w' := by
  have hbx : Below w.heap.size w ((w.alloc (.cells #[.int .i64 kind, .int .i64 size, .int .i64 n, .string s, .slice so ls cs] 35)).alloc (.cells #[.int .i64 ak, .int .i64 an] 45)) := ((Below.refl _ _).alloc (Nat.le_refl _) _).alloc (by simp) _
  have hbox : Blk ((w.alloc (.cells #[.int .i64 kind, .int .i64 size, .int .i64 n, .string s, .slice so ls cs] 35)).alloc (.cells #[.int .i64 ak, .int .i64 an] 45)) w.heap.size 35 [.int .i64 kind, .int .i64 size, .int .i64 n, .string s, .slice so ls cs] := (Blk.new w 35 [_, _, _, _, _]).alloc _
  have hask : Blk ((w.alloc (.cells #[.int .i64 kind, .int .i64 size, .int .i64 n, .string s, .slice so ls cs] 35)).alloc (.cells #[.int .i64 ak, .int .i64 an] 45)) (w.heap.size + 1) 45 [.int .i64 ak, .int .i64 an] := by
    have := Blk.new (w.alloc (.cells #[.int .i64 kind, .int .i64 size, .int .i64 n, .string s, .slice so ls cs] 35)) 45 [.int .i64 ak, .int .i64 an]
    rwa [show (w.alloc (.cells #[.int .i64 kind, .int .i64 size, .int .i64 n, .string s, .slice so ls cs] 35)).heap.size = w.heap.size + 1 by simp] at this
  have HX := Lib.hid hx
  have HBX := Lib.hid hbx
  have HBOX := Lib.hid hbox
  have HASK := Lib.hid hask
  clear hx hbx hbox hask
  go_enter Try.func9, Try.ntmps9
  go_wp2_with fail
  refine (awake_any _).mono ?_
  rintro e w0 ⟨rfl, hb0⟩
  have hbo := Blk.below HBOX.out hb0 (by simp only [World.size_alloc]; omega)
  have hba := Blk.below HASK.out hb0 (by simp only [World.size_alloc]; omega)
  have hb00 : Below w.heap.size w w0 := HBX.out.trans (hb0.mono (by simp only [World.size_alloc]; omega))
  have hs0 : w.heap.size + 2 ≤ w0.heap.size := by have := hb0.size; simp only [World.size_alloc] at this; omega
  clear hb0
  have c0 : w0.cell? ⟨w.heap.size, 0, none⟩ = some (.int .i64 kind) := hbo.cell 0
  have c1 : w0.cell? ⟨w.heap.size, 1, none⟩ = some (.int .i64 size) := hbo.cell 1
  have c2 : w0.cell? ⟨w.heap.size, 2, none⟩ = some (.int .i64 n) := hbo.cell 2
  have c3 : w0.cell? ⟨w.heap.size, 3, none⟩ = some (.string s) := hbo.cell 3
  have c4 : w0.cell? ⟨w.heap.size, 4, none⟩ = some (.slice so ls cs) := hbo.cell 4
  go_wp2_with fail
  have hbW : Below w0.heap.size w0 (w0.alloc (.cells #[.int .i64 kind, .int .i64 size, .int .i64 n, .string s, .slice so ls cs] 35)) := (Below.refl _ _).alloc (Nat.le_refl _) _
  have hN := Blk.new w0 35 [.int .i64 kind, .int .i64 size, .int .i64 n, .string s, .slice so ls cs]
  have hit : Items (w0.alloc (.cells #[.int .i64 kind, .int .i64 size, .int .i64 n, .string s, .slice so ls cs] 35)) (w0.heap.size + 1) (.slice (some ⟨w0.heap.size, 0, none⟩) 1 1) [⟨kind, size, n, s, .slice so ls cs, L⟩] := by
    refine .inr ⟨w0.heap.size, 0, 1, rfl, by omega, by simp, by omega, fun i hi => ?_⟩
    obtain rfl : i = 0 := by simpa using hi
    refine ⟨⟨hN.cell 0, hN.cell 1, hN.cell 2, hN.cell 3, hN.cell 4⟩, ?_⟩
    have h1 : (⟨kind, size, n, s, .slice so ls cs, L⟩ : It).ok (w0.alloc (.cells #[.int .i64 kind, .int .i64 size, .int .i64 n, .string s, .slice so ls cs] 35)) w.heap.size := (HX.out.below hb00).below (hbW.mono (by omega))
    refine ⟨h1.1, ?_⟩
    rcases h1.2 with h | ⟨bb, off, cap, e1, e2, e3, e4, e5⟩
    · exact .inl h
    · exact .inr ⟨bb, off, cap, e1, by omega, e3, e4, e5⟩
  have HF := Lib.hid (few_any hit (by simp))
  cases hf : few [(⟨kind, size, n, s, .slice so ls cs, L⟩ : It)]
  · have HF2 := Lib.hid hf
    clear hf
    refine HF.out.mono ?_
    rintro e w1 ⟨rfl, hb1⟩
    rw [HF2.out]
    go_wp2
    go_ret
    exact ⟨rfl, (hb00.alloc (by omega) _).trans (hb1.mono (by simp only [World.size_alloc]; omega))⟩
  · have HF2 := Lib.hid hf
    clear hf
    refine HF.out.mono ?_
    rintro e w1 ⟨rfl, hb1⟩
    rw [HF2.out]
    have hb2 := (hb00.alloc (by omega) _).trans (hb1.mono (by simp only [World.size_alloc]; omega))
    have hb01 : Below w0.heap.size w0 w1 := hbW.trans (hb1.mono (by simp only [World.size_alloc]; omega))
    have hba1 := Blk.below hba hb01 (by omega)
    have hbo1 := Blk.below hbo hb01 (by omega)
    have hs1 := hb01.size
    have d0 : w1.cell? ⟨w.heap.size + 1, 0, none⟩ = some (.int .i64 ak) := hba1.cell 0
    have d1 : w1.cell? ⟨w.heap.size + 1, 1, none⟩ = some (.int .i64 an) := hba1.cell 1
    clear c0 c1 c2 c3 c4 hit hN hb1 hba
    go_wp2_with fail
    refine (rnil_any ak an _).mono ?_
    unfold zeroItem
    rintro e w2 ⟨rfl, hb12⟩
    have hbo2 := Blk.below hbo1 hb12 (by omega)
    have hs2 := hb12.size
    have hz : w.heap.size < w2.heap.size := by omega
    have c0 : w2.cell? ⟨w.heap.size, 0, none⟩ = some (.int .i64 kind) := hbo2.cell 0
    have c1 : w2.cell? ⟨w.heap.size, 1, none⟩ = some (.int .i64 size) := hbo2.cell 1
    have c2 : w2.cell? ⟨w.heap.size, 2, none⟩ = some (.int .i64 n) := hbo2.cell 2
    have c3 : w2.cell? ⟨w.heap.size, 3, none⟩ = some (.string s) := hbo2.cell 3
    have c4 : w2.cell? ⟨w.heap.size, 4, none⟩ = some (.slice so ls cs) := hbo2.cell 4
    have HB2 := Lib.hid (hb2.trans (hb12.mono hb2.size))
    have hz35 := Blk.new w2 35 zcells
    clear d0 d1
    go_wp2_with fail
    refine (wnil_any kind size n s so ls cs _).mono ?_
    rintro e w3 ⟨rfl, hb3⟩
    have hA := Blk.below hz35 hb3 (by simp)
    have HB3 := Lib.hid ((HB2.out.alloc HB2.out.size _).trans (hb3.mono (by have := HB2.out.size; simp only [World.size_alloc]; omega)))
    have f0 : w3.cell? ⟨w2.heap.size, 0, none⟩ = some (.int .i64 0) := hA.cell 0
    have f1 : w3.cell? ⟨w2.heap.size, 1, none⟩ = some (.int .i64 0) := hA.cell 1
    have f2 : w3.cell? ⟨w2.heap.size, 2, none⟩ = some (.int .i64 0) := hA.cell 2
    have f3 : w3.cell? ⟨w2.heap.size, 3, none⟩ = some (.string ⟨#[]⟩) := hA.cell 3
    have f4 : w3.cell? ⟨w2.heap.size, 4, none⟩ = some (.slice none 0 0) := hA.cell 4
    go_wp2_with fail
    refine (text_nil _).mono ?_
    rintro e w4 ⟨rfl, rfl⟩
    go_wp2_with fail
    refine (len_nil _).mono ?_
    rintro e w4 ⟨rfl, rfl⟩
    go_wp2_with fail
    refine (same_zero _).mono ?_
    rintro e w5 ⟨rfl, hb5⟩
    go_wp2_with fail
    refine (End_rnil _).mono ?_
    rintro e w6 ⟨rfl, hb6⟩
    go_wp2_with fail
    refine (Err_rnil _).mono ?_
    rintro e w7 ⟨rfl, rfl⟩
    go_wp2_with fail
    refine (At_rnil _).mono ?_
    rintro e w7 ⟨rfl, rfl⟩
    go_wp2_with fail
    refine (Left_rnil _).mono ?_
    rintro e w7 ⟨rfl, rfl⟩
    go_wp2
    go_ret
    exact ⟨rfl, (HB3.out.trans (hb5.mono HB3.out.size)).trans (hb6.mono (HB3.out.trans (hb5.mono HB3.out.size)).size)⟩
open Go.ChangeShapes Go.WideShapes Go.ChangeAt Go.Deep Go.Joins
set_option maxRecDepth 100000 in
/-- An item that is handed over by value. -/
theorem open_arg {H : Type} {enc : TypeId × Value → H} {W : World} {b0 : Nat} {v : Value} {d : DataW H} {p : List MemPlace} (hok : Value.okWide Try.prog W .any b0 35 v) (h : DataW.Trod enc Try.prog W 0 (fun _ => true) true 35 v d p) (hw : ∀ m ∈ d.weights Try.prog 35, m ≤ reachBytes) :
    ∃ x : It, v = x.val ∧ x.ok W W.heap.size := by
  obtain ⟨⟨l⟩, rfl, hsz⟩ := okWide_struct Try.underlying35 hok
  match l, hsz.trans (show Try.prog.cellsOf 35 = 5 by kernel_rfl) with
  | [c0, c1, c2, c3, c4], _ =>
    obtain ⟨fuel, hf⟩ := h
    obtain ⟨ys, n', _, hy, _, hyl, hg⟩ := DataW.trod_struct Try.underlying35 hf
    match ys, hyl with
    | [y0, y1, y2, y3, y4], _ =>
      have e3 : Try.prog.cellsOf 3 = 1 := by kernel_rfl
      have e2 : Try.prog.cellsOf 2 = 1 := by kernel_rfl
      have e9 : Try.prog.cellsOf 9 = 1 := by kernel_rfl
      have e33 : Try.prog.cellsOf 33 = 1 := by kernel_rfl
      have g0 : DataW.trod enc Try.prog W 0 (fun _ => true) true n' 3 [c0] = some y0 := by simpa [Value.cells, e3] using hg 0 _ rfl
      have g1 : DataW.trod enc Try.prog W 0 (fun _ => true) true n' 3 [c1] = some y1 := by simpa [Value.cells, e3] using hg 1 _ rfl
      have g2 : DataW.trod enc Try.prog W 0 (fun _ => true) true n' 2 [c2] = some y2 := by simpa [Value.cells, e2] using hg 2 _ rfl
      have g3 : DataW.trod enc Try.prog W 0 (fun _ => true) true n' 9 [c3] = some y3 := by simpa [Value.cells, e9] using hg 3 _ rfl
      have g4 : DataW.trod enc Try.prog W 0 (fun _ => true) true n' 33 [c4] = some y4 := by simpa [Value.cells, e33] using hg 4 _ rfl
      obtain ⟨a0, ha0, _, _⟩ := DataW.trod_int Try.underlying3 g0
      obtain ⟨a1, ha1, _, _⟩ := DataW.trod_int Try.underlying3 g1
      obtain ⟨a2, ha2, _, hr2⟩ := DataW.trod_int Try.underlying2 g2
      obtain ⟨a3, ha3, _, _⟩ := DataW.trod_string Try.underlying9 g3
      have hd := congrArg Prod.fst hy
      dsimp only at hd
      obtain ⟨L, hL⟩ := open_bools g4 (fun m hm => hw m (by rw [hd]; simp only [DataW.weights, Try.underlying35]; exact DataW.weights_mem_each (j := 4) (t := 33) rfl rfl m hm))
      obtain rfl : c0 = .int .i64 a0 := by simpa using ha0
      obtain rfl : c1 = .int .i64 a1 := by simpa using ha1
      obtain rfl : c2 = .int .i64 a2 := by simpa using ha2
      obtain rfl : c3 = .string a3 := by simpa using ha3
      exact ⟨⟨a0, a1, a2, a3, c4, L⟩, rfl, i64_rng' hr2, hL⟩
set_option maxRecDepth 100000 in
theorem lifted (os : Os) (started : os.Started) (H : Type) (enc : TypeId × Value → H) :
    ReturnsInHanded {} Try.checked os 9 .any (Rows.wireNilSpec.pre6 enc Try.prog Try.f9 Rows.wireNilRow.domain false) (Rows.wireNilSpec.post enc Try.prog Try.f9 false true false false) := by
  refine returnsInHanded_of_change_sized (C := Try.checked) Try.own started (by kernel_rfl) Try.func9
    (ChangeSpec.witness6 (enc := enc) (C := Try.checked) false ⟨#[], #[.agg #[.int .i64 0, .int .i64 0, .int .i64 0, .string ⟨#[]⟩, .slice none 0 0], .agg #[.int .i64 0, .int .i64 0]], []⟩ 8 (by kernel_rfl) (by kernel_rfl) (by kernel_rfl) (by kernel_rfl)) ?_
  intro W base args ds gs before hval0 hW _ hsz0 _
  have hval : ∀ (j : Nat) t v, Try.f9.params[j]? = some t → args[j]? = some v → Value.okWide Try.prog W .any base t v := hval0
  have hW' := hW
  obtain ⟨p, q, hA0, hV, rfl, _, _⟩ := hW
  have hA : DataW.TrodAll enc Try.prog W 0 (fun _ => true) true Try.f9.params.toList args.toList ds p := hA0
  have hsz : (DataW.weightsEach Try.prog (Try.f9.params.toList ++ Rows.wireNilSpec.plain.varTypes Try.prog) (ds ++ gs)).all (· ≤ reachBytes) = true := hsz0
  rw [Try.params9] at hA hval hsz
  obtain ⟨v0, vs0, d0, ds0, p0, q0, hargs, rfl, rfl, h0, r0⟩ := trodAll_cons hA
  obtain ⟨v1, vs1, d1, ds1, p1, q1, rfl, rfl, rfl, h1, r1⟩ := trodAll_cons r0
  obtain ⟨rfl, rfl, rfl⟩ := trodAll_nil r1
  obtain rfl : args = #[v0, v1] := by cases args; simp_all
  have hwt : ∀ (j : Nat) (t : TypeId) (d : DataW H), [35, 45][j]? = some t → [d0, d1][j]? = some d → ∀ m ∈ d.weights Try.prog t, m ≤ reachBytes := by
    intro j t d ht hd m hm
    have hj : j < 2 := (List.getElem?_eq_some_iff.1 ht).1
    have := List.all_eq_true.1 hsz m (DataW.weights_mem_each (j := j) (t := t) (d := d) (by rcases j with _ | _ | j <;> first | exact ht | omega) (by rcases j with _ | _ | j <;> first | exact hd | omega) m hm)
    simpa using this
  obtain ⟨⟨a0, a1, a2, a3, sl, L⟩, rfl, hx⟩ := open_arg (hval 0 35 v0 rfl rfl) h0 (hwt 0 35 d0 rfl rfl)
  obtain ⟨e0, e1, z0, z1, n1, rfl, _, _, k0, k1⟩ := open_agg2 Try.underlying45 (by kernel_rfl) (by kernel_rfl) (hval 1 45 v1 rfl rfl) h1
  obtain ⟨b0, hb0, _, _⟩ := DataW.trod_int Try.underlying3 k0
  obtain ⟨b1, hb1, _, _⟩ := DataW.trod_int Try.underlying3 k1
  obtain rfl : e0 = .int .i64 b0 := by simpa using hb0
  obtain rfl : e1 = .int .i64 b1 := by simpa using hb1
  obtain ⟨so, cs, hsl⟩ := ok_len hx
  dsimp only at hsl
  subst hsl
  clear hA0 hval0 hsz0
  refine (walk a0 a1 a2 a3 so L.length cs L b0 b1 W hx).mono fun e W' ⟨he, hb⟩ => ?_
  subst he
  exact ⟨_, rfl, post_law Try.laidOut rfl rfl Try.underlying4 rfl (by intro t ht; rw [Try.params9] at ht; simp at ht; rcases ht with rfl | rfl <;> exact ⟨by kernel_rfl, of_decide_eq_true (by kernel_rfl)⟩) hW' hb⟩

theorem over : Rows.wireNilRow.holds Try.pinned (OpenSpec.ofChange Rows.wireNilSpec) :=
  OpenClaim.holds_of_wide 9 Try.f9 rfl rfl rfl rfl rfl rfl rfl ⟨rfl, rfl, rfl, rfl, rfl⟩ rfl rfl rfl rfl rfl (by kernel_rfl) Try.func9 (by kernel_rfl)
    (of_decide_eq_true (by kernel_rfl)) (by unfold Func.isWrapper; first | (rw [if_pos (by decide +kernel)]; kernel_rfl) | (rw [if_neg (by decide +kernel)]; exact ⟨rfl, rfl⟩))
    (fun os started H enc _ => lifted os started H enc)

/-- THE STATEMENT. -/
theorem proved : Rows.WireNilSaid := over
#print axioms proved
end wireNil
end Go.Proofs.Yteendimoopmakaa
