/- WireWrites: every call of a writer returns what the reference returns, and the bytes are the encodings, one after the other. No condition of its own. -/
import Derived.Test.YteendimoopmakaaT17
import Derived.Test.YteendimoopmakaaT16
import Derived.Test.YteendimoopmakaaT10
import Derived.Test.YteendimoopmakaaL1
import Derived.Test.YteendimoopmakaaL2
namespace Go.Proofs.Yteendimoopmakaa.wireWrites
open Go.ChangeShapes Go.WideShapes Go.ChangeAt Go.RowKit

def wrAll (l : List It) (k : Nat) : List UInt8 := (l.take k).flatMap wrB
theorem wrAll_succ (l : List It) (k : Nat) (hk : k < l.length) : wrAll l (k + 1) = wrAll l k ++ wrB l[k]! := by
  unfold wrAll
  rw [List.take_succ_eq_append_getElem hk, List.flatMap_append, getElem!_pos l k hk]
  simp
theorem lit_len {n size : Int} {E : Int} (h : E = 0 → sized size = true) : (if E = 0 then litB n size.toNat else []).length ≤ 8 := by
  split
  · rename_i hE
    rw [litB_length]
    have := sized_iff.1 (h hE)
    omega
  · simp
theorem wrB_len (x : It) (h : x.small) : (wrB x).length ≤ 3009 := by
  have hn : ∀ n, (numB n).length ≤ 9 := fun n => by rw [numB_length]; rcases sizeN_cases n with h | h | h | h <;> omega
  have hs := size_list x.s
  obtain ⟨h1, h2⟩ := h
  unfold wrB
  split
  · refine Nat.le_trans (lit_len fun hE => ?_) (by omega)
    cases hz : sized x.size
    · rw [litE_bad hz] at hE; cases hE
    · rfl
  split
  · refine Nat.le_trans (lit_len fun hE => ?_) (by omega)
    cases hz : sized x.size
    · rw [sgnE_bad hz] at hE; cases hE
    · rfl
  split
  · have := hn x.n; omega
  split
  · have := hn x.s.size; rw [List.length_append]; omega
  split
  · have := hn x.L.length
    unfold bitB
    rw [List.length_append, List.length_map, upto_length]; omega
  · omega
theorem wrAll_len (l : List It) (hs : ∀ i, i < l.length → (l[i]!).small) : ∀ k, k ≤ l.length → (wrAll l k).length ≤ k * 3009 := by
  intro k
  induction k with
  | zero => intro _; simp [wrAll]
  | succ k ih =>
    intro hk
    rw [wrAll_succ l k hk, List.length_append]
    have := ih (by omega)
    have := wrB_len _ (hs k hk)
    omega
theorem wrAll_all (l : List It) (k : Nat) (h : k = l.length) : wrAll l k = wrAll l l.length := by rw [h]

set_option maxRecDepth 100000 in
set_option maxHeartbeats 3200000 in
theorem walk_some (ib io cap : Nat) (l : List It) (w : World) (hib : ib < w.heap.size) (hcap : l.length ≤ cap) (hcap2 : cap ≤ 140737488351232) (hc : ∀ i, i < l.length → ItemAt w ib (io + i * 5) l[i]! ∧ (l[i]!).ok w w.heap.size) :
    Calls Try.prog 4 #[.slice (some ⟨ib, io, none⟩) l.length cap] w fun e w' => e = .returned (.bool true) ∧ Below w.heap.size w w' := by
  have HI := Lib.hid (show Items w w.heap.size (.slice (some ⟨ib, io, none⟩) l.length cap) l from .inr ⟨ib, io, cap, rfl, hib, hcap, hcap2, hc⟩)
  have HC := Lib.hid hc
  clear hc
  go_enter Try.func4, Try.ntmps4
  go_wp2_with fail
  refine (awake_any _).mono ?_
  rintro e w0 ⟨rfl, hb0⟩
  have hs0 := hb0.size
  go_wp2_with fail
  refine (few_any (HI.out.below hb0) hs0).mono ?_
  rintro e w1 ⟨rfl, hb1⟩
  have hbw1 := hb0.trans (hb1.mono hs0)
  have hs1 := hbw1.size
  clear hb0 hb1
  cases hf : few l
  · go_wp2
    go_ret
    exact ⟨rfl, hbw1⟩
  · obtain ⟨hl30, hsm⟩ := few_true hf
    have HSM := Lib.hid hsm
    have HLEN := Lib.hid (wrAll_len l hsm)
    clear hsm hf
    go_wp2_with fail
    refine (newWriter_any _).mono ?_
    rintro e w2 ⟨rfl, hw2⟩
    have hW2 := wr_new0 w1
    rw [hw2] at hW2
    have hs2 : w1.heap.size < w2.heap.size := by rw [← hw2]; simp
    have hb2 : Below w1.heap.size w1 w2 := by rw [← hw2]; exact (Below.refl _ _).alloc (Nat.le_refl _) _
    clear hw2
    go_wp2_with fail
    refine (text_any w1.heap.size w1.heap.size _ _ w2 hW2).mono ?_
    rintro e w3 ⟨rfl, rfl⟩
    go_wp2_with fail
    refine (len_any w1.heap.size w1.heap.size _ _ w2 hW2).mono ?_
    rintro e w3 ⟨rfl, rfl⟩
    go_wp2_with fail
    go_loopw [4, 30] (fun t i wr => ∃ k : Nat, k ≤ l.length ∧ i = .int .i64 k ∧ t = .string ⟨(wrAll l k).toArray⟩ ∧ Wrote w2 wr w1.heap.size w1.heap.size (.slice none 0 0) (wrAll l k)) (fun _ i _ => l.length - (intOf i).toNat)
    case atStart => exact ⟨0, by omega, rfl, rfl, Wrote.same hW2 (Below.refl _ _)⟩
    case round =>
      obtain ⟨k, hk, rfl, rfl, v3, hW3, hF3, hA3⟩ := hrel
      have hb3 : Below w1.heap.size w2 wr := hF3.toBelow (by omega) (Nat.le_refl _) (fun k e => by cases e)
      have hbr : Below w.heap.size w wr := hbw1.trans ((hb2.trans hb3).mono hs1)
      have hsr := hbr.size
      have hlen3 := HLEN.out k hk
      by_cases hlt : k < l.length
      · obtain ⟨hci, hok⟩ := HC.out k hlt
        have hci' := hci.below hbr hib
        have hok' := hok.below hbr
        have hsmk := HSM.out k hlt
        obtain ⟨c0, c1, c2, c3, c4⟩ := hci'
        obtain ⟨so, cs, hsl⟩ := ok_len hok
        rw [hsl] at c4
        obtain ⟨x, hx⟩ : ∃ x, x = l[k]! := ⟨_, rfl⟩
        rw [← hx] at c0 c1 c2 c3 c4 hok' hsmk hsl
        have HX := Lib.hid hx
        have HOK := Lib.hid hok'
        have HSL := Lib.hid hsl
        clear hci hok hx hok' hsl
        have hv : x.val = .agg #[.int .i64 x.kind, .int .i64 x.size, .int .i64 x.n, .string x.s, .slice so x.L.length cs] := by unfold It.val; rw [HSL.out]
        have hbl := wrB_len x hsmk
        have HR := Lib.hid (fun (W : World) (h1 : x.ok W w.heap.size) (h2 : w.heap.size ≤ W.heap.size) => (by have := refer_any x h1 hsmk h2; rwa [hv] at this : Calls Try.prog 18 #[.agg #[.int .i64 x.kind, .int .i64 x.size, .int .i64 x.n, .string x.s, .slice so x.L.length cs]] W (RefPost W (wrB x) (wrE x))))
        have HWR := Lib.hid (fun (W : World) (h1 : x.ok W w.heap.size) (h2 : w1.heap.size ≤ W.heap.size) (h3 : WrAt W w1.heap.size w1.heap.size v3 (wrAll l k)) => (by have := write_any x h1 hsmk hs1 (Nat.le_refl _) (by omega) h3 h2; rwa [hv] at this : Calls Try.prog 19 #[.pointer (some ⟨w1.heap.size, 0, none⟩), .agg #[.int .i64 x.kind, .int .i64 x.size, .int .i64 x.n, .string x.s, .slice so x.L.length cs]] W (WritePost W w1.heap.size w1.heap.size v3 (wrAll l k) (wrE x) (wrB x))))
        have HNX := Lib.hid (show wrAll l (k + 1) = wrAll l k ++ wrB x by rw [wrAll_succ l k hlt, HX.out])
        clear hv hsmk
        generalize wrAll l k = A at HWR HNX hW3 hlen3 ⊢
        generalize wrB x = Bx at HR HWR HNX hbl ⊢
        generalize wrE x = Ex at HR HWR ⊢
        have hx0 : Blk (wr.alloc (.cells #[.int .i64 x.kind, .int .i64 x.size, .int .i64 x.n, .string x.s, .slice so x.L.length cs] 35)) wr.heap.size 35 [.int .i64 x.kind, .int .i64 x.size, .int .i64 x.n, .string x.s, .slice so x.L.length cs] := Blk.new wr 35 _
        have hba : Below wr.heap.size wr (wr.alloc (.cells #[.int .i64 x.kind, .int .i64 x.size, .int .i64 x.n, .string x.s, .slice so x.L.length cs] 35)) := (Below.refl _ _).alloc (Nat.le_refl _) _
        go_wp2_with fail
        refine (HR.out _ (HOK.out.below (hba.mono hsr)) (by simp; omega)).mono ?_
        rintro e w4 ⟨rfl, hb4⟩
        have hb34 : Below wr.heap.size wr w4 := hba.trans (hb4.mono (by simp))
        have hs34 := hb34.size
        have hx4 := hx0.below hb4 (by simp)
        have hs4 : wr.heap.size < w4.heap.size := hx4.lt
        have d0 : w4.cell? ⟨wr.heap.size, 0, none⟩ = some (.int .i64 x.kind) := hx4.cell 0
        have d1 : w4.cell? ⟨wr.heap.size, 1, none⟩ = some (.int .i64 x.size) := hx4.cell 1
        have d2 : w4.cell? ⟨wr.heap.size, 2, none⟩ = some (.int .i64 x.n) := hx4.cell 2
        have d3 : w4.cell? ⟨wr.heap.size, 3, none⟩ = some (.string x.s) := hx4.cell 3
        have d4 : w4.cell? ⟨wr.heap.size, 4, none⟩ = some (.slice so x.L.length cs) := hx4.cell 4
        have hsW := hF3.size
        clear hx0 hba hb4 hx4 c0 c1 c2 c3 c4
        go_wp2_with fail
        refine (HWR.out _ (HOK.out.below (hb34.mono hsr)) (by omega) (hW3.below hb34)).mono ?_
        rintro e w5 ⟨rfl, hq⟩
        have HQ := Lib.hid (Wrote.trans hF3 hA3 (Wrote.below hb34 hq))
        obtain ⟨v5, hW5, hF5, _⟩ := hq
        clear d0 d1 d2 d3 d4 hb34 hF5 hA3 hW3 HR HWR
        have HSA := Lib.hid (str_append A ⟨Bx.toArray⟩)
        go_wp2_with fail
        refine (len_any w1.heap.size w1.heap.size v5 _ w5 hW5).mono ?_
        rintro e w6 ⟨rfl, rfl⟩
        rw [List.length_append]
        clear hW5
        go_wp2
        go_roundw
        case rel => exact ⟨k + 1, by omega, by go_num, by rw [HNX.out]; exact congrArg Value.string HSA.out, by rw [HNX.out]; exact HQ.out⟩
        case measure => simp [intOf]; omega
      · have HE := Lib.hid (show k = l.length by omega)
        go_wp2_with fail
        refine (text_any w1.heap.size w1.heap.size v3 _ wr hW3).mono ?_
        rintro e w4 ⟨rfl, rfl⟩
        go_wp2
        go_ret
        exact ⟨by simp, hbr⟩
set_option maxRecDepth 100000 in
set_option maxHeartbeats 1600000 in
theorem walk_none (ao : Option Addr) (cp : Nat) (w : World) : Calls Try.prog 4 #[.slice ao 0 cp] w fun e w' => e = .returned (.bool true) ∧ Below w.heap.size w w' := by
  have HI := Lib.hid (show Items w w.heap.size (.slice ao 0 cp) [] from .inl ⟨⟨_, _, rfl⟩, rfl⟩)
  have hfew : few [] = true := rfl
  have HF := Lib.hid hfew
  clear hfew
  go_enter Try.func4, Try.ntmps4
  go_wp2_with fail
  refine (awake_any _).mono ?_
  rintro e w0 ⟨rfl, hb0⟩
  have hs0 := hb0.size
  go_wp2_with fail
  refine (few_any (HI.out.below hb0) hs0).mono ?_
  rintro e w1 ⟨rfl, hb1⟩
  rw [HF.out]
  have hbw1 := hb0.trans (hb1.mono hs0)
  have hs1 := hbw1.size
  clear hb0 hb1
  go_wp2_with fail
  refine (newWriter_any _).mono ?_
  rintro e w2 ⟨rfl, hw2⟩
  have hW2 := wr_new0 w1
  rw [hw2] at hW2
  have hb2 : Below w.heap.size w w2 := by rw [← hw2]; exact hbw1.alloc hs1 _
  clear hw2
  go_wp2_with fail
  refine (text_any w1.heap.size w1.heap.size _ _ w2 hW2).mono ?_
  rintro e w3 ⟨rfl, rfl⟩
  go_wp2_with fail
  refine (len_any w1.heap.size w1.heap.size _ _ w2 hW2).mono ?_
  rintro e w3 ⟨rfl, rfl⟩
  go_wp2_with fail
  go_loopw [4, 30] (fun t i wr => i = .int .i64 0 ∧ t = .string ⟨#[]⟩ ∧ w2 = wr) (fun _ _ _ => 0)
  case atStart => exact ⟨rfl, rfl, rfl⟩
  case round =>
    obtain ⟨rfl, rfl, rfl⟩ := hrel
    go_wp2_with fail
    refine (text_any w1.heap.size w1.heap.size _ _ w2 hW2).mono ?_
    rintro e w4 ⟨rfl, rfl⟩
    go_wp2
    go_ret
    exact ⟨rfl, hb2⟩
theorem walk {sl : Value} {l : List It} {w : World} (h : Items w w.heap.size sl l) : Calls Try.prog 4 #[sl] w fun e w' => e = .returned (.bool true) ∧ Below w.heap.size w w' := by
  rcases h with ⟨⟨ao, cp, rfl⟩, rfl⟩ | ⟨ib, io, cap, rfl, h2, h3, h4, h5⟩
  · exact walk_none ao cp w
  · exact walk_some ib io cap l w h2 h3 h4 h5

set_option maxRecDepth 100000 in
theorem lifted (os : Os) (started : os.Started) (H : Type) (enc : TypeId × Value → H) :
    ReturnsInHanded {} Try.checked os 4 .any (Rows.wireWritesSpec.pre6 enc Try.prog Try.f4 Rows.wireWritesRow.domain false) (Rows.wireWritesSpec.post enc Try.prog Try.f4 false true false false) := by
  refine returnsInHanded_of_change_sized (C := Try.checked) Try.own started (by kernel_rfl) Try.func4
    (ChangeSpec.witness6 (enc := enc) (C := Try.checked) false ⟨#[], #[.slice none 0 0], []⟩ 8 (by kernel_rfl) (by kernel_rfl) (by kernel_rfl) (by kernel_rfl)) ?_
  intro W base args ds gs before hval0 hW _ hsz0 _
  have hval : ∀ (j : Nat) t v, Try.f4.params[j]? = some t → args[j]? = some v → Value.okWide Try.prog W .any base t v := hval0
  have hW' := hW
  obtain ⟨p, q, hA0, hV, rfl, _, _⟩ := hW
  have hA : DataW.TrodAll enc Try.prog W 0 (fun _ => true) true Try.f4.params.toList args.toList ds p := hA0
  have hsz : (DataW.weightsEach Try.prog (Try.f4.params.toList ++ Rows.wireWritesSpec.plain.varTypes Try.prog) (ds ++ gs)).all (· ≤ reachBytes) = true := hsz0
  rw [Try.params4] at hA hval hsz
  obtain ⟨v0, vs0, d0, ds0, p0, q0, hargs, rfl, rfl, h0, r0⟩ := trodAll_cons hA
  obtain ⟨rfl, rfl, rfl⟩ := trodAll_nil r0
  obtain rfl : args = #[v0] := by cases args; simp_all
  obtain ⟨l, hl⟩ := open_items (hval 0 30 v0 rfl rfl) h0 (fun m hm => by
    have := List.all_eq_true.1 hsz m (DataW.weights_mem_each (j := 0) (t := 30) (d := d0) rfl rfl m hm)
    simpa using this)
  clear hA0 hval0 hsz0
  refine (walk hl).mono fun e W' ⟨he, hb⟩ => ?_
  subst he
  exact ⟨_, rfl, post_law Try.laidOut rfl rfl Try.underlying4 rfl (by intro t ht; rw [Try.params4] at ht; simp at ht; rcases ht with rfl; exact ⟨by kernel_rfl, of_decide_eq_true (by kernel_rfl)⟩) hW' hb⟩

theorem over : Rows.wireWritesRow.holds Try.pinned (OpenSpec.ofChange Rows.wireWritesSpec) :=
  OpenClaim.holds_of_wide 4 Try.f4 rfl rfl rfl rfl rfl rfl rfl ⟨rfl, rfl, rfl, rfl, rfl⟩ rfl rfl rfl rfl rfl (by kernel_rfl) Try.func4 (by kernel_rfl)
    (of_decide_eq_true (by kernel_rfl)) (by unfold Func.isWrapper; first | (rw [if_pos (by decide +kernel)]; kernel_rfl) | (rw [if_neg (by decide +kernel)]; exact ⟨rfl, rfl⟩))
    (fun os started H enc _ => lifted os started H enc)

/-- THE STATEMENT. -/
theorem proved : Rows.WireWritesSaid := over
#print axioms proved
end Go.Proofs.Yteendimoopmakaa.wireWrites
