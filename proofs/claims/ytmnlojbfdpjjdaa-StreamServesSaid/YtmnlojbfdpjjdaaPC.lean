/- StreamServes: the law's walk. -/
import Derived.Test.YtmnlojbfdpjjdaaPB
import Derived.Test.YtmnlojbfdpjjdaaH1
import Derived.Laws.StructEq
namespace Go.Proofs.Ytmnlojbfdpjjdaa
open Go.RowKit
attribute [local go_sem] Oper.semAt_some
attribute [local go_sem ↓] run_appSem
theorem look_gone {w : World} {b n m : Nat} {q : Int → Option Bool} (h : MapIs intK boolE w b n q m) (t : Int) (ht : (Lit.int .i64 t).wf = true) (hf : q t = none) :
    (Instr.lookup 71 (.map (some b)) (.int .i64 t) false).run Try.prog w = .ok (.bool false) w := by
  have h1 := h.look1 (x := t) Try.underlying71 (zero4 _) ht
  rw [hf] at h1
  exact h1
theorem look_op {w : World} {b n m : Nat} {f : Int → Option Op} (h : Asked w b n f m) (t : Int) (ht : (Lit.int .i64 t).wf = true) (k' f' c' : Int) (d' : ByteArray) (hf : f t = some ⟨k', f', c', d'⟩) :
    (Instr.lookup 39 (.map (some b)) (.int .i64 t) false).run Try.prog w = .ok (.agg #[.int .i64 k', .int .i64 f', .int .i64 c', .string d']) w := by
  have h1 := MapIs.look1 h (x := t) Try.underlying39 (zero42 _) ht
  rw [hf] at h1
  exact h1
theorem held42 : Try.prog.stoodInHeld 42 = false := by kernel_rfl
theorem guard42 : Try.prog.eqGuardType Try.prog.depth 42 = false := by kernel_rfl
set_option maxRecDepth 100000 in
set_option maxHeartbeats 3200000 in
theorem serves_ok (lim : Int) (sv : Value) (l : List Ac) (hf : fewB l = true) (hl1 : 1 ≤ lim) (hl2 : lim ≤ 1048576) (w : World) (hr : Acts w sv l) : Calls Try.prog 6 #[.int .i64 lim, sv] w fun e w' => e = .returned (.bool true) ∧ Below w.heap.size w w' := by
  have CA := Lib.hid (fun W => awake_any W)
  have CF := Lib.hid (fun W (hb : Below w.heap.size w W) => few_any l sv W (hr.below hb))
  rw [hf] at CF
  have CN := Lib.hid (fun W => New_any lim hl1 hl2 W)
  obtain ⟨hlen, hdat⟩ := few_parts hf
  have HDAT := Lib.hid hdat
  have HR := Lib.hid hr
  obtain ⟨aa, ca0, hsv, hca⟩ := hr.form
  have HSV := Lib.hid hsv
  rw [hsv] at CF
  rw [hsv]
  have hmm := @run_makeMap Try.prog
  clear hr hf hdat hsv
  go_enter Try.func6, Try.ntmps6
  go_upto_region 10 with (first
    | (go_at_call 9; refine (CA.out _).mono ?_; rintro e v1 ⟨rfl, hb1⟩; have B1 := Lib.hid hb1; clear hb1)
    | (go_at_call 17; refine (CF.out _ ?_).mono ?_; exact B1.out; rintro e v2 ⟨rfl, hb2⟩; have B2 := Lib.hid (keepBelow B1.out hb2); clear hb2)
    | (go_at_call 12; refine (CN.out _).mono ?_; rintro e v3 ⟨rfl, P3, hb3⟩; have HP3 := Lib.hid P3; have B3 := Lib.hid (keepBelow B2.out hb3); clear hb3 P3))
  obtain ⟨g, hg⟩ : ∃ g, g = v2.heap.size := ⟨_, rfl⟩
  obtain ⟨mb, hmb⟩ : ∃ mb, mb = v3.heap.size := ⟨_, rfl⟩
  obtain ⟨gb, hgb⟩ : ∃ gb, gb = mb + 1 := ⟨_, rfl⟩
  have MM0 : Hid (Ms w mb gb g 0 nilSl (newSt lim) (fun _ => none) 0 (goneF []) 0 (.slice none 0 0) [] ((v3.alloc (.map #[] 0)).alloc (.map #[] 0))) := by
    have hb : Below v3.heap.size v3 ((v3.alloc (.map #[] 0)).alloc (.map #[] 0)) := ((Below.refl _ _).alloc (Nat.le_refl _) _).alloc (by simp) _
    have hgb' : gb = (v3.alloc (.map #[] 0)).heap.size := by rw [hgb, hmb]; simp
    refine Lib.hid ⟨hg ▸ HP3.out.below hb, fun k hk => ?_, keepBelow B3.out hb, ?_, ?_, Row.nil _ _ _, (fun k hk => by cases hk), by rw [hmb]; exact B3.out.size, by rw [hgb, hmb]; have := B3.out.size; omega, by omega⟩
    · rw [hgb, hmb]
      rcases hk with rfl | h | h | h | h
      · rw [hg]
        exact ⟨B2.out.size, by have := HP3.out.blk.lt; omega, by have := HP3.out.blk.lt; omega⟩
      all_goals cases h
    · rw [hmb]; exact (MapIs.made intK opE v3).alloc _
    · rw [goneF_nil, hgb']; exact MapIs.made intK boolE (v3.alloc (.map #[] 0))
  rw [← hg, ← hmb, ← hgb]
  obtain ⟨V0, hV0⟩ : ∃ V0, V0 = (v3.alloc (.map #[] 0)).alloc (.map #[] 0) := ⟨_, rfl⟩
  rw [← hV0] at MM0
  rw [← hV0]
  clear hg hmb hgb hV0
  have HLEN := Lib.hid hlen
  go_wp2_with fail
  go_loopg [9, 44] l.length (fun k av i wr => ∃ (m : Nat) (S : Sl) (st : St) (f : Int → Option Op) (c : Nat) (ca : List Int) (As : List An) (sa : Option Addr) (sc : Nat), m + k = l.length ∧ i = .int .i64 m ∧ av = .slice sa As.length sc ∧ Ms w mb gb g (2 * m) S st f c (goneF ca) ca.length (.slice sa As.length sc) As wr ∧ Sv m As ca f c st)
  case atStart => exact ⟨0, nilSl, newSt lim, _, 0, [], [], none, 0, by omega, rfl, rfl, MM0.out, Sv.new lim⟩
  case round =>
    obtain ⟨m, S, st, f, c, ca, As, sa, sc, hm, rfl, rfl, hM, hV⟩ := hrel
    have HM := Lib.hid hm
    have MM := Lib.hid hM
    have VV := Lib.hid hV
    clear hm hM hV
    by_cases hlt : m < l.length
    · obtain ⟨ab, off, cap, hab, hablt, hacs⟩ : ∃ ab off cap, Value.slice aa l.length ca0 = .slice (some ⟨ab, off, none⟩) l.length cap ∧ ab < w.heap.size ∧ ∀ i, i < l.length → AcAt w ab (off + i * 6) (l.getD i ac0) := by
        rw [← HSV.out]
        rcases HR.out with ⟨h0, _⟩ | ⟨b, off, cap, h1, _, _, h4, h5⟩
        · rw [h0] at hlt; exact absurd hlt (Nat.not_lt_zero _)
        · exact ⟨b, off, cap, h1, h4, h5⟩
      obtain ⟨rfl, rfl⟩ : aa = some ⟨ab, off, none⟩ ∧ ca0 = cap := by
        injection hab with h1 _ h3
        exact ⟨h1, h3⟩
      clear hab
      obtain ⟨x, hx⟩ : ∃ x, x = l.getD m ac0 := ⟨_, rfl⟩
      have hA := (hacs m hlt).below MM.out.low hablt
      rw [← hx] at hA
      obtain ⟨c0, c1, c2, c3, c4, c5⟩ := hA
      have hd : x.op.data.size ≤ 9000 := by rw [hx]; exact HDAT.out _ (getA_mem hlt)
      have CD := Lib.hid (fun W (hb : Below wr.heap.size wr W) => Do_any x hd VV.out.gd (by have := HLEN.out; have := HM.out; omega) g S W (MM.out.pipe.below hb))
      rw [doR_ans VV.out.ans x] at CD
      have VV2 := Lib.hid (VV.out.doR x hd)
      have ASK := Lib.hid (VV.out.asks x)
      have DRP := Lib.hid (VV.out.drops x hd)
      have hablt' : ab < wr.heap.size := Nat.lt_of_lt_of_le hablt MM.out.low.size
      have hAl : As.length ≤ m ∧ c ≤ m := by have h1 := VV.out.len; have h2 := VV.out.c; have h3 := VV.out.gd.t1; omega
      obtain ⟨hAl, hcl⟩ := hAl
      have HAL := Lib.hid hAl
      have HCL := Lib.hid hcl
      obtain ⟨_, _, hsf, hsle, hscap⟩ := MM.out.row.form
      have hsle : As.length ≤ sc := by injection hsf with _ _ h3; rw [h3]; exact hsle
      have hsc2 : sc ≤ maxLen := by injection hsf with _ _ h3; rw [h3]; exact hscap
      unfold maxLen at hsc2
      clear hx hd hsf hscap hAl hcl hacs
      obtain ⟨k, t, ⟨ok, of_, oc, od⟩⟩ := x
      simp only at c0 c1 c2 c3 c4 c5
      unfold acV at CD
      simp only at CD ASK DRP
      generalize doR st ⟨k, t, ⟨ok, of_, oc, od⟩⟩ = r at *
      obtain ⟨st', ⟨num, txt, er, an⟩⟩ := r
      simp only at CD VV2 ASK DRP
      go_upto_region 14 with (go_at_call 18; refine (CD.out _ ?_).mono ?_; exact (Below.refl _ _).alloc (Nat.le_refl _) _; rintro e v4 ⟨rv, S4, rfl, R4, A4, P4, T4⟩; obtain ⟨ra, rc, rfl, _⟩ := R4.form; have M4 := Lib.hid ((MM.out.below ((Below.refl _ _).alloc (Nat.le_refl _) _)).turn T4 P4); have K4 := Lib.hid (T4.blk (Blk.new wr 44 [.int .i64 k, .int .i64 t, .int .i64 ok, .int .i64 of_, .int .i64 oc, .string od]) (fun hh => by have := MM.out.pipe.lt hh; omega)); clear P4 T4 R4 A4; have q0 : v4.cell? ⟨wr.heap.size, 0, none⟩ = some (.int .i64 k) := K4.out.cell 0; have q1 : v4.cell? ⟨wr.heap.size, 1, none⟩ = some (.int .i64 t) := K4.out.cell 1; have q2 : v4.cell? ⟨wr.heap.size, 2, none⟩ = some (.int .i64 ok) := K4.out.cell 2; have q3 : v4.cell? ⟨wr.heap.size, 3, none⟩ = some (.int .i64 of_) := K4.out.cell 3; have q4 : v4.cell? ⟨wr.heap.size, 4, none⟩ = some (.int .i64 oc) := K4.out.cell 4; have q5 : v4.cell? ⟨wr.heap.size, 5, none⟩ = some (.string od) := K4.out.cell 5)
      obtain ⟨ab2, hab2⟩ : ∃ b2, b2 = wr.heap.size := ⟨_, rfl⟩
      obtain ⟨rb, hrb⟩ : ∃ rb, rb = v4.heap.size := ⟨_, rfl⟩
      obtain ⟨V5, hV5⟩ : ∃ V5, V5 = v4.alloc (.cells #[.int .i64 num, .string txt, .int .i64 er, .slice ra 0 rc] 47) := ⟨_, rfl⟩
      have hb5 : Below v4.heap.size v4 V5 := by rw [hV5]; exact (Below.refl _ _).alloc (Nat.le_refl _) _
      have K5 := Lib.hid (keepBlk hb5 K4.out)
      have L5 : Hid (Blk V5 rb 47 [.int .i64 num, .string txt, .int .i64 er, .slice ra 0 rc]) := by rw [hV5, hrb]; exact Lib.hid (Blk.new v4 47 [_, _, _, _])
      have M5 := Lib.hid (M4.out.below hb5)
      rw [← hab2] at K5 K4 q0 q1 q2 q3 q4 q5
      rw [← hV5, ← hab2, ← hrb]
      clear hV5 hb5 q0 q1 q2 q3 q4 q5 K4 M4 hab2 hrb c0 c1 c2 c3 c4 c5
      have q0 : V5.cell? ⟨ab2, 0, none⟩ = some (.int .i64 k) := K5.out.cell 0
      have q2 : V5.cell? ⟨ab2, 2, none⟩ = some (.int .i64 ok) := K5.out.cell 2
      have q3 : V5.cell? ⟨ab2, 3, none⟩ = some (.int .i64 of_) := K5.out.cell 3
      have q4 : V5.cell? ⟨ab2, 4, none⟩ = some (.int .i64 oc) := K5.out.cell 4
      have q5 : V5.cell? ⟨ab2, 5, none⟩ = some (.string od) := K5.out.cell 5
      have p0 : V5.cell? ⟨rb, 0, none⟩ = some (.int .i64 num) := L5.out.cell 0
      have p2 : V5.cell? ⟨rb, 2, none⟩ = some (.int .i64 er) := L5.out.cell 2
      go_cut [58] (fun c wx => c = .bool (decide (k = 0 ∧ er = 0)) ∧ wx = V5)
      case first =>
        by_cases hk : k = 0
        · subst hk
          by_cases he : er = 0
          · subst he
            go_wp2_with fail
            go_meet
            exact ⟨rfl, rfl⟩
          · have he1 : (er == 0) = false := by rw [beq_eq_false_iff_ne]; exact he
            have HD : Hid (decide ((0 : Int) = 0 ∧ er = 0) = false) := Lib.hid (decide_eq_false fun h => he h.2)
            clear he
            go_wp2_with fail
            go_meet
            exact ⟨by rw [HD.out], rfl⟩
        · have hk1 : (k == 0) = false := by rw [beq_eq_false_iff_ne]; exact hk
          have HD : Hid (decide (k = 0 ∧ er = 0) = false) := Lib.hid (decide_eq_false fun h => hk h.1)
          clear hk
          go_wp2_with fail
          go_meet
          exact ⟨by rw [HD.out], rfl⟩
      case rest =>
        obtain ⟨rfl, rfl⟩ := hcut
        go_upto_if 58 with fail
        go_cut [] (fun wx => Ms w mb gb g (2 * m + 1) S4 st' (askF f ⟨k, t, ⟨ok, of_, oc, od⟩⟩ ⟨num, txt, er, an⟩) (if k = 0 ∧ er = 0 then c + 1 else c) (goneF ca) ca.length (.slice sa As.length sc) As wx ∧ Blk wx ab2 44 [.int .i64 k, .int .i64 t, .int .i64 ok, .int .i64 of_, .int .i64 oc, .string od] ∧ Blk wx rb 47 [.int .i64 num, .string txt, .int .i64 er, .slice ra 0 rc])
        case first =>
          by_cases hask : k = 0 ∧ er = 0
          · obtain ⟨rfl, rfl⟩ := hask
            have HMAP := Lib.hid M5.out.map
            obtain ⟨hnum, hnone⟩ := ASK.out ⟨rfl, rfl⟩
            subst hnum
            have HN := Lib.hid hnone
            have hcb : c ≤ 100 := by have := HCL.out; have := HM.out; have := HLEN.out; omega
            have hwf : (Lit.int .i64 ((c : Int) + 1)).wf = true := WalkArith.wf_i64 (by omega)
            have hml : 2 * m < maxLen := by have := HM.out; have := HLEN.out; unfold maxLen; omega
            have HA : Hid (askF f ⟨0, t, ⟨ok, of_, oc, od⟩⟩ ⟨(c : Int) + 1, txt, 0, an⟩ = upd f ((c : Int) + 1) ⟨ok, of_, oc, od⟩) := Lib.hid (by unfold askF; rw [if_pos ⟨rfl, rfl⟩])
            have HC : Hid ((if (0 : Int) = 0 ∧ (0 : Int) = 0 then c + 1 else c) = c + 1) := Lib.hid (if_pos ⟨rfl, rfl⟩)
            rw [show decide ((0 : Int) = 0 ∧ (0 : Int) = 0) = true from rfl]
            clear hnone
            go_wp2_with (first
              | (refine wp_maplen rfl _ 39 rfl 42 HMAP.out Try.underlying39 rfl ?_)
              | (at_mapUpdate; refine wp_store (KC := intK) (E := opE) rfl _ _ _ 39 rfl 42 HMAP.out Try.underlying39 hml ((c : Int) + 1) hwf ⟨ok, of_, oc, od⟩ rfl rfl rfl ?_; intro w6 hm6 hg6))
            go_meet
            rw [HA.out, HC.out]
            rw [HN.out] at hm6
            exact ⟨M5.out.storeA hm6 hg6, K5.out.grownMap M5.out.map hg6, L5.out.grownMap M5.out.map hg6⟩
          · have HD : Hid (decide (k = 0 ∧ er = 0) = false) := Lib.hid (decide_eq_false hask)
            have HA : Hid (askF f ⟨k, t, ⟨ok, of_, oc, od⟩⟩ ⟨num, txt, er, an⟩ = f) := Lib.hid (by unfold askF; rw [if_neg hask])
            have HC : Hid ((if k = 0 ∧ er = 0 then c + 1 else c) = c) := Lib.hid (if_neg hask)
            rw [HD.out]
            clear hask
            go_wp2_with fail
            go_meet
            rw [HA.out, HC.out]
            exact ⟨M5.out.more (Nat.le_succ _), K5.out, L5.out⟩
        case rest =>
          obtain ⟨hM6, hK6, hL6⟩ := hcut
          obtain ⟨f2, hf2⟩ : ∃ f2, f2 = askF f ⟨k, t, ⟨ok, of_, oc, od⟩⟩ ⟨num, txt, er, an⟩ := ⟨_, rfl⟩
          obtain ⟨k2, hk2⟩ : ∃ k2, k2 = if k = 0 ∧ er = 0 then c + 1 else c := ⟨_, rfl⟩
          rw [← hf2, ← hk2] at hM6 VV2
          have M6 := Lib.hid hM6
          have K6 := Lib.hid hK6
          have L6 := Lib.hid hL6
          clear hM6 hK6 hL6 hf2 hk2 q0 q2 q3 q4 q5 p0 p2 K5 L5 M5
          have q0 : wc.cell? ⟨ab2, 0, none⟩ = some (.int .i64 k) := K6.out.cell 0
          have q1 : wc.cell? ⟨ab2, 1, none⟩ = some (.int .i64 t) := K6.out.cell 1
          have p2 : wc.cell? ⟨rb, 2, none⟩ = some (.int .i64 er) := L6.out.cell 2
          obtain ⟨V6, hV6⟩ : ∃ V6, V6 = wc := ⟨_, rfl⟩
          rw [← hV6] at M6 K6 L6 q0 q1 p2
          rw [← hV6]
          clear hV6
          go_upto_region 18 with fail
          go_cut [77] (fun c wx => c = .bool (decide (k = 2 ∧ er = 0)) ∧ wx = V6)
          case first =>
            by_cases hk : k = 2
            · subst hk
              by_cases he : er = 0
              · subst he
                go_wp2_with fail
                go_meet
                exact ⟨rfl, rfl⟩
              · have he1 : (er == 0) = false := by rw [beq_eq_false_iff_ne]; exact he
                have HD : Hid (decide ((2 : Int) = 2 ∧ er = 0) = false) := Lib.hid (decide_eq_false fun h => he h.2)
                clear he
                go_wp2_with fail
                go_meet
                exact ⟨by rw [HD.out], rfl⟩
            · have hk1 : (k == 2) = false := by rw [beq_eq_false_iff_ne]; exact hk
              have HD : Hid (decide (k = 2 ∧ er = 0) = false) := Lib.hid (decide_eq_false fun h => hk h.1)
              clear hk
              go_wp2_with fail
              go_meet
              exact ⟨by rw [HD.out], rfl⟩
          case rest =>
            obtain ⟨rfl, rfl⟩ := hcut
            go_upto_if 77 with fail
            go_cut [] (fun wx => Ms w mb gb g (2 * m + 2) S4 st' f2 k2 (goneF (caR ca ⟨k, t, ⟨ok, of_, oc, od⟩⟩ ⟨num, txt, er, an⟩)) (caR ca ⟨k, t, ⟨ok, of_, oc, od⟩⟩ ⟨num, txt, er, an⟩).length (.slice sa As.length sc) As wx ∧ Blk wx rb 47 [.int .i64 num, .string txt, .int .i64 er, .slice ra 0 rc])
            case first =>
              by_cases hask : k = 2 ∧ er = 0
              · obtain ⟨rfl, rfl⟩ := hask
                have HMAP := Lib.hid M6.out.gone
                obtain ⟨hg0, ht1, ht2⟩ := DRP.out ⟨rfl, rfl⟩
                have HN := Lib.hid hg0
                have hmb2 : m ≤ 100 := by have := HM.out; have := HLEN.out; omega
                have hwf : (Lit.int .i64 t).wf = true := WalkArith.wf_i64 (by omega)
                have hml : 2 * m + 1 < maxLen := by have := HM.out; have := HLEN.out; unfold maxLen; omega
                have HA : Hid (caR ca ⟨2, t, ⟨ok, of_, oc, od⟩⟩ ⟨num, txt, 0, an⟩ = ca ++ [t]) := Lib.hid (by unfold caR; rw [if_pos ⟨rfl, rfl⟩])
                rw [show decide ((2 : Int) = 2 ∧ (0 : Int) = 0) = true from rfl]
                clear hg0
                go_wp2_with (at_mapUpdate; refine wp_store (KC := intK) (E := boolE) rfl _ _ _ 71 rfl 4 HMAP.out Try.underlying71 hml t hwf true rfl rfl rfl ?_; intro w7 hm7 hg7)
                go_meet
                rw [HA.out]
                rw [HN.out, goneF_snoc] at hm7
                have hm8 : MapIs intK boolE w7 gb (2 * m + 1 + 1) (goneF (ca ++ [t])) (ca ++ [t]).length := by
                  rw [List.length_append]; exact hm7
                exact ⟨M6.out.storeG hm8 hg7, L6.out.grownMap M6.out.gone hg7⟩
              · have HD : Hid (decide (k = 2 ∧ er = 0) = false) := Lib.hid (decide_eq_false hask)
                have HA : Hid (caR ca ⟨k, t, ⟨ok, of_, oc, od⟩⟩ ⟨num, txt, er, an⟩ = ca) := Lib.hid (by unfold caR; rw [if_neg hask])
                rw [HD.out]
                clear hask
                go_wp2_with fail
                go_meet
                rw [HA.out]
                exact ⟨M6.out.more (Nat.le_succ _), L6.out⟩
            case rest =>
              obtain ⟨hM8, hL8⟩ := hcut
              obtain ⟨ca2, hca2⟩ : ∃ ca2, ca2 = caR ca ⟨k, t, ⟨ok, of_, oc, od⟩⟩ ⟨num, txt, er, an⟩ := ⟨_, rfl⟩
              rw [← hca2] at hM8 VV2
              obtain ⟨V8, hV8⟩ : ∃ V8, V8 = wc := ⟨_, rfl⟩
              rw [← hV8] at hM8 hL8
              rw [← hV8]
              have M8 := Lib.hid hM8
              have L8 := Lib.hid hL8
              clear hM8 hL8 hca2 hV8 q0 q1 p2 K6 L6 M6
              have p3 : V8.cell? ⟨rb, 3, none⟩ = some (.slice ra 0 rc) := L8.out.cell 3
              have hrun0 := run_append_zero (w := V8) sa As.length sc hsle ra rc
              rw [run_appSem] at hrun0
              obtain ⟨ba, bc, hsa, _⟩ := M8.out.pipe.ra.form
              have CS := Lib.hid (Answers_any g S4 st' V8 M8.out.pipe)
              rw [hsa] at CS
              clear hsa
              have hAB : As.length + st'.ans.length ≤ 100000 := by
                have h1 := VV2.out.len
                have h2 := VV2.out.c
                have h3 := VV2.out.gd.t1
                rw [List.length_append] at h1
                have := HM.out; have := HLEN.out
                omega
              have HAB := Lib.hid hAB
              clear hAB
              go_upto_region 21 with (go_at_call 19; refine (CS.out).mono ?_; rintro e v9 ⟨rfl, R9, P9, T9, _⟩; have M9 := Lib.hid (M8.out.turn T9 P9); obtain ⟨sv10, w10, hrun10, hrow10, hg10, ho10⟩ := run_append_answers M9.out.row R9 HAB.out; obtain ⟨sa10, sc10, rfl, _⟩ := hrow10.form; rw [run_appSem] at hrun10; have M10 := Lib.hid (M9.out.grow hrow10 hg10 ho10); clear P9 T9 R9 hrow10 hg10 ho10)
              clear hrun0 hrun10
              have CO0 := Lib.hid (Open_any 0 g _ _ w10 M10.out.pipe)
              have CO1 := Lib.hid (Open_any 1 g _ _ w10 M10.out.pipe)
              have CW := Lib.hid (Waiting_any g _ _ w10 M10.out.pipe (VV2.out.gd.sm (by have := HM.out; have := HLEN.out; omega)))
              have hcl := VV2.out.cl
              obtain ⟨o0, ho0⟩ : ∃ o, o = (openE (taken st') 0 == 0) := ⟨_, rfl⟩
              obtain ⟨o1, ho1⟩ : ∃ o, o = (openE (taken st') 1 == 0) := ⟨_, rfl⟩
              rw [← ho0] at CO0
              rw [← ho1] at CO1
              have hno : o0 = false ∨ o1 = false → (taken st').ws.length = 0 := by
                rw [ho0, ho1]
                intro h
                rw [hcl (by
                  rcases h with h | h
                  · left; unfold openE at h; simp at h; exact h
                  · right; unfold openE at h; simp at h; exact h)]
                rfl
              clear ho0 ho1 hcl
              obtain ⟨wl, hwl⟩ : ∃ wl, wl = (taken st').ws.length := ⟨_, rfl⟩
              rw [← hwl] at CW hno
              clear hwl
              cases o0
              · obtain rfl := hno (.inl rfl)
                clear hno
                go_wp2_with (first
                  | (go_at_call 15; refine (CO0.out).mono ?_; rintro e v11 ⟨rfl, rfl⟩)
                  | (go_at_call 26; refine (CW.out).mono ?_; rintro e v12 ⟨tv, rfl, R12, hb12, _⟩; obtain ⟨ta, tc, rfl, _⟩ := R12.form; have B12 := Lib.hid hb12; clear R12 hb12))
                go_roundg (gk - 1)
                case measure => have := HM.out; omega
                case rel => exact ⟨m + 1, _, _, f2, k2, ca2, As ++ st'.ans, sa10, sc10, by have := HM.out; omega, by go_num, by rw [List.length_append], (M10.out.below B12.out).more (by omega), VV2.out⟩
              · cases o1
                · obtain rfl := hno (.inr rfl)
                  clear hno
                  go_wp2_with (first
                    | (go_at_call 15; refine (CO0.out).mono ?_; rintro e v11 ⟨rfl, rfl⟩)
                    | (go_at_call 15; refine (CO1.out).mono ?_; rintro e v11 ⟨rfl, rfl⟩)
                    | (go_at_call 26; refine (CW.out).mono ?_; rintro e v12 ⟨tv, rfl, R12, hb12, _⟩; obtain ⟨ta, tc, rfl, _⟩ := R12.form; have B12 := Lib.hid hb12; clear R12 hb12))
                  go_roundg (gk - 1)
                  case measure => have := HM.out; omega
                  case rel => exact ⟨m + 1, _, _, f2, k2, ca2, As ++ st'.ans, sa10, sc10, by have := HM.out; omega, by go_num, by rw [List.length_append], (M10.out.below B12.out).more (by omega), VV2.out⟩
                · clear hno
                  go_wp2_with (first
                    | (go_at_call 15; refine (CO0.out).mono ?_; rintro e v11 ⟨rfl, rfl⟩)
                    | (go_at_call 15; refine (CO1.out).mono ?_; rintro e v11 ⟨rfl, rfl⟩))
                  go_roundg (gk - 1)
                  case measure => have := HM.out; omega
                  case rel => exact ⟨m + 1, _, _, f2, k2, ca2, As ++ st'.ans, sa10, sc10, by have := HM.out; omega, by go_num, by rw [List.length_append], M10.out.more (by omega), VV2.out⟩
    · obtain rfl : m = l.length := by have := HM.out; omega
      obtain ⟨lb, hlb⟩ : ∃ lb, lb = wr.heap.size := ⟨_, rfl⟩
      have MT0 : Hid (Mt w mb gb lb g (2 * l.length) S st f c (goneF ((Lall As ca st).take (ca.length + 0))) (ca.length + 0) (lastF f (As.take 0)) (.slice sa As.length sc) As (wr.alloc (.map #[] 0))) := by
        rw [Nat.add_zero, Lall_0, hlb]
        have h1 := MM.out.low.size
        have h2 := MapIs.lt MM.out.map
        have h3 := MM.out.gone.lt
        exact Lib.hid ⟨MM.out.below ((Below.refl _ _).alloc (Nat.le_refl _) _), ⟨0, (MapIs.made pairK numE wr).mono (Nat.zero_le _)⟩, h1, by omega, by omega, fun hh => by have := MM.out.pipe.lt hh; omega⟩
      have hmm := @run_makeMap Try.prog
      obtain ⟨_, _, hsf, hsle, hscap⟩ := MM.out.row.form
      have hAl : As.length ≤ 60 ∧ c ≤ 60 := by have h1 := VV.out.len; have h2 := VV.out.c; have h3 := VV.out.gd.t1; have := HLEN.out; omega
      obtain ⟨hAl, hcl⟩ := hAl
      have HCL := Lib.hid hcl
      clear hsf hsle hscap hcl
      go_upto_region 25 with fail
      clear hmm
      rw [← hlb]
      obtain ⟨V9, hV9⟩ : ∃ V9, V9 = wr.alloc (.map #[] 0) := ⟨_, rfl⟩
      rw [← hV9] at MT0
      rw [← hV9]
      clear hV9 hlb MM
      go_wp2_with fail
      go_loopg [106] As.length (fun k i wr2 => ∃ (j : Nat), j + k = As.length ∧ i = .int .i64 j ∧ Mt w mb gb lb g (2 * l.length + 2 * j) S st f c (goneF ((Lall As ca st).take (ca.length + j))) (ca.length + j) (lastF f (As.take j)) (.slice sa As.length sc) As wr2)
      case atStart => exact ⟨0, by omega, rfl, MT0.out⟩
      case round =>
        obtain ⟨j, hj, rfl, hM⟩ := hrel
        have HJ := Lib.hid hj
        have MM := Lib.hid hM
        clear hj hM MT0
        by_cases hlt : j < As.length
        · obtain ⟨a, ha⟩ : ∃ a, a = As.getD j anZ := ⟨_, rfl⟩
          obtain ⟨x, hfx, hin, ht1, ht2, hlast⟩ := VV.out.meets hlt ha
          obtain ⟨hg1, hg2⟩ := goneF_next VV.out.nodup (i := ca.length + j) (by rw [Lall_len]; omega) (t := a.tk) (by rw [Lall_an As ca st hlt, ha]; rfl)
          have htake : As.take (j + 1) = As.take j ++ [a] := by
            rw [List.take_succ_eq_append_getElem hlt, ha, List.getD_eq_getElem?_getD, List.getElem?_eq_getElem hlt]; rfl
          obtain ⟨gb2, off2, cap2, hta, _, _, hgl, hcl, _⟩ := MM.out.ms.row.open (by omega)
          obtain ⟨rfl, rfl⟩ : sa = some ⟨gb2, off2, none⟩ ∧ sc = cap2 := by
            injection hta with h1 _ h3
            exact ⟨h1, h3⟩
          obtain ⟨c0, c1, c2, c3⟩ := an_cells hcl hlt a ha
          have HF := Lib.hid hfx
          have HIN := Lib.hid hin
          have HG1 := Lib.hid hg1
          have HG2 := Lib.hid hg2
          have HT := Lib.hid htake
          have HL := Lib.hid hlast
          have hwf : (Lit.int .i64 a.tk).wf = true := WalkArith.wf_i64 (by have := HCL.out; omega)
          clear ha hfx hin hg1 hg2 htake hta hcl hlast
          obtain ⟨at_, ac_, ad, ae⟩ := a
          obtain ⟨xk, xf, xc, xd⟩ := x
          simp only at c0 c1 c2 c3 ht1 ht2 hwf HF HIN HG1 HG2 HL
          have HMAP := Lib.hid (fun W (hb : Below wr.heap.size wr W) => MapIs.below MM.out.ms.map hb)
          go_upto_region 28 with fail
          obtain ⟨W1, hW1⟩ : ∃ W1, W1 = wr.alloc (.cells #[.int .i64 at_, .int .i64 ac_, .string ad, .int .i64 ae] 51) := ⟨_, rfl⟩
          obtain ⟨yb, hyb⟩ : ∃ yb, yb = wr.heap.size := ⟨_, rfl⟩
          have KY : Hid (Blk W1 yb 51 [.int .i64 at_, .int .i64 ac_, .string ad, .int .i64 ae]) := by rw [hW1, hyb]; exact Lib.hid (Blk.new wr 51 [_, _, _, _])
          have BW : Hid (Below wr.heap.size wr W1) := by rw [hW1]; exact Lib.hid ((Below.refl _ _).alloc (Nat.le_refl _) _)
          rw [← hW1, ← hyb]
          clear hW1 hyb c0 c1 c2 c3
          have M1 := Lib.hid (MM.out.below BW.out)
          have HMP := Lib.hid M1.out.ms.map
          have y0 : W1.cell? ⟨yb, 0, none⟩ = some (.int .i64 at_) := KY.out.cell 0
          go_upto_region 30 with (at_lookup; refine wp_asked rfl _ _ rfl HMP.out at_ hwf xk xf xc xd HF.out rfl rfl ?_)
          obtain ⟨W3, hW3⟩ : ∃ W3, W3 = (W1.alloc (.cells #[.int .i64 xk, .int .i64 xf, .int .i64 xc, .string xd] 42)).alloc (.cells #[.int .i64 xk, .int .i64 xf] 74) := ⟨_, rfl⟩
          obtain ⟨ob, hob⟩ : ∃ ob, ob = W1.heap.size := ⟨_, rfl⟩
          have KO : Hid (Blk W3 ob 42 [.int .i64 xk, .int .i64 xf, .int .i64 xc, .string xd]) := by rw [hW3, hob]; exact Lib.hid ((Blk.new W1 42 [_, _, _, _]).alloc _)
          have KK : Hid (Blk W3 (ob + 1) 74 [.int .i64 xk, .int .i64 xf]) := by rw [hW3, hob]; exact Lib.hid (blk_at (by simp) 74 [_, _])
          have BW3 : Hid (Below W1.heap.size W1 W3) := by rw [hW3]; exact Lib.hid (((Below.refl _ _).alloc (Nat.le_refl _) _).alloc (by simp) _)
          rw [← hW3, ← hob]
          clear hW3 hob y0
          have M3 := Lib.hid (M1.out.below BW3.out)
          have KY3 := Lib.hid (keepBlk BW3.out KY.out)
          have o0 : W3.cell? ⟨ob, 0, none⟩ = some (.int .i64 xk) := KO.out.cell 0
          have o1 : W3.cell? ⟨ob, 1, none⟩ = some (.int .i64 xf) := KO.out.cell 1
          have o2 : W3.cell? ⟨ob, 2, none⟩ = some (.int .i64 xc) := KO.out.cell 2
          have o3 : W3.cell? ⟨ob, 3, none⟩ = some (.string xd) := KO.out.cell 3
          obtain ⟨eb, heb⟩ : ∃ eb, eb = emptyB ⟨xk, xf, xc, xd⟩ := ⟨_, rfl⟩
          have HEB := Lib.hid heb
          clear heb
          go_cut [19] (fun c wx => c = .bool eb ∧ wx = W3)
          case first =>
            rcases HIN.out.1 with hk | hk
            · simp only at hk
              subst hk
              by_cases hc : xc = 0
              · subst hc
                go_wp2_with fail
                go_meet
                exact ⟨by rw [HEB.out]; rfl, rfl⟩
              · have hc1 : (xc == 0) = false := by rw [beq_eq_false_iff_ne]; exact hc
                have HE : Hid (eb = false) := Lib.hid (by rw [HEB.out]; unfold emptyB; simp [hc])
                clear hc
                go_wp2_with fail
                go_meet
                exact ⟨by rw [HE.out], rfl⟩
            · simp only at hk
              subst hk
              have HE : Hid (eb = xd.toList.isEmpty) := Lib.hid (by rw [HEB.out]; unfold emptyB; simp [str_empty])
              go_wp2_with fail
              go_meet
              exact ⟨by rw [HE.out], rfl⟩
          case rest =>
            obtain ⟨rfl, rfl⟩ := hcut
            obtain ⟨V3, hV3⟩ : ∃ V3, V3 = wc := ⟨_, rfl⟩
            rw [← hV3] at M3 KY3 KO KK
            rw [← hV3]
            clear hV3 o0 o1 o2 o3
            have HKV : Hid (pairK.val (keyP ⟨xk, xf, xc, xd⟩) = .agg #[.int .i64 xk, .int .i64 xf]) := Lib.hid (by
              show Value.agg #[.int .i64 (b2 (xk == 1)), .int .i64 (b2 (xf == 1))] = _
              rw [b2_of HIN.out.1, b2_of HIN.out.2])
            obtain ⟨lm, hlm⟩ := M3.out.last
            have HLM := Lib.hid hlm
            obtain ⟨lv, hlv⟩ : ∃ lv, lv = (lastF f (As.take j) (keyP ⟨xk, xf, xc, xd⟩)).getD 0 := ⟨_, rfl⟩
            have hlg : ∀ n, (Instr.lookup 71 (.map (some gb)) (.int .i64 at_) false).run Try.prog (V3.drewN n) = .ok (.bool false) (V3.drewN n) := fun n => by
              have h := (M3.out.ms.gone.below (belowN (Below.refl _ _) n)).look1 (x := at_) Try.underlying71 (zero4 _) hwf
              rw [HG1.out] at h
              exact h
            have hll : ∀ n, (Instr.lookup 72 (.map (some lb)) (.agg #[.int .i64 xk, .int .i64 xf]) false).run Try.prog (V3.drewN n) = .ok (.int .i64 lv) (V3.drewN n) := fun n => by
              have h := (HLM.out.below (belowN (Below.refl _ _) n)).look1 (x := keyP ⟨xk, xf, xc, xd⟩) Try.underlying72 (zero3 _) trivial
              rw [HKV.out] at h
              rw [hlv]
              exact h
            have hlg0 := hlg 0
            have hll0 := hll 0
            have y0 : V3.cell? ⟨yb, 0, none⟩ = some (.int .i64 at_) := KY3.out.cell 0
            have k0 : V3.cell? ⟨ob + 1, 0, none⟩ = some (.int .i64 xk) := KK.out.cell 0
            have k1 : V3.cell? ⟨ob + 1, 1, none⟩ = some (.int .i64 xf) := KK.out.cell 1
            rw [show V3.drewN 0 = V3 from rfl] at hlg0 hll0
            clear hlm
            have hml : 2 * l.length + 2 * j + 1 < maxLen := by have := HJ.out; have := HLEN.out; unfold maxLen; omega
            have hml0 : 2 * l.length + 2 * j < maxLen := by omega
            have HLF : Hid ((eb = false → lastF f (As.take (j + 1)) = upd (lastF f (As.take j)) (keyP ⟨xk, xf, xc, xd⟩) at_) ∧ (eb = true → lastF f (As.take (j + 1)) = lastF f (As.take j))) := Lib.hid (by
              rw [HT.out]
              exact ⟨fun he => lastF_put (a := ⟨at_, ac_, ad, ae⟩) HF.out HIN.out (HEB.out.symm.trans he), fun he => lastF_skip (a := ⟨at_, ac_, ad, ae⟩) HF.out (HEB.out.symm.trans he)⟩)
            cases eb
            · have hdl : decide (at_ ≤ lv) = false := by rw [hlv]; exact decide_eq_false (by have := HL.out HEB.out.symm; omega)
              clear hlv
              have HLF0 := Lib.hid (HLF.out.1 rfl)
              clear HLF
              go_upto_region 31 with fail
              go_quiet (fail)
              clear hlg hll hlg0 hll0
              go_wp2_with (first
                | (at_mapUpdate; refine wp_store (KC := pairK) (E := numE) rfl _ _ _ 72 rfl 3 (HLM.out.below (belowN (Below.refl _ _) _)) Try.underlying72 hml0 (keyP ⟨xk, xf, xc, xd⟩) trivial at_ rfl HKV.out.symm rfl ?_; intro w6 hm6 hg6; have M6 := Lib.hid ((M3.out.below (belowN (Below.refl _ _) _)).storeL hm6 hg6); have y6 : w6.cell? ⟨yb, 0, none⟩ = some (.int .i64 at_) := ((keepBlk (belowN (Below.refl _ _) _) KY3.out).grownMap (HLM.out.below (belowN (Below.refl _ _) _)) hg6).cell 0; clear hm6 hg6)
                | (at_mapUpdate; refine wp_store (KC := intK) (E := boolE) rfl _ _ _ 71 rfl 4 M6.out.ms.gone Try.underlying71 hml at_ hwf true rfl rfl rfl ?_; intro w7 hm7 hg7; rw [HG2.out, HG1.out] at hm7; have M7 := Lib.hid (M6.out.storeG hm7 hg7); clear hm7 hg7))
              go_roundg (gk - 1)
              case measure => have := HJ.out; omega
              case rel => exact ⟨j + 1, by have := HJ.out; omega, by go_num, by rw [HLF0.out]; exact M7.out⟩
            · clear hlv
              have HLF0 := Lib.hid (HLF.out.2 rfl)
              clear HLF
              go_upto_region 31 with fail
              go_quiet (fail)
              clear hlg hll hlg0 hll0
              go_wp2_with (at_mapUpdate; refine wp_store (KC := intK) (E := boolE) rfl _ _ _ 71 rfl 4 (M3.out.ms.gone.below (belowN (Below.refl _ _) _)) Try.underlying71 hml0 at_ hwf true rfl rfl rfl ?_; intro w7 hm7 hg7; rw [HG2.out, HG1.out] at hm7; have M7 := Lib.hid ((M3.out.below (belowN (Below.refl _ _) _)).storeG hm7 hg7); clear hm7 hg7)
              go_roundg (gk - 1)
              case measure => have := HJ.out; omega
              case rel => exact ⟨j + 1, by have := HJ.out; omega, by go_num, by rw [HLF0.out]; exact M7.out.more (by omega)⟩
        · obtain rfl : j = As.length := by have := HJ.out; omega
          have CW := Lib.hid (Waiting_any g S st wr MM.out.ms.pipe (VV.out.gd.sm (by have := HLEN.out; omega)))
          have hwl : st.ws.length ≤ 60 := by have h1 := VV.out.len; have := HCL.out; omega
          go_wp2_with (go_at_call 26; refine (CW.out).mono ?_; rintro e v8 ⟨tv, rfl, R8, hb8, ho8⟩; obtain ⟨ta, tc, rfl, ht1, ht2⟩ := R8.form; unfold maxLen at ht2; have M8 := Lib.hid (MM.out.ms.below hb8); have R8' := Lib.hid R8; clear R8 hb8 ho8)
          obtain ⟨gko, hgko⟩ : ∃ x, x = gk := ⟨_, rfl⟩
          go_loopg [173] st.ws.length (fun k i wr2 => ∃ (j : Nat), j + k = st.ws.length ∧ i = .int .i64 j ∧ Ms w mb gb g (2 * l.length + 2 * As.length + j) S st f c (goneF ((Lall As ca st).take (ca.length + As.length + j))) (ca.length + As.length + j) (.slice sa As.length sc) As wr2 ∧ Row wr2 3 1 (.slice ta st.ws.length tc) st.ws.length (tkC st.ws))
          case atStart => exact ⟨0, by omega, rfl, M8.out, R8'.out⟩
          case round =>
            obtain ⟨j, hj, rfl, hM9, hR9⟩ := hrel
            have HJ3 := Lib.hid hj
            have M9 := Lib.hid hM9
            have R9 := Lib.hid hR9
            clear hj hM9 hR9 M8 R8'
            by_cases hjl : j < st.ws.length
            · obtain ⟨y, hy⟩ : ∃ y, y = st.ws.getD j wt0 := ⟨_, rfl⟩
              obtain ⟨hfy, hin, hne, ht1, ht2⟩ := VV.out.waits hjl hy
              obtain ⟨hg1, hg2⟩ := goneF_next VV.out.nodup (i := ca.length + As.length + j) (by rw [Lall_len]; omega) (t := y.tk) (by rw [Lall_wt As ca st hjl, hy])
              obtain ⟨gb2, off2, cap2, hta, _, _, _, hcl, _⟩ := R9.out.open (by omega)
              obtain ⟨rfl, rfl⟩ : ta = some ⟨gb2, off2, none⟩ ∧ tc = cap2 := by
                injection hta with h1 _ h3
                exact ⟨h1, h3⟩
              have hct := (hcl j (by omega)).trans (tkC_at _ j hjl)
              rw [← hy] at hct
              have HF := Lib.hid hfy
              have HIN := Lib.hid hin
              have HG1 := Lib.hid hg1
              have HG2 := Lib.hid hg2
              have HNE := Lib.hid hne
              have hwf : (Lit.int .i64 y.tk).wf = true := WalkArith.wf_i64 (by have := HCL.out; omega)
              have hml : 2 * l.length + 2 * As.length + j < maxLen := by have := HLEN.out; unfold maxLen; omega
              clear hy hfy hin hg1 hg2 hta hcl hne
              obtain ⟨⟨xk, xf, xc, xd⟩, t⟩ := y
              simp only at hct ht1 ht2 hwf HF HIN HG1 HG2 HNE
              go_upto_region 40 with fail
              have hlk := look_op M9.out.map t hwf xk xf xc xd HF.out
              have hlg := look_gone M9.out.gone t hwf HG1.out
              have g42 := held42
              have e42 := guard42
              rcases HIN.out.1 with hk | hk
              all_goals
                simp only at hk
                subst hk
              · have hc1 : (xc == 0) = false := by
                  have h := HNE.out
                  unfold emptyB at h
                  rwa [if_pos rfl] at h
                rcases HIN.out.2 with hq | hq
                all_goals
                  simp only at hq
                  subst hq
                  go_wp2_with (at_mapUpdate; refine wp_store (KC := intK) (E := boolE) rfl _ _ _ 71 rfl 4 M9.out.gone Try.underlying71 hml t hwf true rfl rfl rfl ?_; intro w7 hm7 hg7; rw [HG2.out, HG1.out] at hm7; have M7 := Lib.hid (M9.out.storeG hm7 hg7); have R7 := Lib.hid (R9.out.grownMap M9.out.gone hg7); clear hm7 hg7)
                  go_roundg (gk - 1)
                  case measure => have := HJ3.out; omega
                  case rel => exact ⟨j + 1, by have := HJ3.out; omega, by go_num, M7.out, R7.out⟩
              · go_wp2_with (at_mapUpdate; refine wp_store (KC := intK) (E := boolE) rfl _ _ _ 71 rfl 4 M9.out.gone Try.underlying71 hml t hwf true rfl rfl rfl ?_; intro w7 hm7 hg7; rw [HG2.out, HG1.out] at hm7; have M7 := Lib.hid (M9.out.storeG hm7 hg7); have R7 := Lib.hid (R9.out.grownMap M9.out.gone hg7); clear hm7 hg7)
                go_roundg (gk - 1)
                case measure => have := HJ3.out; omega
                case rel => exact ⟨j + 1, by have := HJ3.out; omega, by go_num, M7.out, R7.out⟩
            · obtain rfl : j = st.ws.length := by have := HJ3.out; omega
              have hgone := M9.out.gone
              rw [VV.out.len] at hgone
              have HGN := Lib.hid hgone
              clear hgone
              go_wp2_with (first
                | (refine wp_maplen rfl _ 71 rfl 4 HGN.out Try.underlying71 rfl ?_)
                | (refine wp_maplen rfl _ 39 rfl 42 M9.out.ms.map Try.underlying39 rfl ?_)
                | (refine wp_maplen rfl _ 39 rfl 42 M9.out.map Try.underlying39 rfl ?_))
              go_ret
              exact ⟨rfl, M9.out.low⟩
theorem serves_any (lim : Int) (sv : Value) (l : List Ac) (w : World) (hr : Acts w sv l) : Calls Try.prog 6 #[.int .i64 lim, sv] w fun e w' => e = .returned (.bool true) ∧ Below w.heap.size w w' := by
  cases hf : fewB l with
  | false => exact serves_no lim sv l hf w hr
  | true =>
    by_cases hl : lim < 1 ∨ 1048576 < lim
    · exact serves_bad lim sv l hf hl w hr
    · exact serves_ok lim sv l hf (by omega) (by omega) w hr
end Go.Proofs.Ytmnlojbfdpjjdaa
