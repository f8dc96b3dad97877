/- StreamOrders: the law's walk. -/
import Derived.Test.YtmnlojbfdpjjdaaO2
import Derived.Test.YtmnlojbfdpjjdaaH1
import Derived.Deep.CutBlock
namespace Go.Proofs.Ytmnlojbfdpjjdaa
open Go.RowKit
attribute [local go_sem] Oper.semAt_some
attribute [local go_sem ↓] run_appSem
theorem Blk.neT {w : World} {g g' : Nat} {t t' : TypeId} {cs cs' : List Value} (h : Blk w g t cs) (h' : Blk w g' t' cs') (hne : t ≠ t') : g ≠ g' := fun e => hne (by subst e; exact h.uniq h')
theorem addG0 (a b : List UInt8) (t oc num : Int) (od txt : ByteArray) (an : List An) : addG (G2 a b) ⟨1, t, ⟨0, 0, oc, od⟩⟩ ⟨num, txt, 0, an⟩ = G2 (a ++ bl txt) b := by
  funext e
  unfold addG G2
  by_cases h0 : e = 0
  · subst h0; rfl
  · rw [if_neg (fun h => h0 h.2.symm), if_neg h0, if_neg h0]
theorem addG1 (a b : List UInt8) (t oc num : Int) (od txt : ByteArray) (an : List An) : addG (G2 a b) ⟨1, t, ⟨0, 1, oc, od⟩⟩ ⟨num, txt, 0, an⟩ = G2 a (b ++ bl txt) := by
  funext e
  unfold addG G2
  by_cases h0 : e = 1
  · subst h0; rfl
  · rw [if_neg (fun h => h0 h.2.symm), if_neg h0, if_neg h0]
theorem addP0 (a b : List UInt8) (t ok oc num : Int) (hok : ok ≠ 0) (od txt : ByteArray) (an : List An) : addP (G2 a b) ⟨1, t, ⟨ok, 0, oc, od⟩⟩ ⟨num, txt, 0, an⟩ = G2 (a ++ bl od) b := by
  funext e
  unfold addP G2
  by_cases h0 : e = 0
  · subst h0; rw [if_pos ⟨⟨rfl, rfl, hok⟩, rfl⟩]; rfl
  · rw [if_neg (fun h => h0 h.2.symm), if_neg h0, if_neg h0]
theorem addP1 (a b : List UInt8) (t ok oc num : Int) (hok : ok ≠ 0) (od txt : ByteArray) (an : List An) : addP (G2 a b) ⟨1, t, ⟨ok, 1, oc, od⟩⟩ ⟨num, txt, 0, an⟩ = G2 a (b ++ bl od) := by
  funext e
  unfold addP G2
  by_cases h0 : e = 1
  · subst h0; rw [if_pos ⟨⟨rfl, rfl, hok⟩, rfl⟩]; rfl
  · rw [if_neg (fun h => h0 h.2.symm), if_neg h0, if_neg h0]
theorem look_op1 {w : World} {b n m : Nat} {f : Int → Option Op} (h : Asked w b n f m) (t : Int) (ht : (Lit.int .i64 t).wf = true) (k' f' c' : Int) (d' : ByteArray) (hf : f t = some ⟨k', f', c', d'⟩) :
    (Instr.lookup 39 (.map (some b)) (.int .i64 t) false).run Try.prog w = .ok (.agg #[.int .i64 k', .int .i64 f', .int .i64 c', .string d']) w := by
  have h1 := MapIs.look1 h (x := t) Try.underlying39 (zero42 _) ht
  rw [hf] at h1
  exact h1
set_option maxRecDepth 100000 in
set_option maxHeartbeats 3200000 in
theorem orders_ok (lim : Int) (sv : Value) (l : List Ac) (hf : fewB l = true) (hl1 : 1 ≤ lim) (hl2 : lim ≤ 1048576) (w : World) (hr : Acts w sv l) : Calls Try.prog 4 #[.int .i64 lim, sv] w fun e w' => e = .returned (.bool true) ∧ Below w.heap.size w w' := by
  have CA := Lib.hid (fun W => awake_any W)
  have CF := Lib.hid (fun W (hb : Below w.heap.size w W) => few_any l sv W (hr.below hb))
  rw [hf] at CF
  have CN := Lib.hid (fun W => New_any lim hl1 hl2 W)
  obtain ⟨hlen, hdat⟩ := few_parts hf
  have HDAT := Lib.hid hdat
  have HR := Lib.hid hr
  obtain ⟨aa, ca0, hsv, hca⟩ := hr.form
  have HSV := Lib.hid hsv
  rw [hsv] at CF
  rw [hsv]
  have hmm := @run_makeMap Try.prog
  clear hr hf hdat hsv
  go_enter Try.func4, Try.ntmps4
  go_upto_region 10 with (first
    | (go_at_call 9; refine (CA.out _).mono ?_; rintro e v1 ⟨rfl, hb1⟩; have B1 := Lib.hid hb1; clear hb1)
    | (go_at_call 17; refine (CF.out _ ?_).mono ?_; exact B1.out; rintro e v2 ⟨rfl, hb2⟩; have B2 := Lib.hid (keepBelow B1.out hb2); clear hb2)
    | (go_at_call 12; refine (CN.out _).mono ?_; rintro e v3 ⟨rfl, P3, hb3⟩; have HP3 := Lib.hid P3; have B3 := Lib.hid (keepBelow B2.out hb3); clear hb3 P3))
  obtain ⟨g, hg⟩ : ∃ g, g = v2.heap.size := ⟨_, rfl⟩
  obtain ⟨mb, hmb⟩ : ∃ mb, mb = v3.heap.size := ⟨_, rfl⟩
  obtain ⟨gb, hgb⟩ : ∃ gb, gb = mb + 1 := ⟨_, rfl⟩
  obtain ⟨pb, hpb⟩ : ∃ pb, pb = gb + 1 := ⟨_, rfl⟩
  have MM0 : Hid (Mo w mb gb pb g 0 nilSl (newSt lim) (fun _ => none) ⟨#[]⟩ ⟨#[]⟩ ⟨#[]⟩ ⟨#[]⟩ (((v3.alloc (.map #[] 0)).alloc (.cells #[.string ⟨#[]⟩, .string ⟨#[]⟩] 40)).alloc (.cells #[.string ⟨#[]⟩, .string ⟨#[]⟩] 40))) := by
    have hb : Below v3.heap.size v3 (((v3.alloc (.map #[] 0)).alloc (.cells #[.string ⟨#[]⟩, .string ⟨#[]⟩] 40)).alloc (.cells #[.string ⟨#[]⟩, .string ⟨#[]⟩] 40)) := (((Below.refl _ _).alloc (Nat.le_refl _) _).alloc (by simp) _).alloc (by simp; omega) _
    have h3 := B3.out.size
    have hgb' : (v3.alloc (.map #[] 0)).heap.size = gb := by rw [hgb, hmb]; simp
    have hpb' : ((v3.alloc (.map #[] 0)).alloc (.cells #[.string ⟨#[]⟩, .string ⟨#[]⟩] 40)).heap.size = pb := by rw [hpb, hgb, hmb]; simp
    have hgl := HP3.out.blk.lt
    have hown : ∀ k, nilSl.has g k → k = g := fun k hk => by
      rcases hk with h | h | h | h | h
      · exact h
      all_goals cases h
    refine Lib.hid ⟨⟨hg ▸ HP3.out.below hb, fun k hk => ?_, keepBelow B3.out hb, ⟨0, ?_⟩, by rw [hmb]; exact h3⟩, ?_, ?_, by omega, by omega, by omega, fun hh => ?_, fun hh => ?_⟩
    · have h1 := hown k hk
      have h2 := B2.out.size
      rw [h1, hg, hmb]
      exact ⟨h2, by omega⟩
    · rw [hmb]; exact ((MapIs.made intK opE v3).alloc _).alloc _
    · exact (blk_at hgb' 40 [_, _]).alloc _
    · exact blk_at hpb' 40 [_, _]
    · have h1 := hown _ hh; omega
    · have h1 := hown _ hh; omega
  rw [← hg, ← hmb, ← hgb, ← hpb]
  obtain ⟨V0, hV0⟩ : ∃ V0, V0 = ((v3.alloc (.map #[] 0)).alloc (.cells #[.string ⟨#[]⟩, .string ⟨#[]⟩] 40)).alloc (.cells #[.string ⟨#[]⟩, .string ⟨#[]⟩] 40) := ⟨_, rfl⟩
  rw [← hV0] at MM0
  rw [← hV0]
  clear hg hmb hgb hpb hV0 hmm
  have HLEN := Lib.hid hlen
  have HV0 : Hid (Ov 0 lim (fun _ => none) (G2 (bl ⟨#[]⟩) (bl ⟨#[]⟩)) (G2 (bl ⟨#[]⟩) (bl ⟨#[]⟩)) (newSt lim)) := Lib.hid ⟨Gd.new lim, (Bi.new lim hl1).1, (Bi.new lim hl1).2, rfl, (fun y hy => by cases hy), (fun e he => by rcases he with rfl | rfl <;> rfl), Nat.le_refl _⟩
  go_wp2_with fail
  go_loopg [38] l.length (fun k i wr => ∃ (m : Nat) (S : Sl) (st : St) (f : Int → Option Op) (g0 g1 p0 p1 : ByteArray), m + k = l.length ∧ i = .int .i64 m ∧ Mo w mb gb pb g m S st f g0 g1 p0 p1 wr ∧ Ov m lim f (G2 (bl g0) (bl g1)) (G2 (bl p0) (bl p1)) st)
  case atStart => exact ⟨0, nilSl, newSt lim, _, _, _, _, _, by omega, rfl, MM0.out, HV0.out⟩
  case round =>
    obtain ⟨m, S, st, f, g0, g1, p0, p1, hm, rfl, hM, hV⟩ := hrel
    have HM := Lib.hid hm
    have MM := Lib.hid hM
    have VV := Lib.hid hV
    clear hm hM hV
    by_cases hlt : m < l.length
    · obtain ⟨ab, off, cap, hab, hablt, hacs⟩ : ∃ ab off cap, Value.slice aa l.length ca0 = .slice (some ⟨ab, off, none⟩) l.length cap ∧ ab < w.heap.size ∧ ∀ i, i < l.length → AcAt w ab (off + i * 6) (l.getD i ac0) := by
        rw [← HSV.out]
        rcases HR.out with ⟨h0, _⟩ | ⟨b, off, cap, h1, _, _, h4, h5⟩
        · rw [h0] at hlt; exact absurd hlt (Nat.not_lt_zero _)
        · exact ⟨b, off, cap, h1, h4, h5⟩
      obtain ⟨rfl, rfl⟩ : aa = some ⟨ab, off, none⟩ ∧ ca0 = cap := by
        injection hab with h1 _ h3
        exact ⟨h1, h3⟩
      clear hab
      obtain ⟨x, hx⟩ : ∃ x, x = l.getD m ac0 := ⟨_, rfl⟩
      have hA := (hacs m hlt).below MM.out.mm.low hablt
      rw [← hx] at hA
      obtain ⟨c0, c1, c2, c3, c4, c5⟩ := hA
      have hablt' : ab < wr.heap.size := Nat.lt_of_lt_of_le hablt MM.out.mm.low.size
      have hd : x.op.data.size ≤ 9000 := by rw [hx]; exact HDAT.out _ (getA_mem hlt)
      by_cases hskip : x.kind = 3 ∨ x.kind = 4 ∨ x.kind = 6 ∨ x.kind = 7
      · obtain ⟨k, t, ⟨ok, of_, oc, od⟩⟩ := x
        simp only at c0 c1 c2 c3 c4 c5 hskip
        clear hx hd hacs
        rcases hskip with rfl | rfl | rfl | rfl
        all_goals
          go_wp2_with fail
          go_roundg (gk - 1)
          case measure => have := HM.out; omega
          case rel => exact ⟨m + 1, S, st, f, g0, g1, p0, p1, by have := HM.out; omega, by go_num, (MM.out.more (Nat.le_succ _)).below ((Below.refl _ _).alloc (Nat.le_refl _) _), ⟨VV.out.gd.mono (Nat.le_succ _), VV.out.bi, VV.out.nx, VV.out.ans, VV.out.tk, VV.out.bal, Nat.le_trans VV.out.sz (by omega)⟩⟩
      · have hk4 : x.kind ≠ 3 ∧ x.kind ≠ 4 ∧ x.kind ≠ 6 ∧ x.kind ≠ 7 := by omega
        have CD := Lib.hid (fun W (hb : Below wr.heap.size wr W) => Do_any x hd VV.out.gd (by have := HLEN.out; have := HM.out; omega) g S W (MM.out.mm.pipe.below hb))
        obtain ⟨hans, hfin, hro⟩ := VV.out.doR x hd hk4
        rw [hans] at CD
        have VV2 := Lib.hid (VV.out.next hl1 x hd hk4)
        have HANS := Lib.hid (show (doR st x).1.ans.length ≤ m + 1 from by have := (VV.out.gd.doR x hd).a; omega)
        have RO := Lib.hid hro
        have FIN := Lib.hid hfin
        clear hx hd hacs hskip hans hfin hro
        obtain ⟨k, t, ⟨ok, of_, oc, od⟩⟩ := x
        simp only at c0 c1 c2 c3 c4 c5 hk4
        obtain ⟨e3, e4, e6, e7⟩ := hk4
        have b3 : (k == 3) = false := by rw [beq_eq_false_iff_ne]; exact e3
        have b4 : (k == 4) = false := by rw [beq_eq_false_iff_ne]; exact e4
        have b6 : (k == 6) = false := by rw [beq_eq_false_iff_ne]; exact e6
        have b7 : (k == 7) = false := by rw [beq_eq_false_iff_ne]; exact e7
        have WS2 := Lib.hid (doR_ws st ⟨k, t, ⟨ok, of_, oc, od⟩⟩)
        clear e3 e4 e6 e7
        unfold acV at CD
        simp only at CD FIN
        generalize doR st ⟨k, t, ⟨ok, of_, oc, od⟩⟩ = r at *
        obtain ⟨st', ⟨num, txt, er, an⟩⟩ := r
        simp only at CD VV2 RO FIN WS2 HANS
        go_upto_block 2 with (go_at_call 18; refine (CD.out _ ?_).mono ?_; exact (Below.refl _ _).alloc (Nat.le_refl _) _; rintro e v4 ⟨rv, S4, rfl, R4, A4, P4, T4⟩; obtain ⟨ra, rc, rfl, _⟩ := R4.form; have M4 := Lib.hid ((MM.out.below ((Below.refl _ _).alloc (Nat.le_refl _) _)).turn T4 P4); have K4 := Lib.hid (T4.blk (Blk.new wr 44 [.int .i64 k, .int .i64 t, .int .i64 ok, .int .i64 of_, .int .i64 oc, .string od]) (fun hh => by have := MM.out.mm.pipe.lt hh; omega)); have HR4 := Lib.hid R4; have HA4 := Lib.hid A4; clear P4 T4 R4 A4; have q0 : v4.cell? ⟨wr.heap.size, 0, none⟩ = some (.int .i64 k) := K4.out.cell 0)
        obtain ⟨ab2, hab2⟩ : ∃ b2, b2 = wr.heap.size := ⟨_, rfl⟩
        obtain ⟨rb, hrb⟩ : ∃ rb, rb = v4.heap.size := ⟨_, rfl⟩
        obtain ⟨V5, hV5⟩ : ∃ V5, V5 = v4.alloc (.cells #[.int .i64 num, .string txt, .int .i64 er, .slice ra 0 rc] 47) := ⟨_, rfl⟩
        have hb5 : Below v4.heap.size v4 V5 := by rw [hV5]; exact (Below.refl _ _).alloc (Nat.le_refl _) _
        have K5 := Lib.hid (keepBlk hb5 K4.out)
        have L5 : Hid (Blk V5 rb 47 [.int .i64 num, .string txt, .int .i64 er, .slice ra 0 rc]) := by rw [hV5, hrb]; exact Lib.hid (Blk.new v4 47 [_, _, _, _])
        have M5 := Lib.hid (M4.out.below hb5)
        have R5 := Lib.hid (HR4.out.below hb5)
        rw [← hab2] at K5 K4 q0
        rw [← hV5, ← hab2, ← hrb]
        have HNRB : Hid (¬ S4.has g rb) := Lib.hid (fun hh => by have := M4.out.mm.pipe.lt hh; omega)
        have hw4 : w.heap.size ≤ rb := by rw [hrb]; exact M4.out.mm.low.size
        have hw5 : w.heap.size ≤ ab2 := by rw [hab2]; exact MM.out.mm.low.size
        clear hV5 hb5 q0 K4 M4 HR4 hab2 hrb c0 c1 c2 c3 c4 c5 b3 b4 b6 b7
        have q0 : V5.cell? ⟨ab2, 0, none⟩ = some (.int .i64 k) := K5.out.cell 0
        have q2 : V5.cell? ⟨ab2, 2, none⟩ = some (.int .i64 ok) := K5.out.cell 2
        have q3 : V5.cell? ⟨ab2, 3, none⟩ = some (.int .i64 of_) := K5.out.cell 3
        have q4 : V5.cell? ⟨ab2, 4, none⟩ = some (.int .i64 oc) := K5.out.cell 4
        have q5 : V5.cell? ⟨ab2, 5, none⟩ = some (.string od) := K5.out.cell 5
        have p0' : V5.cell? ⟨rb, 0, none⟩ = some (.int .i64 num) := L5.out.cell 0
        have p1' : V5.cell? ⟨rb, 1, none⟩ = some (.string txt) := L5.out.cell 1
        have p2' : V5.cell? ⟨rb, 2, none⟩ = some (.int .i64 er) := L5.out.cell 2
        obtain ⟨f2, hf2⟩ : ∃ f2, f2 = askF f ⟨k, t, ⟨ok, of_, oc, od⟩⟩ ⟨num, txt, er, an⟩ := ⟨_, rfl⟩
        rw [← hf2] at VV2 RO
        have HF2 := Lib.hid hf2
        clear hf2
        go_cut [] (fun wx => ∃ h0 h1 s0 s1 : ByteArray, Mo w mb gb pb g (m + 1) S4 st' f2 h0 h1 s0 s1 wx ∧ Blk wx rb 47 [.int .i64 num, .string txt, .int .i64 er, .slice ra 0 rc] ∧ Row wx 51 4 (.slice ra 0 rc) ([] : List An).length (ansC []) ∧ addG (G2 (bl g0) (bl g1)) ⟨k, t, ⟨ok, of_, oc, od⟩⟩ ⟨num, txt, er, an⟩ = G2 (bl h0) (bl h1) ∧ addP (G2 (bl p0) (bl p1)) ⟨k, t, ⟨ok, of_, oc, od⟩⟩ ⟨num, txt, er, an⟩ = G2 (bl s0) (bl s1))
        case first =>
          go_upto_region 15 with fail
          go_cut [63] (fun c wx => c = .bool (decide (k = 0 ∧ er = 0)) ∧ wx = V5)
          case first =>
            by_cases hk : k = 0
            · subst hk
              by_cases he : er = 0
              · subst he
                go_wp2_with fail
                go_meet
                exact ⟨rfl, rfl⟩
              · have he1 : (er == 0) = false := by rw [beq_eq_false_iff_ne]; exact he
                have HD : Hid (decide ((0 : Int) = 0 ∧ er = 0) = false) := Lib.hid (decide_eq_false fun h => he h.2)
                clear he
                go_wp2_with fail
                go_meet
                exact ⟨by rw [HD.out], rfl⟩
            · have hk1 : (k == 0) = false := by rw [beq_eq_false_iff_ne]; exact hk
              have HD : Hid (decide (k = 0 ∧ er = 0) = false) := Lib.hid (decide_eq_false fun h => hk h.1)
              clear hk
              go_wp2_with fail
              go_meet
              exact ⟨by rw [HD.out], rfl⟩
          case rest =>
            obtain ⟨rfl, rfl⟩ := hcut
            go_upto_if 63 with fail
            by_cases hask : k = 0 ∧ er = 0
            · obtain ⟨rfl, rfl⟩ := hask
              obtain ⟨cm, hmap⟩ := M5.out.mm.map
              have HMAP := Lib.hid hmap
              have hnum : num = st.tks + 1 := by
                rcases WS2.out with ⟨_, _, h, _⟩ | ⟨h, _⟩
                · exact h
                · exact absurd ⟨rfl, rfl⟩ h
              have hwf : (Lit.int .i64 num).wf = true := WalkArith.wf_i64 (by have := VV.out.gd.t0; have := VV.out.gd.t1; have := HM.out; have := HLEN.out; omega)
              have hml : m < maxLen := by have := HM.out; have := HLEN.out; unfold maxLen; omega
              have HA : Hid (f2 = upd f num ⟨ok, of_, oc, od⟩) := Lib.hid (by rw [HF2.out]; unfold askF; rw [if_pos ⟨rfl, rfl⟩])
              rw [show decide ((0 : Int) = 0 ∧ (0 : Int) = 0) = true from rfl]
              clear hmap hnum
              go_wp2_with (at_mapUpdate; refine wp_store (KC := intK) (E := opE) rfl _ _ _ 39 rfl 42 HMAP.out Try.underlying39 hml num hwf ⟨ok, of_, oc, od⟩ rfl rfl rfl ?_; intro w6 hm6 hg6)
              go_meet
              rw [HA.out]
              exact ⟨g0, g1, p0, p1, M5.out.store hm6 hg6, L5.out.grownMap HMAP.out hg6, R5.out.grownMap HMAP.out hg6, addG_not (fun hh => absurd (show (0 : Int) = 1 from hh.1) (by decide)), addP_not (fun hh => absurd (show (0 : Int) = 1 from hh.1) (by decide))⟩
            · have HD : Hid (decide (k = 0 ∧ er = 0) = false) := Lib.hid (decide_eq_false hask)
              have HA : Hid (f2 = f) := Lib.hid (by rw [HF2.out]; unfold askF; rw [if_neg hask])
              rw [HD.out]
              have M6 := Lib.hid (M5.out.more (n' := m + 1) (Nat.le_succ _))
              clear hask HD M5
              by_cases hn1 : k = 1 ∧ er = 0
              · obtain ⟨rfl, rfl⟩ := hn1
                have hz : (addG (G2 (bl g0) (bl g1)) ⟨1, t, ⟨ok, of_, oc, od⟩⟩ ⟨num, txt, 0, an⟩ 0).length ≤ 600000 ∧ (addG (G2 (bl g0) (bl g1)) ⟨1, t, ⟨ok, of_, oc, od⟩⟩ ⟨num, txt, 0, an⟩ 1).length ≤ 600000 ∧ (addP (G2 (bl p0) (bl p1)) ⟨1, t, ⟨ok, of_, oc, od⟩⟩ ⟨num, txt, 0, an⟩ 0).length ≤ 600000 ∧ (addP (G2 (bl p0) (bl p1)) ⟨1, t, ⟨ok, of_, oc, od⟩⟩ ⟨num, txt, 0, an⟩ 1).length ≤ 600000 := by
                  have h0 := congrArg List.length (RO.out.bal 0 (.inl rfl))
                  have h1 := congrArg List.length (RO.out.bal 1 (.inr rfl))
                  have h2 := RO.out.sz
                  simp only [List.length_append, Int.sub_zero, Int.sub_self] at h0 h1
                  have := HM.out; have := HLEN.out
                  omega
                have g00 : w = w := rfl
                obtain ⟨hz0, hz1, hz2, hz3⟩ := hz
                have hin := FIN.out ⟨rfl, rfl⟩
                clear g00
                have x0 : wc.cell? ⟨gb, 0, none⟩ = some (.string g0) := M6.out.got.cell 0
                have x1 : wc.cell? ⟨gb, 1, none⟩ = some (.string g1) := M6.out.got.cell 1
                have y0 : wc.cell? ⟨pb, 0, none⟩ = some (.string p0) := M6.out.put.cell 0
                have y1 : wc.cell? ⟨pb, 1, none⟩ = some (.string p1) := M6.out.put.cell 1
                have xf0 := M6.out.got.frozen 0
                have xf1 := M6.out.got.frozen 1
                have yf0 := M6.out.put.frozen 0
                have yf1 := M6.out.put.frozen 1
                by_cases ho : ok = 0
                · subst ho
                  rcases hin with rfl | rfl
                  · as_aux_lemma =>
                    have hsz : g0.size + txt.size ≤ 600000 := by
                      have e := congrFun (addG0 (bl g0) (bl g1) t oc num od txt an) 0
                      rw [e] at hz0
                      have h2 : (bl g0 ++ bl txt).length ≤ 600000 := hz0
                      rw [List.length_append, bl_len, bl_len] at h2
                      exact h2
                    clear hz0 hz1 hz2 hz3
                    go_upto_region 18 with fail
                    go_region
                    go_wp2_with fail
                    go_meet
                    rw [HA.out]
                    exact ⟨g0 ++ txt, g1, p0, p1, (M6.out.setG0 (g0 ++ txt)).below ((Below.refl _ _).drew), keepBlk ((Below.refl _ _).drew) (L5.out.far (p := ⟨gb, 0, none⟩) (L5.out.neT M6.out.got (by decide)) _), (R5.out.set_ (p := ⟨gb, 0, none⟩) (R5.out.ne M6.out.got (by decide)) _).below ((Below.refl _ _).drew), by rw [bl_append]; exact addG0 _ _ _ _ _ _ _ _, (addP_not (fun hh => hh.2.2 rfl))⟩
                  · as_aux_lemma =>
                    have hsz : g1.size + txt.size ≤ 600000 := by
                      have e := congrFun (addG1 (bl g0) (bl g1) t oc num od txt an) 1
                      rw [e] at hz1
                      have h2 : (bl g1 ++ bl txt).length ≤ 600000 := hz1
                      rw [List.length_append, bl_len, bl_len] at h2
                      exact h2
                    clear hz0 hz1 hz2 hz3
                    go_upto_region 18 with fail
                    go_region
                    go_wp2_with fail
                    go_meet
                    rw [HA.out]
                    exact ⟨g0, g1 ++ txt, p0, p1, (M6.out.setG1 (g1 ++ txt)).below ((Below.refl _ _).drew), keepBlk ((Below.refl _ _).drew) (L5.out.far (p := ⟨gb, 1, none⟩) (L5.out.neT M6.out.got (by decide)) _), (R5.out.set_ (p := ⟨gb, 1, none⟩) (R5.out.ne M6.out.got (by decide)) _).below ((Below.refl _ _).drew), by rw [bl_append]; exact addG1 _ _ _ _ _ _ _ _, (addP_not (fun hh => hh.2.2 rfl))⟩
                · have hob : (ok == 0) = false := by rw [beq_eq_false_iff_ne]; exact ho
                  rcases hin with rfl | rfl
                  · as_aux_lemma =>
                    have hsz : p0.size + od.size ≤ 600000 := by
                      have e := congrFun (addP0 (bl p0) (bl p1) t ok oc num ho od txt an) 0
                      rw [e] at hz2
                      have h2 : (bl p0 ++ bl od).length ≤ 600000 := hz2
                      rw [List.length_append, bl_len, bl_len] at h2
                      exact h2
                    clear hz0 hz1 hz2 hz3
                    go_upto_region 20 with fail
                    go_region
                    go_wp2_with fail
                    go_meet
                    rw [HA.out]
                    exact ⟨g0, g1, p0 ++ od, p1, (M6.out.setP0 (p0 ++ od)).below ((Below.refl _ _).drew), keepBlk ((Below.refl _ _).drew) (L5.out.far (p := ⟨pb, 0, none⟩) (L5.out.neT M6.out.put (by decide)) _), (R5.out.set_ (p := ⟨pb, 0, none⟩) (R5.out.ne M6.out.put (by decide)) _).below ((Below.refl _ _).drew), (addG_not (fun hh => ho hh.2.2)), by rw [bl_append]; exact addP0 _ _ _ _ _ _ ho _ _ _⟩
                  · as_aux_lemma =>
                    have hsz : p1.size + od.size ≤ 600000 := by
                      have e := congrFun (addP1 (bl p0) (bl p1) t ok oc num ho od txt an) 1
                      rw [e] at hz3
                      have h2 : (bl p1 ++ bl od).length ≤ 600000 := hz3
                      rw [List.length_append, bl_len, bl_len] at h2
                      exact h2
                    clear hz0 hz1 hz2 hz3
                    go_upto_region 20 with fail
                    go_region
                    go_wp2_with fail
                    go_meet
                    rw [HA.out]
                    exact ⟨g0, g1, p0, p1 ++ od, (M6.out.setP1 (p1 ++ od)).below ((Below.refl _ _).drew), keepBlk ((Below.refl _ _).drew) (L5.out.far (p := ⟨pb, 1, none⟩) (L5.out.neT M6.out.put (by decide)) _), (R5.out.set_ (p := ⟨pb, 1, none⟩) (R5.out.ne M6.out.put (by decide)) _).below ((Below.refl _ _).drew), (addG_not (fun hh => ho hh.2.2)), by rw [bl_append]; exact addP1 _ _ _ _ _ _ ho _ _ _⟩
              · have hc : decide (k = 1 ∧ er = 0) = false := decide_eq_false hn1
                have HN := Lib.hid hn1
                clear hc hn1
                by_cases hk : k = 1
                · subst hk
                  have he1 : (er == 0) = false := by rw [beq_eq_false_iff_ne]; exact fun h => HN.out ⟨rfl, h⟩
                  go_wp2_with fail
                  go_meet
                  rw [HA.out]
                  exact ⟨g0, g1, p0, p1, M6.out, L5.out, R5.out, addG_not (fun hh => HN.out ⟨by first | exact hh.1 | trivial, hh.2.1⟩), addP_not (fun hh => HN.out ⟨by first | exact hh.1 | trivial, hh.2.1⟩)⟩
                · have hk1 : (k == 1) = false := by rw [beq_eq_false_iff_ne]; exact hk
                  clear hk
                  go_wp2_with fail
                  go_meet
                  rw [HA.out]
                  exact ⟨g0, g1, p0, p1, M6.out, L5.out, R5.out, addG_not (fun hh => HN.out ⟨by first | exact hh.1 | trivial, hh.2.1⟩), addP_not (fun hh => HN.out ⟨by first | exact hh.1 | trivial, hh.2.1⟩)⟩
        case rest =>
          obtain ⟨h0, h1, s0, s1, hM6, hL6, hR6, hAG, hAP⟩ := hcut
          rw [hAG, hAP] at VV2 RO
          obtain ⟨V8, hV8⟩ : ∃ V8, V8 = wc := ⟨_, rfl⟩
          rw [← hV8] at hM6 hL6 hR6
          rw [← hV8]
          have M8 := Lib.hid hM6
          have L8 := Lib.hid hL6
          have R8 := Lib.hid hR6
          clear hM6 hL6 hR6 hAG hAP hV8 q0 q2 q3 q4 q5 p0' p1' p2' K5 L5 M5 R5
          have hAL : st'.ans.length ≤ 61 := by have := VV2.out.gd.q; have h1 := RO.out; have := HM.out; have := HLEN.out; exact Nat.le_trans HANS.out (by omega)
          obtain ⟨ba, bc, hsa, _⟩ := M8.out.mm.pipe.ra.form
          have CS := Lib.hid (fun W (hb : Below V8.heap.size V8 W) => Answers_any g S4 st' W (M8.out.mm.pipe.below hb))
          rw [hsa] at CS
          have OWN : Hid (∀ k, (Value.slice ra 0 rc).ownBlock = some k → w.heap.size ≤ k ∧ k ≠ mb ∧ ¬ S4.has g k ∧ k ≠ gb ∧ k ≠ pb) := Lib.hid (fun k hk => by
            obtain ⟨h1, h2⟩ := HA4.out k hk
            obtain ⟨h3, h4⟩ := MM.out.mm.own k h1
            exact ⟨h3, h4, h2, fun e => MM.out.ng (e ▸ h1), fun e => MM.out.np (e ▸ h1)⟩)
          have p3 : V8.cell? ⟨rb, 3, none⟩ = some (.slice ra 0 rc) := L8.out.cell 3
          clear hsa
          go_upto_region 21 with fail
          go_cut [124, 125, 126] (fun a b c wx => ∃ (sa : Option Addr) (sc : Nat), a = .slice sa st'.ans.length sc ∧ b = .int .i64 (st'.ans.length : Nat) ∧ c = .int .i64 0 ∧ Mo w mb gb pb g (m + 1) ⟨S4.s0, S4.s1, S4.sw, .slice none 0 0⟩ (taken st') f2 h0 h1 s0 s1 wx ∧ Row wx 51 4 (.slice sa st'.ans.length sc) st'.ans.length (ansC st'.ans))
          case first =>
            go_region_with (go_at_call 19; refine (CS.out _ ((Below.refl _ _).drew)).mono ?_; rintro e v9 ⟨rfl, R9, P9, T9, _⟩; obtain ⟨sa, sc, w10, hrun, hM10, hR10, _, _⟩ := take_append (M8.out.below ((Below.refl _ _).drew)) (R8.out.below ((Below.refl _ _).drew)) OWN.out (by omega) R9 P9 T9; rw [run_appSem] at hrun; have M10 := Lib.hid hM10; have R10 := Lib.hid hR10; have y3 : v9.cell? ⟨rb, 3, none⟩ = some (.slice ra 0 rc) := (T9.blk (keepBlk ((Below.refl _ _).drew) L8.out) HNRB.out).cell 3; clear R9 P9 T9 hM10 hR10)
            all_goals
              go_wp2_with fail
              go_meet
              exact ⟨_, _, rfl, rfl, rfl, M10.out, R10.out⟩
          case rest =>
            obtain ⟨sa, sc, rfl, rfl, rfl, hM11, hR11⟩ := hcut
            have M11 := Lib.hid hM11
            have R11 := Lib.hid hR11
            have HGB : Hid (∀ e, e = 0 ∨ e = 1 → (G2 (bl h0) (bl h1) e).length + (Ra f2 st'.ans e).length ≤ 600000) := Lib.hid (fun e he => by
              have h := congrArg List.length (RO.out.bal e he)
              have h2 := RO.out.sz
              simp only [List.length_append] at h
              have := HM.out; have := HLEN.out
              rcases he with rfl | rfl <;> simp only [Int.sub_zero, Int.sub_self] at h <;> omega)
            have HPB : Hid (∀ e, e = 0 ∨ e = 1 → (G2 (bl s0) (bl s1) e).length + (Wa f2 st'.ans e).length ≤ 600000) := Lib.hid (fun e he => by
              have h2 := RO.out.sz
              have := HM.out; have := HLEN.out
              rcases he with rfl | rfl <;> omega)
            clear hM11 hR11 p3 M8 L8 R8 CS
            obtain ⟨gko, hgko⟩ : ∃ x, x = gk := ⟨_, rfl⟩
            go_wp2_with fail
            go_loopg [126] st'.ans.length (fun k i wr2 => ∃ (j : Nat) (a0 a1 b0 b1 : ByteArray), j + k = st'.ans.length ∧ i = .int .i64 j ∧ Mo w mb gb pb g (m + 1) ⟨S4.s0, S4.s1, S4.sw, .slice none 0 0⟩ (taken st') f2 a0 a1 b0 b1 wr2 ∧ Row wr2 51 4 (.slice sa st'.ans.length sc) st'.ans.length (ansC st'.ans) ∧ (∀ e, e = 0 ∨ e = 1 → G2 (bl a0) (bl a1) e = G2 (bl h0) (bl h1) e ++ Ra f2 (st'.ans.take j) e) ∧ (∀ e, e = 0 ∨ e = 1 → G2 (bl b0) (bl b1) e = G2 (bl s0) (bl s1) e ++ Wa f2 (st'.ans.take j) e))
            case atStart => exact ⟨0, h0, h1, s0, s1, by omega, rfl, M11.out, R11.out, fun e _ => by rw [List.take_zero, Ra_nil, List.append_nil], fun e _ => by rw [List.take_zero, Wa_nil, List.append_nil]⟩
            case round =>
              obtain ⟨j, a0, a1, b0, b1, hj, rfl, hM9, hR9, hGA, hPA⟩ := hrel
              have HJ := Lib.hid hj
              have M9 := Lib.hid hM9
              have R9 := Lib.hid hR9
              have HGA := Lib.hid hGA
              have HPA := Lib.hid hPA
              clear hj hM9 hR9 hGA hPA M11 R11
              by_cases hjl : j < st'.ans.length
              · obtain ⟨a, ha⟩ : ∃ a, a = st'.ans.getD j anZ := ⟨_, rfl⟩
                obtain ⟨x, hfx, hin, herr, hcn, hct, ht1, ht2⟩ := RO.out.good a (mem_an hjl ha)
                have htake := take_an hjl ha
                obtain ⟨gb2, off2, cap2, hta, _, _, _, hcl, _⟩ := R9.out.open (by omega)
                obtain ⟨rfl, rfl⟩ : sa = some ⟨gb2, off2, none⟩ ∧ sc = cap2 := by
                  injection hta with h1 _ h3
                  exact ⟨h1, h3⟩
                obtain ⟨c0, c1, c2, c3⟩ := an_cells hcl hjl a ha
                have HF := Lib.hid hfx
                have HT := Lib.hid htake
                have hwf : (Lit.int .i64 a.tk).wf = true := WalkArith.wf_i64 (by have := HM.out; have := HLEN.out; omega)
                clear ha hfx htake hta hcl ht1 ht2
                obtain ⟨at_, ac_, ad, ae⟩ := a
                obtain ⟨xk, xf, xc, xd⟩ := x
                simp only at c0 c1 c2 c3 herr hcn hct hwf HF hin
                subst herr
                obtain ⟨hkk, hff⟩ := hin
                simp only at hkk hff
                go_upto_region 24 with fail
                obtain ⟨W1, hW1⟩ : ∃ W1, W1 = wr.alloc (.cells #[.int .i64 at_, .int .i64 ac_, .string ad, .int .i64 0] 51) := ⟨_, rfl⟩
                obtain ⟨yb, hyb⟩ : ∃ yb, yb = wr.heap.size := ⟨_, rfl⟩
                have KY : Hid (Blk W1 yb 51 [.int .i64 at_, .int .i64 ac_, .string ad, .int .i64 0]) := by rw [hW1, hyb]; exact Lib.hid (Blk.new wr 51 [_, _, _, _])
                have BW : Hid (Below wr.heap.size wr W1) := by rw [hW1]; exact Lib.hid ((Below.refl _ _).alloc (Nat.le_refl _) _)
                rw [← hW1, ← hyb]
                clear hW1 hyb c0 c1 c2 c3
                have M10 := Lib.hid (M9.out.below BW.out)
                have R10 := Lib.hid (R9.out.below BW.out)
                obtain ⟨cm, hmap⟩ := M10.out.mm.map
                have hlk := look_op1 hmap at_ hwf xk xf xc xd HF.out
                have y0 : W1.cell? ⟨yb, 0, none⟩ = some (.int .i64 at_) := KY.out.cell 0
                clear hmap
                go_upto_region 25 with fail
                clear hlk y0
                obtain ⟨W3, hW3⟩ : ∃ W3, W3 = W1.alloc (.cells #[.int .i64 xk, .int .i64 xf, .int .i64 xc, .string xd] 42) := ⟨_, rfl⟩
                obtain ⟨ob, hob⟩ : ∃ ob, ob = W1.heap.size := ⟨_, rfl⟩
                have KO : Hid (Blk W3 ob 42 [.int .i64 xk, .int .i64 xf, .int .i64 xc, .string xd]) := by rw [hW3, hob]; exact Lib.hid (Blk.new W1 42 [_, _, _, _])
                have BW3 : Hid (Below W1.heap.size W1 W3) := by rw [hW3]; exact Lib.hid ((Below.refl _ _).alloc (Nat.le_refl _) _)
                rw [← hW3, ← hob]
                clear hW3 hob
                have M9 := Lib.hid (M10.out.below BW3.out)
                have R9 := Lib.hid (R10.out.below BW3.out)
                have KY3 := Lib.hid (keepBlk BW3.out KY.out)
                have y0 : W3.cell? ⟨yb, 0, none⟩ = some (.int .i64 at_) := KY3.out.cell 0
                have y1 : W3.cell? ⟨yb, 1, none⟩ = some (.int .i64 ac_) := KY3.out.cell 1
                have y2 : W3.cell? ⟨yb, 2, none⟩ = some (.string ad) := KY3.out.cell 2
                have y3 : W3.cell? ⟨yb, 3, none⟩ = some (.int .i64 0) := KY3.out.cell 3
                have o0 : W3.cell? ⟨ob, 0, none⟩ = some (.int .i64 xk) := KO.out.cell 0
                have o1 : W3.cell? ⟨ob, 1, none⟩ = some (.int .i64 xf) := KO.out.cell 1
                have o2 : W3.cell? ⟨ob, 2, none⟩ = some (.int .i64 xc) := KO.out.cell 2
                have o3 : W3.cell? ⟨ob, 3, none⟩ = some (.string xd) := KO.out.cell 3
                have x0 : W3.cell? ⟨gb, 0, none⟩ = some (.string a0) := M9.out.got.cell 0
                have x1 : W3.cell? ⟨gb, 1, none⟩ = some (.string a1) := M9.out.got.cell 1
                have z0 : W3.cell? ⟨pb, 0, none⟩ = some (.string b0) := M9.out.put.cell 0
                have z1 : W3.cell? ⟨pb, 1, none⟩ = some (.string b1) := M9.out.put.cell 1
                have xf0 := M9.out.got.frozen 0
                have xf1 := M9.out.got.frozen 1
                have zf0 := M9.out.put.frozen 0
                have zf1 := M9.out.put.frozen 1
                clear KY KO M10 R10
                rcases hkk with rfl | rfl
                · have hdc : decide (xc < (ad.size : Int)) = false := decide_eq_false (by have := hct rfl; omega)
                  clear hcn hct
                  rcases hff with rfl | rfl
                  · as_aux_lemma =>
                    have HRD : Hid (∀ e, rdA f2 e ⟨at_, ac_, ad, 0⟩ = rdL (⟨0, 0, xc, xd⟩ : Op) ad e) := Lib.hid (fun e => by unfold rdA; rw [HF.out])
                    have HWR : Hid (∀ e, wrA f2 e ⟨at_, ac_, ad, 0⟩ = wrL (⟨0, 0, xc, xd⟩ : Op) e) := Lib.hid (fun e => by unfold wrA; rw [HF.out])
                    have HG : Hid (∀ e, e = 0 ∨ e = 1 → G2 (bl (a0 ++ ad)) (bl (a1)) e = G2 (bl h0) (bl h1) e ++ Ra f2 (st'.ans.take (j + 1)) e) := Lib.hid (fun e he => by
                      rw [HT.out, Ra_snoc, HRD.out, ← List.append_assoc, ← HGA.out e he]
                      try rw [bl_append]
                      rcases he with rfl | rfl <;> simp [G2, rdL])
                    have HP : Hid (∀ e, e = 0 ∨ e = 1 → G2 (bl (b0)) (bl (b1)) e = G2 (bl s0) (bl s1) e ++ Wa f2 (st'.ans.take (j + 1)) e) := Lib.hid (fun e he => by
                      rw [HT.out, Wa_snoc, HWR.out, ← List.append_assoc, ← HPA.out e he]
                      try rw [bl_append]
                      rcases he with rfl | rfl <;> simp [G2, wrL])
                    have hsz : a0.size + ad.size ≤ 600000 := by
                      have h := congrArg List.length (HG.out 0 (by decide))
                      have h2 := HGB.out 0 (by decide)
                      have h3 := Ra_take_len f2 st'.ans (j + 1) 0
                      have e1 : (G2 (bl (a0 ++ ad)) (bl (a1)) 0).length = a0.size + ad.size := by
                        show (bl (a0 ++ ad)).length = _
                        rw [bl_append, List.length_append, bl_len, bl_len]
                      rw [e1, List.length_append] at h
                      omega
                    go_upto_region 28 with fail
                    go_region
                    go_wp2_with fail
                    go_roundg (gk - 1)
                    case measure => have := HJ.out; omega
                    case rel =>
                      exact ⟨j + 1, a0 ++ ad, a1, b0, b1, by have := HJ.out; omega, by go_num, (M9.out.setG0 (a0 ++ ad)).below ((Below.refl _ _).drew), (R9.out.set_ (p := ⟨gb, 0, none⟩) (R9.out.ne M9.out.got (by decide)) _).below ((Below.refl _ _).drew), HG.out, HP.out⟩
                  · as_aux_lemma =>
                    have HRD : Hid (∀ e, rdA f2 e ⟨at_, ac_, ad, 0⟩ = rdL (⟨0, 1, xc, xd⟩ : Op) ad e) := Lib.hid (fun e => by unfold rdA; rw [HF.out])
                    have HWR : Hid (∀ e, wrA f2 e ⟨at_, ac_, ad, 0⟩ = wrL (⟨0, 1, xc, xd⟩ : Op) e) := Lib.hid (fun e => by unfold wrA; rw [HF.out])
                    have HG : Hid (∀ e, e = 0 ∨ e = 1 → G2 (bl (a0)) (bl (a1 ++ ad)) e = G2 (bl h0) (bl h1) e ++ Ra f2 (st'.ans.take (j + 1)) e) := Lib.hid (fun e he => by
                      rw [HT.out, Ra_snoc, HRD.out, ← List.append_assoc, ← HGA.out e he]
                      try rw [bl_append]
                      rcases he with rfl | rfl <;> simp [G2, rdL])
                    have HP : Hid (∀ e, e = 0 ∨ e = 1 → G2 (bl (b0)) (bl (b1)) e = G2 (bl s0) (bl s1) e ++ Wa f2 (st'.ans.take (j + 1)) e) := Lib.hid (fun e he => by
                      rw [HT.out, Wa_snoc, HWR.out, ← List.append_assoc, ← HPA.out e he]
                      try rw [bl_append]
                      rcases he with rfl | rfl <;> simp [G2, wrL])
                    have hsz : a1.size + ad.size ≤ 600000 := by
                      have h := congrArg List.length (HG.out 1 (by decide))
                      have h2 := HGB.out 1 (by decide)
                      have h3 := Ra_take_len f2 st'.ans (j + 1) 1
                      have e1 : (G2 (bl (a0)) (bl (a1 ++ ad)) 1).length = a1.size + ad.size := by
                        show (bl (a1 ++ ad)).length = _
                        rw [bl_append, List.length_append, bl_len, bl_len]
                      rw [e1, List.length_append] at h
                      omega
                    go_upto_region 28 with fail
                    go_region
                    go_wp2_with fail
                    go_roundg (gk - 1)
                    case measure => have := HJ.out; omega
                    case rel =>
                      exact ⟨j + 1, a0, a1 ++ ad, b0, b1, by have := HJ.out; omega, by go_num, (M9.out.setG1 (a1 ++ ad)).below ((Below.refl _ _).drew), (R9.out.set_ (p := ⟨gb, 1, none⟩) (R9.out.ne M9.out.got (by decide)) _).below ((Below.refl _ _).drew), HG.out, HP.out⟩
                · obtain rfl := hcn rfl
                  clear hcn hct
                  rcases hff with rfl | rfl
                  · as_aux_lemma =>
                    have HRD : Hid (∀ e, rdA f2 e ⟨at_, (xd.size : Int), ad, 0⟩ = rdL (⟨1, 0, xc, xd⟩ : Op) ad e) := Lib.hid (fun e => by unfold rdA; rw [HF.out])
                    have HWR : Hid (∀ e, wrA f2 e ⟨at_, (xd.size : Int), ad, 0⟩ = wrL (⟨1, 0, xc, xd⟩ : Op) e) := Lib.hid (fun e => by unfold wrA; rw [HF.out])
                    have HG : Hid (∀ e, e = 0 ∨ e = 1 → G2 (bl (a0)) (bl (a1)) e = G2 (bl h0) (bl h1) e ++ Ra f2 (st'.ans.take (j + 1)) e) := Lib.hid (fun e he => by
                      rw [HT.out, Ra_snoc, HRD.out, ← List.append_assoc, ← HGA.out e he]
                      try rw [bl_append]
                      rcases he with rfl | rfl <;> simp [G2, rdL])
                    have HP : Hid (∀ e, e = 0 ∨ e = 1 → G2 (bl (b0 ++ xd)) (bl (b1)) e = G2 (bl s0) (bl s1) e ++ Wa f2 (st'.ans.take (j + 1)) e) := Lib.hid (fun e he => by
                      rw [HT.out, Wa_snoc, HWR.out, ← List.append_assoc, ← HPA.out e he]
                      try rw [bl_append]
                      rcases he with rfl | rfl <;> simp [G2, wrL])
                    have hsz : b0.size + xd.size ≤ 600000 := by
                      have h := congrArg List.length (HP.out 0 (by decide))
                      have h2 := HPB.out 0 (by decide)
                      have h3 := Wa_take_len f2 st'.ans (j + 1) 0
                      have e1 : (G2 (bl (b0 ++ xd)) (bl (b1)) 0).length = b0.size + xd.size := by
                        show (bl (b0 ++ xd)).length = _
                        rw [bl_append, List.length_append, bl_len, bl_len]
                      rw [e1, List.length_append] at h
                      omega
                    go_upto_region 29 with fail
                    go_region
                    go_wp2_with fail
                    go_roundg (gk - 1)
                    case measure => have := HJ.out; omega
                    case rel =>
                      exact ⟨j + 1, a0, a1, b0 ++ xd, b1, by have := HJ.out; omega, by go_num, (M9.out.setP0 (b0 ++ xd)).below ((Below.refl _ _).drew), (R9.out.set_ (p := ⟨pb, 0, none⟩) (R9.out.ne M9.out.put (by decide)) _).below ((Below.refl _ _).drew), HG.out, HP.out⟩
                  · as_aux_lemma =>
                    have HRD : Hid (∀ e, rdA f2 e ⟨at_, (xd.size : Int), ad, 0⟩ = rdL (⟨1, 1, xc, xd⟩ : Op) ad e) := Lib.hid (fun e => by unfold rdA; rw [HF.out])
                    have HWR : Hid (∀ e, wrA f2 e ⟨at_, (xd.size : Int), ad, 0⟩ = wrL (⟨1, 1, xc, xd⟩ : Op) e) := Lib.hid (fun e => by unfold wrA; rw [HF.out])
                    have HG : Hid (∀ e, e = 0 ∨ e = 1 → G2 (bl (a0)) (bl (a1)) e = G2 (bl h0) (bl h1) e ++ Ra f2 (st'.ans.take (j + 1)) e) := Lib.hid (fun e he => by
                      rw [HT.out, Ra_snoc, HRD.out, ← List.append_assoc, ← HGA.out e he]
                      try rw [bl_append]
                      rcases he with rfl | rfl <;> simp [G2, rdL])
                    have HP : Hid (∀ e, e = 0 ∨ e = 1 → G2 (bl (b0)) (bl (b1 ++ xd)) e = G2 (bl s0) (bl s1) e ++ Wa f2 (st'.ans.take (j + 1)) e) := Lib.hid (fun e he => by
                      rw [HT.out, Wa_snoc, HWR.out, ← List.append_assoc, ← HPA.out e he]
                      try rw [bl_append]
                      rcases he with rfl | rfl <;> simp [G2, wrL])
                    have hsz : b1.size + xd.size ≤ 600000 := by
                      have h := congrArg List.length (HP.out 1 (by decide))
                      have h2 := HPB.out 1 (by decide)
                      have h3 := Wa_take_len f2 st'.ans (j + 1) 1
                      have e1 : (G2 (bl (b0)) (bl (b1 ++ xd)) 1).length = b1.size + xd.size := by
                        show (bl (b1 ++ xd)).length = _
                        rw [bl_append, List.length_append, bl_len, bl_len]
                      rw [e1, List.length_append] at h
                      omega
                    go_upto_region 29 with fail
                    go_region
                    go_wp2_with fail
                    go_roundg (gk - 1)
                    case measure => have := HJ.out; omega
                    case rel =>
                      exact ⟨j + 1, a0, a1, b0, b1 ++ xd, by have := HJ.out; omega, by go_num, (M9.out.setP1 (b1 ++ xd)).below ((Below.refl _ _).drew), (R9.out.set_ (p := ⟨pb, 1, none⟩) (R9.out.ne M9.out.put (by decide)) _).below ((Below.refl _ _).drew), HG.out, HP.out⟩
              · obtain rfl : j = st'.ans.length := by have := HJ.out; omega
                have HG1 : Hid (∀ e, e = 0 ∨ e = 1 → G2 (bl a0) (bl a1) e = G2 (bl h0) (bl h1) e ++ Ra f2 st'.ans e) := Lib.hid (fun e he => by have h := HGA.out e he; rw [List.take_length] at h; exact h)
                have HP1 : Hid (∀ e, e = 0 ∨ e = 1 → G2 (bl b0) (bl b1) e = G2 (bl s0) (bl s1) e ++ Wa f2 st'.ans e) := Lib.hid (fun e he => by have h := HPA.out e he; rw [List.take_length] at h; exact h)
                clear hjl
                go_wp2_with fail
                go_roundg (gko - 1)
                case measure => have := HM.out; omega
                case rel =>
                  refine ⟨m + 1, _, taken st', f2, a0, a1, b0, b1, by have := HM.out; omega, by go_num, M9.out, VV2.out.gd, VV2.out.bi, VV2.out.nx, VV2.out.ans, VV2.out.tk, fun e he => ?_, ?_⟩
                  · rw [HG1.out e he, HP1.out (1 - e) (by rcases he with rfl | rfl <;> decide)]
                    exact VV2.out.bal e he
                  · rw [HP1.out 0 (.inl rfl), HP1.out 1 (.inr rfl)]
                    exact VV2.out.sz
    · obtain rfl : m = l.length := by have := HM.out; omega
      clear hlt
      go_wp2_with fail
      go_loopg [184] 2 (fun k i wr2 => ∃ (q : Nat), q + k = 2 ∧ i = .int .i64 q ∧ Mo w mb gb pb g l.length S st f g0 g1 p0 p1 wr2)
      case atStart => exact ⟨0, rfl, rfl, MM.out⟩
      case round =>
        obtain ⟨q, hq, rfl, hM9⟩ := hrel
        have HQ := Lib.hid hq
        have M9 := Lib.hid hM9
        clear hq hM9 MM
        rcases (show q = 0 ∨ q = 1 ∨ q = 2 by have := HQ.out; omega) with rfl | rfl | rfl
        · as_aux_lemma =>
          obtain ⟨hp, hz⟩ := VV.out.bi.qAt hl1 0
          have hbal := VV.out.bal 0 (by decide)
          have CB := Lib.hid (fun W (hb : Below wr.heap.size wr W) => Blocks_any 0 g S st W (M9.out.mm.pipe.below hb) (VV.out.gd.sm (by have := HLEN.out; omega)))
          have hql : (qAt st 0).length ≤ 100000 := by have := VV.out.gd.q; have := HLEN.out; unfold qAt; split; omega; split; omega; exact Nat.zero_le _
          have hqz : sizes (qAt st 0) ≤ 1000000000000 := by omega
          have CJ := Lib.hid (fun sv W (h : Row W 9 1 sv (qAt st 0).length (strC (qAt st 0))) => join_any sv (qAt st 0) W h hql hqz)
          obtain ⟨D, hD⟩ : ∃ D, D = cat (qAt st 0) := ⟨_, rfl⟩
          rw [← hD] at CJ
          have heq : g0 ++ D = p1 := by
            apply bl_inj
            rw [bl_append, hD, bl_cat]
            exact hbal
          have hsz : g0.size + D.size ≤ 600000 := by
            have h1 : (bl (g0 ++ D)).length ≤ 600000 := by
              rw [heq]
              have h2 := VV.out.sz
              have e0 : G2 (bl p0) (bl p1) 0 = bl p0 := rfl
              have e1 : G2 (bl p0) (bl p1) 1 = bl p1 := rfl
              rw [e0, e1] at h2
              have := HLEN.out
              omega
            rw [bl_append, List.length_append, bl_len, bl_len] at h1
            exact h1
          subst heq
          clear hD hbal hp hz hql hqz
          generalize qAt st 0 = qs at *
          have x0 : wr.cell? ⟨gb, 0, none⟩ = some (.string g0) := M9.out.got.cell 0
          have x1 : wr.cell? ⟨pb, 1, none⟩ = some (.string (g0 ++ D)) := M9.out.put.cell 1
          have hw10 : IntKind.i64.wrap (1 - 0) = 1 := by decide +kernel
          have hw11 : IntKind.i64.wrap 1 = 1 := by decide +kernel
          have hsz3 : (g0 ++ D).size ≤ maxLen := by rw [ByteArray.size_append]; unfold maxLen; omega
          have hsz4 : g0.size + D.size ≤ maxLen := by unfold maxLen; omega
          have hrun7 : ∀ W : World, (Go.Op.stringOp .add g0 D).run Try.prog W = .ok (.string (g0 ++ D)) W := fun W => run_string_add_sum W g0 D (by omega)
          go_upto_region 35 with fail
          go_cut [199] (fun c wx => c = .bool false ∧ Mo w mb gb pb g l.length S st f g0 g1 p0 (g0 ++ D) wx)
          case first =>
            go_region_held3 (fun W => W.cell? ⟨gb, 0, none⟩ = some (.string g0) ∧ W.cell? ⟨pb, 1, none⟩ = some (.string (g0 ++ D))) (first | go_keep | exact ⟨a0, a1⟩ | exact ⟨b0, b1⟩) (first
              | (go_at_call 21; refine (CB.out _ ((Below.refl _ _).drew)).mono ?_; rintro e v11 ⟨bv, rfl, R11, hb11, _⟩; have HR11 := Lib.hid R11; have M11 := Lib.hid ((M9.out.below ((Below.refl _ _).drew)).below hb11); have a0 : v11.cell? ⟨gb, 0, none⟩ = some (.string g0) := M11.out.got.cell 0; have a1 : v11.cell? ⟨pb, 1, none⟩ = some (.string (g0 ++ D)) := M11.out.put.cell 1; clear R11 hb11)
              | (go_at_call 20; refine (CJ.out _ _ HR11.out).mono ?_; rintro e v12 ⟨rfl, hb12⟩; have M12 := Lib.hid (M11.out.below hb12); have b0 : v12.cell? ⟨gb, 0, none⟩ = some (.string g0) := M12.out.got.cell 0; have b1 : v12.cell? ⟨pb, 1, none⟩ = some (.string (g0 ++ D)) := M12.out.put.cell 1; clear hb12))
            all_goals
              go_wp2_with fail
              go_meet
              exact ⟨rfl, M12.out⟩
          case rest =>
            obtain ⟨rfl, hM13⟩ := hcut
            have M13 := Lib.hid hM13
            clear hM13
            go_wp2_with fail
            go_roundg (gk - 1)
            case measure => have := HQ.out; omega
            case rel => exact ⟨1, by have := HQ.out; omega, rfl, M13.out⟩
        · as_aux_lemma =>
          obtain ⟨hp, hz⟩ := VV.out.bi.qAt hl1 1
          have hbal := VV.out.bal 1 (by decide)
          have CB := Lib.hid (fun W (hb : Below wr.heap.size wr W) => Blocks_any 1 g S st W (M9.out.mm.pipe.below hb) (VV.out.gd.sm (by have := HLEN.out; omega)))
          have hql : (qAt st 1).length ≤ 100000 := by have := VV.out.gd.q; have := HLEN.out; unfold qAt; split; omega; split; omega; exact Nat.zero_le _
          have hqz : sizes (qAt st 1) ≤ 1000000000000 := by omega
          have CJ := Lib.hid (fun sv W (h : Row W 9 1 sv (qAt st 1).length (strC (qAt st 1))) => join_any sv (qAt st 1) W h hql hqz)
          obtain ⟨D, hD⟩ : ∃ D, D = cat (qAt st 1) := ⟨_, rfl⟩
          rw [← hD] at CJ
          have heq : g1 ++ D = p0 := by
            apply bl_inj
            rw [bl_append, hD, bl_cat]
            exact hbal
          have hsz : g1.size + D.size ≤ 600000 := by
            have h1 : (bl (g1 ++ D)).length ≤ 600000 := by
              rw [heq]
              have h2 := VV.out.sz
              have e0 : G2 (bl p0) (bl p1) 0 = bl p0 := rfl
              have e1 : G2 (bl p0) (bl p1) 1 = bl p1 := rfl
              rw [e0, e1] at h2
              have := HLEN.out
              omega
            rw [bl_append, List.length_append, bl_len, bl_len] at h1
            exact h1
          subst heq
          clear hD hbal hp hz hql hqz
          generalize qAt st 1 = qs at *
          have x0 : wr.cell? ⟨gb, 1, none⟩ = some (.string g1) := M9.out.got.cell 1
          have x1 : wr.cell? ⟨pb, 0, none⟩ = some (.string (g1 ++ D)) := M9.out.put.cell 0
          have hw10 : IntKind.i64.wrap (1 - 1) = 0 := by decide +kernel
          have hw11 : IntKind.i64.wrap 0 = 0 := by decide +kernel
          have hsz3 : (g1 ++ D).size ≤ maxLen := by rw [ByteArray.size_append]; unfold maxLen; omega
          have hsz4 : g1.size + D.size ≤ maxLen := by unfold maxLen; omega
          have hrun7 : ∀ W : World, (Go.Op.stringOp .add g1 D).run Try.prog W = .ok (.string (g1 ++ D)) W := fun W => run_string_add_sum W g1 D (by omega)
          go_upto_region 35 with fail
          go_cut [199] (fun c wx => c = .bool false ∧ Mo w mb gb pb g l.length S st f g0 g1 (g1 ++ D) p1 wx)
          case first =>
            go_region_held3 (fun W => W.cell? ⟨gb, 1, none⟩ = some (.string g1) ∧ W.cell? ⟨pb, 0, none⟩ = some (.string (g1 ++ D))) (first | go_keep | exact ⟨a0, a1⟩ | exact ⟨b0, b1⟩) (first
              | (go_at_call 21; refine (CB.out _ ((Below.refl _ _).drew)).mono ?_; rintro e v11 ⟨bv, rfl, R11, hb11, _⟩; have HR11 := Lib.hid R11; have M11 := Lib.hid ((M9.out.below ((Below.refl _ _).drew)).below hb11); have a0 : v11.cell? ⟨gb, 1, none⟩ = some (.string g1) := M11.out.got.cell 1; have a1 : v11.cell? ⟨pb, 0, none⟩ = some (.string (g1 ++ D)) := M11.out.put.cell 0; clear R11 hb11)
              | (go_at_call 20; refine (CJ.out _ _ HR11.out).mono ?_; rintro e v12 ⟨rfl, hb12⟩; have M12 := Lib.hid (M11.out.below hb12); have b0 : v12.cell? ⟨gb, 1, none⟩ = some (.string g1) := M12.out.got.cell 1; have b1 : v12.cell? ⟨pb, 0, none⟩ = some (.string (g1 ++ D)) := M12.out.put.cell 0; clear hb12))
            all_goals
              go_wp2_with fail
              go_meet
              exact ⟨rfl, M12.out⟩
          case rest =>
            obtain ⟨rfl, hM13⟩ := hcut
            have M13 := Lib.hid hM13
            clear hM13
            go_wp2_with fail
            go_roundg (gk - 1)
            case measure => have := HQ.out; omega
            case rel => exact ⟨2, by have := HQ.out; omega, rfl, M13.out⟩
        · go_wp2_with fail
          go_ret
          exact ⟨rfl, M9.out.mm.low⟩
theorem orders_any (lim : Int) (sv : Value) (l : List Ac) (w : World) (hr : Acts w sv l) : Calls Try.prog 4 #[.int .i64 lim, sv] w fun e w' => e = .returned (.bool true) ∧ Below w.heap.size w w' := by
  cases hf : fewB l with
  | false => exact orders_no lim sv l hf w hr
  | true =>
    by_cases hl : lim < 1 ∨ 1048576 < lim
    · exact orders_bad lim sv l hf hl w hr
    · exact orders_ok lim sv l hf (by omega) (by omega) w hr
end Go.Proofs.Ytmnlojbfdpjjdaa
