/- StreamCloses: the law's walk. -/
import Derived.Test.YtmnlojbfdpjjdaaC2
import Derived.Test.YtmnlojbfdpjjdaaC3
namespace Go.Proofs.Ytmnlojbfdpjjdaa
open Go.RowKit
theorem wok (a : Int) (dn : Bool) (q : List ByteArray) : WOk (stC a dn q) := fun y hy => by cases hy
theorem cw_any (g : Nat) (a : Int) (ha : a = 0 ∨ a = 1) (q : List ByteArray) (s : ByteArray) (S : Sl) (W : World) (hp : PipeAt W g S (stC a false q)) (hq : q.length ≤ 20) (hz : sizes q ≤ 40000) (hs : s.size ≤ 2000) :
    Calls Try.prog 13 #[.pointer (some ⟨g, 0, none⟩), .int .i64 a, .string s] W fun e w' => e = .returned (.tuple #[.int .i64 s.size, .int .i64 0]) ∧ ∃ S', PipeAt w' g S' (stC a false (if s.size = 0 then q else q ++ [s])) ∧ Turn g S W S' w' := by
  have h := Write_any a s (by omega) g S (stC a false q) W hp (stC_sm _ _ _ (by omega) (by omega)) (by
    rw [do_w a ha]
    refine stC_sm _ _ _ ?_ ?_
    · split
      · omega
      · rw [List.length_append]; simp; omega
    · split
      · omega
      · rw [sizes_append]; simp [sizes]; omega) (wok _ _ _)
  rw [once_w a ha q s (by omega) (by omega)] at h
  exact h
theorem cc_any (g : Nat) (a : Int) (ha : a = 0 ∨ a = 1) (q : List ByteArray) (S : Sl) (W : World) (hp : PipeAt W g S (stC a false q)) (hq : q.length ≤ 20) (hz : sizes q ≤ 40000) :
    Calls Try.prog 14 #[.pointer (some ⟨g, 0, none⟩), .int .i64 a] W fun e w' => e = .returned (.int .i64 0) ∧ ∃ S', PipeAt w' g S' (stC a true q) ∧ Turn g S W S' w' := by
  have h := Close_any a g S (stC a false q) W hp (stC_sm _ _ _ (by omega) (by omega))
  rw [close_once a ha q] at h
  exact h
theorem cc2_any (g : Nat) (a : Int) (ha : a = 0 ∨ a = 1) (q : List ByteArray) (S : Sl) (W : World) (hp : PipeAt W g S (stC a true q)) :
    Calls Try.prog 14 #[.pointer (some ⟨g, 0, none⟩), .int .i64 a] W fun e w' => e = .returned (.int .i64 28) ∧ ∃ S', PipeAt w' g S' (stC a true q) ∧ Turn g S W S' w' := by
  have h := Close_err a g S (stC a true q) W hp (by rw [open_cut a ha]; decide)
  rw [open_cut a ha] at h
  exact h.mono fun e w' hh => ⟨hh.1, S, hh.2 ▸ hp, hh.2 ▸ Turn.refl g S W⟩
theorem co1_any (g : Nat) (a : Int) (ha : a = 0 ∨ a = 1) (q : List ByteArray) (S : Sl) (W : World) (hp : PipeAt W g S (stC a true q)) :
    Calls Try.prog 15 #[.pointer (some ⟨g, 0, none⟩), .int .i64 a] W fun e w' => e = .returned (.bool false) ∧ W = w' := by
  have h := Open_any a g S (stC a true q) W hp
  rw [open_cut a ha] at h
  exact h
theorem co2_any (g : Nat) (a : Int) (ha : a = 0 ∨ a = 1) (q : List ByteArray) (S : Sl) (W : World) (hp : PipeAt W g S (stC a true q)) :
    Calls Try.prog 15 #[.pointer (some ⟨g, 0, none⟩), .int .i64 (1 - a)] W fun e w' => e = .returned (.bool true) ∧ W = w' := by
  have h := Open_any (1 - a) g S (stC a true q) W hp
  rw [open_oth a ha] at h
  exact h
theorem cr_any (g : Nat) (a : Int) (ha : a = 0 ∨ a = 1) (c : Int) (hc : 1 ≤ c) (b : ByteArray) (r : List ByteArray) (S : Sl) (W : World) (hp : PipeAt W g S (stC a true (b :: r))) (hq : (b :: r).length ≤ 20) (hz : sizes (b :: r) ≤ 40000) :
    Calls Try.prog 16 #[.pointer (some ⟨g, 0, none⟩), .int .i64 (1 - a), .int .i64 c] W fun e w' => e = .returned (.tuple #[.string (rdB b c), .int .i64 0]) ∧ ∃ S', PipeAt w' g S' (stC a true (rdQ b r c)) ∧ Turn g S W S' w' := by
  have h := Read_any (1 - a) c g S (stC a true (b :: r)) W hp (stC_sm _ _ _ (by omega) (by omega)) (by
    rw [do_r a ha b r c hc]
    refine stC_sm _ _ _ ?_ ?_
    · unfold rdQ; split <;> simp at hq ⊢ <;> omega
    · have h1 := rd_bytes b r c
      rw [sizes_byt] at hz ⊢
      rw [← h1, List.length_append] at hz
      omega) (wok _ _ _)
  rw [once_r a ha b r c hc] at h
  exact h
theorem crn_any (g : Nat) (a : Int) (ha : a = 0 ∨ a = 1) (c : Int) (hc : 1 ≤ c) (S : Sl) (W : World) (hp : PipeAt W g S (stC a true [])) :
    Calls Try.prog 16 #[.pointer (some ⟨g, 0, none⟩), .int .i64 (1 - a), .int .i64 c] W fun e w' => e = .returned (.tuple #[.string ⟨#[]⟩, .int .i64 28]) ∧ ∃ S', PipeAt w' g S' (stC a true []) ∧ Turn g S W S' w' := by
  have h := Read_any (1 - a) c g S (stC a true []) W hp (stC_sm _ _ _ (by simp) (by simp [sizes])) (by
    have : doS (stC a true []) ⟨0, 1 - a, c, ⟨#[]⟩⟩ = (stC a true [], 0, ⟨#[]⟩) := by
      unfold doS
      have e : emptyB ⟨0, 1 - a, c, ⟨#[]⟩⟩ = false := by show (c == 0) = false; rw [beq_eq_false_iff_ne]; omega
      rw [e, if_neg (by simp), if_neg (show ¬ (0 : Int) = 1 by decide), q_read a ha]
    rw [this]
    exact stC_sm _ _ _ (by simp) (by simp [sizes])) (wok _ _ _)
  rw [once_rn a ha c hc] at h
  exact h
theorem doS_wx (a : Int) (ha : a = 0 ∨ a = 1) : doS (stC a true []) ⟨1, 1 - a, 0, ⟨#[120]⟩⟩ = (setQ (stC a true []) ⟨1, 1 - a, 0, ⟨#[120]⟩⟩ [⟨#[120]⟩], 1, ⟨#[]⟩) := by rcases ha with rfl | rfl <;> rfl
theorem cwx_any (g : Nat) (a : Int) (ha : a = 0 ∨ a = 1) (S : Sl) (W : World) (hp : PipeAt W g S (stC a true [])) :
    Calls Try.prog 13 #[.pointer (some ⟨g, 0, none⟩), .int .i64 (1 - a), .string ⟨#[120]⟩] W fun e w' => e = .returned (.tuple #[.int .i64 0, .int .i64 28]) ∧ ∃ S', PipeAt w' g S' (stC a true []) ∧ Turn g S W S' w' := by
  have h := Write_any (1 - a) ⟨#[120]⟩ (by decide) g S (stC a true []) W hp (stC_sm _ _ _ (by simp) (by simp [sizes])) (by
    rw [doS_wx a ha]
    rcases ha with rfl | rfl <;> exact ⟨by decide, by decide, by decide⟩) (wok _ _ _)
  rw [once_wx a ha [] ⟨#[120]⟩ (by decide)] at h
  exact h
theorem crx_any (g : Nat) (a : Int) (ha : a = 0 ∨ a = 1) (S : Sl) (W : World) (hp : PipeAt W g S (stC a true [])) :
    Calls Try.prog 16 #[.pointer (some ⟨g, 0, none⟩), .int .i64 a, .int .i64 1] W fun e w' => e = .returned (.tuple #[.string ⟨#[]⟩, .int .i64 28]) ∧ ∃ S', PipeAt w' g S' (stC a true []) ∧ Turn g S W S' w' := by
  have h := Read_any a 1 g S (stC a true []) W hp (stC_sm _ _ _ (by simp) (by simp [sizes])) (by
    have : doS (stC a true []) ⟨0, a, 1, ⟨#[]⟩⟩ = (stC a true [], 0, ⟨#[]⟩) := by rcases ha with rfl | rfl <;> rfl
    rw [this]
    exact stC_sm _ _ _ (by simp) (by simp [sizes])) (wok _ _ _)
  rw [once_rx a ha []] at h
  exact h
set_option maxRecDepth 100000 in
set_option maxHeartbeats 3200000 in
theorem closes_a (sv : Value) (bs : List ByteArray) (x : Nat) (_hx : x < 256) (c : Int) (hl : 20 < bs.length) (w : World) (hS : Strs w sv bs) : Calls Try.prog 3 #[sv, .int .u8 x, .int .i64 c] w fun e w' => e = .returned (.bool true) ∧ Below w.heap.size w w' := by
  have CA := Lib.hid (fun W => awake_any W)
  have CT := Lib.hid (fun W (hb : Below w.heap.size w W) => contains10_any bs sv W (hS.below hb))
  obtain ⟨aa, cap, hsv, hcap⟩ : ∃ (aa : Option Addr) (cap : Nat), sv = .slice aa bs.length cap ∧ bs.length ≤ 9223372036854775807 := by
    rcases hS with ⟨h, h2⟩ | ⟨a, cap, h, h1, h2, _⟩
    · exact ⟨none, 0, by rw [h, h2]; rfl, by rw [h2]; exact Nat.zero_le _⟩
    · unfold maxLen at h2; exact ⟨_, cap, h, by omega⟩
  have g1 : (20 : Int) < bs.length := by omega
  rw [hsv] at CT
  rw [hsv]
  clear hl hS hsv
  go_enter Try.func3, Try.ntmps3
  go_wp2_with (first
    | (go_at_call 9; refine (CA.out _).mono ?_; rintro e v1 ⟨rfl, hb1⟩; have B1 := Lib.hid hb1; clear hb1)
    | (go_at_call 10; refine (CT.out _ ?_).mono ?_; exact B1.out; rintro e v2 ⟨rfl, rfl⟩))
  go_ret
  exact ⟨rfl, B1.out⟩
set_option maxRecDepth 100000 in
set_option maxHeartbeats 3200000 in
theorem closes_b (sv : Value) (bs : List ByteArray) (x : Nat) (_hx : x < 256) (c : Int) (hl : ¬ 20 < bs.length) (hb : bs.any longB = true) (w : World) (hS : Strs w sv bs) : Calls Try.prog 3 #[sv, .int .u8 x, .int .i64 c] w fun e w' => e = .returned (.bool true) ∧ Below w.heap.size w w' := by
  have CA := Lib.hid (fun W => awake_any W)
  have CT := Lib.hid (fun W (hb : Below w.heap.size w W) => contains10_any bs sv W (hS.below hb))
  obtain ⟨aa, cap, hsv, hcap⟩ : ∃ (aa : Option Addr) (cap : Nat), sv = .slice aa bs.length cap ∧ bs.length ≤ 9223372036854775807 := by
    rcases hS with ⟨h, h2⟩ | ⟨a, cap, h, h1, h2, _⟩
    · exact ⟨none, 0, by rw [h, h2]; rfl, by rw [h2]; exact Nat.zero_le _⟩
    · unfold maxLen at h2; exact ⟨_, cap, h, by omega⟩
  have g1 : ¬ (20 : Int) < bs.length := by omega
  rw [hb] at CT
  rw [hsv] at CT
  rw [hsv]
  clear hl hS hsv hb
  go_enter Try.func3, Try.ntmps3
  go_wp2_with (first
    | (go_at_call 9; refine (CA.out _).mono ?_; rintro e v1 ⟨rfl, hb1⟩; have B1 := Lib.hid hb1; clear hb1)
    | (go_at_call 10; refine (CT.out _ ?_).mono ?_; exact B1.out; rintro e v2 ⟨rfl, rfl⟩))
  go_ret
  exact ⟨rfl, B1.out⟩
set_option maxRecDepth 100000 in
set_option maxHeartbeats 3200000 in
theorem closes_c (sv : Value) (bs : List ByteArray) (x : Nat) (_hx : x < 256) (c : Int) (hl : ¬ 20 < bs.length) (hb : bs.any longB = false) (hc : c < 1) (w : World) (hS : Strs w sv bs) : Calls Try.prog 3 #[sv, .int .u8 x, .int .i64 c] w fun e w' => e = .returned (.bool true) ∧ Below w.heap.size w w' := by
  have CA := Lib.hid (fun W => awake_any W)
  have CT := Lib.hid (fun W (hb : Below w.heap.size w W) => contains10_any bs sv W (hS.below hb))
  obtain ⟨aa, cap, hsv, hcap⟩ : ∃ (aa : Option Addr) (cap : Nat), sv = .slice aa bs.length cap ∧ bs.length ≤ 9223372036854775807 := by
    rcases hS with ⟨h, h2⟩ | ⟨a, cap, h, h1, h2, _⟩
    · exact ⟨none, 0, by rw [h, h2]; rfl, by rw [h2]; exact Nat.zero_le _⟩
    · unfold maxLen at h2; exact ⟨_, cap, h, by omega⟩
  have g1 : ¬ (20 : Int) < bs.length := by omega
  rw [hb] at CT
  rw [hsv] at CT
  rw [hsv]
  clear hl hS hsv hb
  go_enter Try.func3, Try.ntmps3
  go_wp2_with (first
    | (go_at_call 9; refine (CA.out _).mono ?_; rintro e v1 ⟨rfl, hb1⟩; have B1 := Lib.hid hb1; clear hb1)
    | (go_at_call 10; refine (CT.out _ ?_).mono ?_; exact B1.out; rintro e v2 ⟨rfl, rfl⟩))
  go_ret
  exact ⟨rfl, B1.out⟩
set_option maxRecDepth 100000 in
set_option maxHeartbeats 3200000 in
theorem closes_m (sv : Value) (bs : List ByteArray) (x : Nat) (hx : x < 256) (c : Int) (hl : ¬ 20 < bs.length) (hb : bs.any longB = false) (hc : ¬ c < 1) (w : World) (hS : Strs w sv bs) : Calls Try.prog 3 #[sv, .int .u8 x, .int .i64 c] w fun e w' => e = .returned (.bool true) ∧ Below w.heap.size w w' := by
  have CA := Lib.hid (fun W => awake_any W)
  have CT := Lib.hid (fun W (hb : Below w.heap.size w W) => contains10_any bs sv W (hS.below hb))
  obtain ⟨aa, cap, hsv, hcap⟩ : ∃ (aa : Option Addr) (cap : Nat), sv = .slice aa bs.length cap ∧ bs.length ≤ 9223372036854775807 := by
    rcases hS with ⟨h, h2⟩ | ⟨a, cap, h, h1, h2, _⟩
    · exact ⟨none, 0, by rw [h, h2]; rfl, by rw [h2]; exact Nat.zero_le _⟩
    · unfold maxLen at h2; exact ⟨_, cap, h, by omega⟩
  have HS := Lib.hid hS
  have g1 : ¬ (20 : Int) < bs.length := by omega
  rw [hb] at CT
  rw [hsv] at CT
  have HSV := Lib.hid hsv
  rw [hsv]
  have hsz : ∀ s ∈ bs, s.size ≤ 2000 := fun s hs => by
    have h := List.any_eq_false.1 hb s hs
    unfold longB at h
    simpa using h
  have HSZ := Lib.hid hsz
  have CN := Lib.hid (fun W => New_any 1048576 (by decide) (by decide) W)
  obtain ⟨a, ha⟩ : ∃ a : Int, a = (x : Int) % 2 := ⟨_, rfl⟩
  have ha01 : a = 0 ∨ a = 1 := by omega
  have HA := Lib.hid ha
  have hx0 : (0 : Int) ≤ x := by omega
  have hx1 : (x : Int) < 256 := by omega
  clear hsz hS hsv hb ha hl
  go_enter Try.func3, Try.ntmps3
  go_wp2_with (first
    | (go_at_call 9; refine (CA.out _).mono ?_; rintro e v1 ⟨rfl, hb1⟩; have B1 := Lib.hid hb1; clear hb1)
    | (go_at_call 10; refine (CT.out _ ?_).mono ?_; exact B1.out; rintro e v2 ⟨rfl, rfl⟩)
    | (go_at_call 12; refine (CN.out _).mono ?_; rintro e v3 ⟨rfl, P3, b3⟩; have HP3 := Lib.hid P3; have B3 := Lib.hid b3; clear P3 b3))
  rw [← HA.out]
  obtain ⟨g, hg⟩ : ∃ g, g = v1.heap.size := ⟨_, rfl⟩
  rw [← hg]
  have hgw : w.heap.size ≤ g := by rw [hg]; exact B1.out.size
  rw [← hg, stC_new a] at HP3
  have HTB : Hid (∀ S W, Turn g nilSl v3 S W → Below w.heap.size w W) := Lib.hid (fun S W h => h.below (keepBelow B1.out B3.out) hgw)
  have hn20 : bs.length ≤ 20 := by omega
  have CWr := Lib.hid (cw_any g a ha01)
  have CCl := Lib.hid (cc_any g a ha01)
  have CC2 := Lib.hid (cc2_any g a ha01)
  have CO1 := Lib.hid (co1_any g a ha01)
  have CO2 := Lib.hid (co2_any g a ha01)
  have CRd := Lib.hid (cr_any g a ha01 c (by omega))
  have CRn := Lib.hid (crn_any g a ha01 c (by omega))
  have CWx := Lib.hid (cwx_any g a ha01)
  have CRx := Lib.hid (crx_any g a ha01)
  have ha0 : 0 ≤ a := by omega
  have ha1 : a ≤ 1 := by omega
  clear hg hgw ha01 hx0 hx1
  go_loopg [10, 48] bs.length (fun k wv iv wr => ∃ (m : Nat) (V : ByteArray) (S : Sl), m + k = bs.length ∧ iv = .int .i64 m ∧ wv = .string V ∧ V.data.toList = byt (bs.take m) ∧ PipeAt wr g S (stC a false (wrQ (bs.take m))) ∧ Turn g nilSl v3 S wr)
  case atStart => exact ⟨0, ⟨#[]⟩, nilSl, by omega, rfl, rfl, rfl, HP3.out, Turn.refl _ _ _⟩
  case round =>
    obtain ⟨m, V, S, hm, rfl, rfl, hV, hP, hT⟩ := hrel
    have HM := Lib.hid hm
    have HV := Lib.hid hV
    have HP := Lib.hid hP
    have HT := Lib.hid hT
    have hvs : V.size ≤ 40000 := by
      have h1 : V.size = V.data.toList.length := by simp
      have h2 := byt_len (bs.take m) 2000 (fun s hs => HSZ.out s (List.mem_of_mem_take hs))
      rw [h1, hV]
      have : (bs.take m).length ≤ 20 := by rw [List.length_take]; omega
      omega
    clear hm hV hP hT
    by_cases hlt : m < bs.length
    · obtain ⟨s, hs⟩ : ∃ s, s = bs.getD m ByteArray.empty := ⟨_, rfl⟩
      have hmem : s ∈ bs := by rw [hs, List.getD_eq_getElem?_getD, List.getElem?_eq_getElem hlt]; exact List.getElem_mem hlt
      have hs2 := HSZ.out s hmem
      obtain ⟨A, hA, hcs⟩ : ∃ A : Addr, aa = some A ∧ wr.cell? (A.add m) = some (.string s) := by
        have hST := HS.out.below (HTB.out _ _ HT.out)
        rw [HSV.out] at hST
        rcases hST with ⟨_, h2⟩ | ⟨A, cp, h, _, _, _, h5⟩
        · rw [h2] at hlt; simp at hlt
        · injection h with h0
          exact ⟨A, h0, by rw [hs]; exact h5 m hlt⟩
      subst hA
      have htk : bs.take (m + 1) = bs.take m ++ [s] := by rw [List.take_succ_eq_append_getElem hlt, hs, List.getD_eq_getElem?_getD, List.getElem?_eq_getElem hlt]; rfl
      have HTK := Lib.hid htk
      have C := Lib.hid (CWr.out (wrQ (bs.take m)) s S wr HP.out (by
        have h1 := List.length_filter_le (fun s : ByteArray => s.size != 0) (bs.take m)
        have h2 : (bs.take m).length ≤ 20 := by rw [List.length_take]; omega
        exact Nat.le_trans h1 h2) (by
        rw [sizes_byt, byt_wrQ, ← HV.out]
        have h1 : V.size = V.data.toList.length := by simp
        omega) hs2)
      have hov : ¬ 9223372036854775807 < V.size + s.size := by omega
      clear hs hmem htk
      go_wp2_with (go_at_call 13; refine (C.out).mono ?_; rintro e u1 ⟨rfl, S1, P1, T1⟩; have HP1 := Lib.hid P1; have HT1 := Lib.hid (HT.out.trans T1); clear P1 T1)
      go_roundg (gk - 1)
      case measure => have := HM.out; omega
      case rel => exact ⟨m + 1, V ++ s, S1, by have := HM.out; omega, by go_num, rfl, by rw [HTK.out, byt_append, ← HV.out, ByteArray.data_append, Array.toList_append]; simp [byt], by rw [HTK.out, wrQ_snoc]; exact HP1.out, HT1.out⟩
    · obtain rfl : m = bs.length := by have := HM.out; omega
      have hV2 := HV.out
      rw [List.take_length] at hV2
      have HV2 := Lib.hid hV2
      obtain ⟨q, hq⟩ : ∃ q, q = wrQ (bs.take bs.length) := ⟨_, rfl⟩
      have hqb : byt q = V.data.toList := by rw [hq, byt_wrQ, HV.out]
      have hqn : ∀ s ∈ q, s.size ≠ 0 := by rw [hq]; intro s hs; simpa [wrQ] using (List.mem_filter.1 hs).2
      have hql : q.length ≤ 20 := by
        rw [hq, List.take_length]
        exact Nat.le_trans (List.length_filter_le _ _) hn20
      rw [← hq] at HP
      have HQB := Lib.hid hqb
      have HQN := Lib.hid hqn
      clear hV2 hq hqb hqn HV
      go_wp2_with (first
        | (go_at_call 14; have tok := HPa; clear tok; refine (CC2.out q _ _ HPa.out).mono ?_; rintro e u2 ⟨rfl, S2, P2, T2⟩; have HPb := Lib.hid P2; have HTb := Lib.hid (HTa.out.trans T2); clear P2 T2)
        | (go_at_call 14; refine (CCl.out q S _ HP.out hql (by rw [sizes_byt, HQB.out]; simpa using hvs)).mono ?_; rintro e u1 ⟨rfl, S1, P1, T1⟩; have HPa := Lib.hid P1; have HTa := Lib.hid (HT.out.trans T1); clear P1 T1)
        | (go_at_call 15; have tok := TK1; clear tok; refine (CO2.out q _ _ HPb.out).mono ?_; rintro e u4 ⟨rfl, rfl⟩)
        | (go_at_call 15; refine (CO1.out q _ _ HPb.out).mono ?_; rintro e u3 ⟨rfl, rfl⟩; have TK1 := Lib.hid trivial))
      obtain ⟨wo, rfl⟩ : ∃ wo, wo = u2 := ⟨_, rfl⟩
      obtain ⟨gk0, rfl⟩ : ∃ x, x = gk := ⟨_, rfl⟩
      go_loopg [15, 96] (V.size + 1) (fun k gv iv wr => ∃ (m : Nat) (G : ByteArray) (p : List ByteArray) (S : Sl), m + k = V.size + 1 ∧ iv = .int .i64 m ∧ gv = .string G ∧ G.data.toList ++ byt p = V.data.toList ∧ m ≤ G.size ∧ (∀ s ∈ p, s.size ≠ 0) ∧ p.length ≤ 20 ∧ PipeAt wr g S (stC a true p) ∧ Turn g nilSl v3 S wr)
      case atStart => exact ⟨0, ⟨#[]⟩, q, _, by omega, rfl, rfl, HQB.out, Nat.zero_le _, HQN.out, hql, HPb.out, HTb.out⟩
      case round =>
        obtain ⟨m, G, p, S3, hm, rfl, rfl, hG, hmG, hpn, hpl, hP, hT⟩ := hrel
        have hgs : G.size ≤ V.size := by
          have h1 : G.size = G.data.toList.length := by simp
          have h2 : V.size = V.data.toList.length := by simp
          rw [h1, h2, ← hG, List.length_append]
          omega
        have hpz : sizes p ≤ 40000 := by
          have h2 : V.size = V.data.toList.length := by simp
          rw [sizes_byt]
          rw [← hG, List.length_append] at h2
          omega
        have hlt : m < V.size + 1 := by omega
        have HM := Lib.hid hm
        have HG := Lib.hid hG
        have HP3 := Lib.hid hP
        have HT3 := Lib.hid hT
        have HPN := Lib.hid hpn
        clear hm hG hP hT hpn
        cases p with
        | nil =>
          obtain rfl : G = V := by
            have h := HG.out
            rw [show byt [] = [] from rfl, List.append_nil] at h
            exact ByteArray.ext (Array.toList_inj.1 h)
          have hself : (G.toList == G.toList) = true := str_eq G
          clear HG
          go_wp2_with (first
            | (go_at_call 16; have tok := HP5; clear tok; refine (CRx.out _ _ HP5.out).mono ?_; rintro e u5 ⟨rfl, S6, P6, T6⟩; have HT6 := Lib.hid (HT5.out.trans T6); clear P6 T6)
            | (go_at_call 16; refine (CRn.out _ _ HP3.out).mono ?_; rintro e u4 ⟨rfl, S4, P4, T4⟩; have HP4 := Lib.hid P4; have HT4 := Lib.hid (HT3.out.trans T4); clear P4 T4)
            | (go_at_call 13; refine (CWx.out _ _ HP4.out).mono ?_; rintro e u5 ⟨rfl, S5, P5, T5⟩; have HP5 := Lib.hid P5; have HT5 := Lib.hid (HT4.out.trans T5); clear P5 T5))
          go_ret
          exact ⟨rfl, HTB.out _ _ HT6.out⟩
        | cons b r =>
          have hb0 : b.size ≠ 0 := HPN.out b (by simp)
          have C := Lib.hid (CRd.out b r S3 wr HP3.out hpl hpz)
          have hrb := rd_bytes b r c
          have hrn : ∀ s ∈ rdQ b r c, s.size ≠ 0 := fun s hs => by
            unfold rdQ at hs
            split at hs
            · rcases List.mem_cons.1 hs with rfl | h
              · rw [ByteArray.size_extract]; omega
              · exact HPN.out s (by simp [h])
            · exact HPN.out s (by simp [hs])
          have hrl : (rdQ b r c).length ≤ 20 := by
            have e : (b :: r).length = r.length + 1 := rfl
            unfold rdQ
            split
            · have e2 : (b.extract c.toNat b.size :: r).length = r.length + 1 := rfl
              omega
            · omega
          have hR0 : (rdB b c).size ≠ 0 ∧ ((rdB b c).size : Int) ≤ c := by
            unfold rdB
            split
            · rw [ByteArray.size_extract]; omega
            · omega
          obtain ⟨R, hR⟩ : ∃ R, R = rdB b c := ⟨_, rfl⟩
          rw [← hR] at C hrb hR0
          have hGR : (G ++ R).data.toList ++ byt (rdQ b r c) = V.data.toList := by
            rw [← HG.out, ByteArray.data_append, Array.toList_append, List.append_assoc, hrb]
          have hsz : (G ++ R).size = G.size + R.size := ByteArray.size_append
          have hRG : G.size + R.size ≤ 40000 := by
            have h1 : (G ++ R).size = (G ++ R).data.toList.length := by simp
            have h2 : V.size = V.data.toList.length := by simp
            rw [← hGR, List.length_append] at h2
            omega
          have hov : ¬ 9223372036854775807 < G.size + R.size := by omega
          have hemp : R.toList.isEmpty = false := by rw [← str_empty, beq_eq_false_iff_ne]; exact hR0.1
          have hlen : ¬ c < (R.size : Int) := by omega
          have HX := Lib.hid (And.intro hGR (And.intro hsz (And.intro hrn (And.intro hrl hR0.1))))
          clear hR hrb hR0 hGR hsz hrn hrl hb0
          generalize rdQ b r c = p2 at *
          go_wp2_with (go_at_call 16; refine (C.out).mono ?_; rintro e u4 ⟨rfl, S4, P4, T4⟩; have HP4 := Lib.hid P4; have HT4 := Lib.hid (HT3.out.trans T4); clear P4 T4)
          go_roundg (gk - 1)
          case measure => have := HM.out; omega
          case rel => exact ⟨m + 1, G ++ R, p2, S4, by have := HM.out; omega, by go_num, rfl, HX.out.1, by rw [HX.out.2.1]; have := HX.out.2.2.2.2; omega, HX.out.2.2.1, HX.out.2.2.2.1, HP4.out, HT4.out⟩
theorem closes_walk (sv : Value) (bs : List ByteArray) (x : Nat) (hx : x < 256) (c : Int) (w : World) (hS : Strs w sv bs) : Calls Try.prog 3 #[sv, .int .u8 x, .int .i64 c] w fun e w' => e = .returned (.bool true) ∧ Below w.heap.size w w' := by
  by_cases hl : 20 < bs.length
  · exact closes_a sv bs x hx c hl w hS
  · cases hb : bs.any longB with
    | true => exact closes_b sv bs x hx c hl hb w hS
    | false =>
      by_cases hc : c < 1
      · exact closes_c sv bs x hx c hl hb hc w hS
      · exact closes_m sv bs x hx c hl hb hc w hS
end Go.Proofs.Ytmnlojbfdpjjdaa
