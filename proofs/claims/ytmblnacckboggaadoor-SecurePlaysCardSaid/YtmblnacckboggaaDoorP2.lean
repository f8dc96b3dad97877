/- Link.Receive (15) in full. -/
import Derived.Test.YtmblnacckboggaaDoorQ7
import Derived.Test.YtmblnacckboggaaDoorQ8
import Derived.Test.YtmblnacckboggaaDoorP1
import Derived.Deep.RegionHeld3
namespace Go.Proofs.YtmblnacckboggaaDoor
open Go.RowKit
theorem isB_set {B b lb i : Nat} {v : Value} {bs : List Value} {w : World} (h : Lib.IsBuilderF 85 5 B b bs w) (hlt : lb < B) : Lib.IsBuilderF 85 5 B b bs (w.setCell ⟨lb, i, none⟩ v) := by
  have key : ∀ p, Lib.BuilderAtF 85 5 B b p bs w → Lib.BuilderAtF 85 5 B b p bs (w.setCell ⟨lb, i, none⟩ v) := by
    intro p ⟨hB, u, h1, hown, hne⟩
    refine ⟨hB, u, (Below.heap_setCell w ⟨lb, i, none⟩ v b (by simp only; omega)).trans h1, hown.kept (row := some lb) ⟨rfl, rfl, rfl, by simp [World.setCell], fun k hk hn => Below.heap_setCell w ⟨lb, i, none⟩ v k (by simp only; intro e; subst e; exact hn rfl)⟩ ?_, hne⟩
    rcases hu : u.ownBlock with _ | g
    · exact .inl rfl
    · right
      have := (hown.lt g hu).1
      intro e
      simp only [Option.some.injEq] at e
      omega
  exact h.elim (fun x => .inl (key _ x)) (fun x => .inr (key _ x))
/-- what a link does with what its wire has returned -/
def recvR (l : Lk) (s : ByteArray) (e : Int) : (ByteArray × Int) × Lk :=
  if l.fin then ((⟨#[]⟩, 28), l)
  else if e ≠ 0 ∧ e ≠ 36 ∧ e ≠ 28 then ((⟨#[]⟩, e), l)
  else
    let R := drain l.key.data.toList (3 - l.side) (if e = 0 then l.left ++ s else l.left).size l.taken.toNat (if e = 0 then l.left ++ s else l.left).data.toList []
    (if R.1 = [] then (⟨#[]⟩, if e = 28 ∨ R.2.2.2 ≠ 16 then 28 else 36) else (⟨R.1.toArray⟩, 0), ⟨l.key, l.side, l.sent, R.2.2.1, if e = 28 ∨ R.2.2.2 ≠ 16 then ⟨#[]⟩ else ⟨R.2.1.toArray⟩, decide (e = 28 ∨ R.2.2.2 ≠ 16)⟩)
theorem Two.thenB {lb wb B : Nat} {w w1 w2 : World} (h : Two lb wb w w1) (hb : Below B w1 w2) (hB : w.heap.size ≤ B) : Two lb wb w w2 :=
  ⟨hb.os.trans h.os, hb.tape.trans h.tape, hb.output.trans h.output, Nat.le_trans h.size hb.size, fun k hk h1 h2 => (hb.block k (Nat.lt_of_lt_of_le hk hB)).trans (h.block k hk h1 h2)⟩
theorem size_set {B : Nat} {w : World} (h : B ≤ w.heap.size) (p : Addr) (v : Value) : B ≤ (w.setCell p v).heap.size := by simpa [World.setCell] using h
theorem blen (bb : Nat) (out : List UInt8) (n : Nat) (hn : out.length = n) (w : World) (h : Lib.IsBuilderF 85 5 bb bb (Lib.byteCells out) w) : Calls Tryd.prog 38 #[.pointer (some ⟨bb, 0, none⟩)] w fun e w' => e = .returned (.int .i64 n) ∧ w = w' :=
  (Tryd.Builder_Len_f bb bb _ w h).mono fun e w' ⟨a, b⟩ => ⟨by rw [a, Lib.byteCells_length, hn], b.symm⟩
def refC (l : Lk) : List Value := [.string l.key, .int .i64 l.side, .string l.left, .int .i64 l.sent, .int .i64 l.taken, .bool l.fin]
/-- a reference's link inside a block -/
def RefAt (w : World) (g o : Nat) (t : TypeId) (A C : List Value) (l : Lk) : Prop := Blk w g t (A ++ refC l ++ C) ∧ A.length = o
section
variable {w w' : World} {g o : Nat} {t : TypeId} {A C : List Value} {l : Lk}
theorem RefAt.cell (h : RefAt w g o t A C l) (j : Nat) (hj : j < 6) : w.cell? ⟨g, o + j, none⟩ = (refC l)[j]? := by
  rw [h.1.cell, ← h.2, List.append_assoc, List.getElem?_append_right (by omega), Nat.add_sub_cancel_left, List.getElem?_append_left (by exact hj)]
theorem RefAt.cell0 (h : RefAt w g o t A C l) : w.cell? ⟨g, o, none⟩ = some (.string l.key) := h.cell 0 (by decide)
theorem RefAt.frozen (h : RefAt w g o t A C l) (j : Nat) : w.frozen? ⟨g, j, none⟩ = false := h.1.frozen j
theorem RefAt.set_ (h : RefAt w g o t A C l) (j : Nat) (hj : j < 6) (v : Value) {l' : Lk} (he : (refC l).set j v = refC l') : RefAt (w.setCell ⟨g, o + j, none⟩ v) g o t A C l' := by
  refine ⟨?_, h.2⟩
  have h1 := h.1.set_ (o + j) v
  rw [← h.2, List.append_assoc, List.set_append_right _ _ (by omega), Nat.add_sub_cancel_left, List.set_append_left _ _ (by exact hj), he, ← List.append_assoc, h.2] at h1
  exact h1
theorem RefAt.below (h : RefAt w g o t A C l) (hb : Below w.heap.size w w') : RefAt w' g o t A C l := ⟨keepBlk hb h.1, h.2⟩
theorem RefAt.drew (h : RefAt w g o t A C l) : RefAt w.drew g o t A C l := h
end
theorem bad_ok' {key : List UInt8} {side : Int} (h : badE key side 0 = 0) : key.length = 32 ∧ (side = 1 ∨ side = 2) := ⟨(bad_ok h).1, (bad_ok h).2.1⟩
theorem mk_back (s : ByteArray) : (⟨s.data.toList.toArray⟩ : ByteArray) = s := by cases s; rfl

set_option maxRecDepth 100000 in
set_option maxHeartbeats 6400000 in
theorem receive_ok (lb wb : Nat) (key : ByteArray) (side sent : Int) (n0 : Nat) (left : ByteArray) (x : Wi) (s0 : ByteArray) (hk : badE key.data.toList side 0 = 0) (hn0 : n0 ≤ 1000000000) (hx : comeR x = (s0, 0)) (hsz : left.size + s0.size ≤ 1000000000)
    (hne : lb ≠ wb) (w : World) (hL : Blk w lb 89 (linkC wb ⟨key, side, sent, n0, left, false⟩)) (hW : Blk w wb 48 (wireC x)) (hT : Tabs w) (hl2 : 2 < lb) (hw2 : 2 < wb) :
    Calls Tryd.prog 15 #[.pointer (some ⟨lb, 0, none⟩)] w fun e w' => e = .returned (.tuple #[.string (recvR ⟨key, side, sent, n0, left, false⟩ s0 0).1.1, .int .i64 (recvR ⟨key, side, sent, n0, left, false⟩ s0 0).1.2]) ∧ Blk w' lb 89 (linkC wb (recvR ⟨key, side, sent, n0, left, false⟩ s0 0).2) ∧ Blk w' wb 48 (wireC (comeX x)) ∧ Two lb wb w w' := by
  obtain ⟨L1, hL1⟩ : ∃ L1 : ByteArray, L1 = left ++ s0 := ⟨_, rfl⟩
  have hL1s : L1.size ≤ 1000000000 := by rw [hL1]; rw [ByteArray.size_append]; omega
  obtain ⟨R, hR⟩ : ∃ R, R = drain key.data.toList (3 - side) L1.size n0 L1.data.toList [] := ⟨_, rfl⟩
  have FIN : Hid (recvR ⟨key, side, sent, n0, left, false⟩ s0 0 = ((if R.1 = [] then (⟨#[]⟩, if R.2.2.2 ≠ 16 then 28 else 36) else (⟨R.1.toArray⟩, 0)), ⟨key, side, sent, R.2.2.1, if R.2.2.2 ≠ 16 then ⟨#[]⟩ else ⟨R.2.1.toArray⟩, decide (R.2.2.2 ≠ 16)⟩)) := by
    refine Lib.hid ?_
    rw [hR, hL1]
    unfold recvR
    simp
  have hs := (bad_ok' hk).2
  have hbt : badE key.data.toList (3 - side) 0 = 0 := by
    have hkl := (bad_ok' hk).1
    unfold badE
    rw [if_neg (by simp [hkl]), if_neg (by omega), if_neg (by omega)]
  have CE := Lib.hid (fun W (hb : Below w.heap.size w W) => ended_any lb wb ⟨key, side, sent, n0, left, false⟩ W (keepBlk hb hL))
  have CX := Lib.hid (wrecv_any wb wb x w hW)
  rw [hx] at CX
  obtain ⟨tside, hts⟩ : ∃ t, t = 3 - side := ⟨_, rfl⟩
  rw [← hts] at hbt hR
  have w3 : IntKind.i64.wrap (3 - side) = tside := by rw [hts]; exact IntWalk.i64_in _ (by omega)
  have w4 : IntKind.i64.wrap tside = tside := IntWalk.i64_in _ (by omega)
  have w3' : (3 : Int) - side = tside := hts.symm
  have HL := Lib.hid hL
  have HT := Lib.hid hT
  have q0 : w.cell? ⟨lb, 0, none⟩ = some (.iface 38 (.pointer (some ⟨wb, 0, none⟩))) := hL.cell 0
  have z1 : ¬ 9223372036854775807 < left.size + s0.size := by omega
  have z2 : left ++ s0 = L1 := hL1.symm
  have HR := Lib.hid hR
  have HBT := Lib.hid hbt
  
  clear hL1 hts hs hL hT hW hx hR hbt hk hsz
  go_enter Tryd.func15, Tryd.ntmps15
  go_upto_region 4 with (first
    | (go_at_call 16; refine (CE.out _ (Below.refl _ _)).mono ?_; rintro e v1 ⟨rfl, rfl⟩)
    | (go_at_call 95; refine (CX.out).mono ?_; rintro e v2 ⟨rfl, hW2, hT2⟩; have L2 := Lib.hid (hT2.blk HL.out hne hne); have W2 := Lib.hid hW2; have T2 := Lib.hid (hT2.widen' lb); clear hW2 hT2))
  have q5 : v2.cell? ⟨lb, 5, none⟩ = some (.string left) := L2.out.cell 5
  have f5 := L2.out.frozen 5
  go_upto_region 11 with fail
  obtain ⟨V3, hV3⟩ : ∃ V3, V3 = v2.setCell ⟨lb, 5, none⟩ (.string L1) := ⟨_, rfl⟩
  have L3 : Hid (Blk V3 lb 89 (linkC wb ⟨key, side, sent, n0, L1, false⟩)) := by rw [hV3]; exact Lib.hid (L2.out.set_ 5 _)
  have W3 : Hid (Blk V3 wb 48 (wireC (comeX x))) := by rw [hV3]; exact Lib.hid (W2.out.far (p := ⟨lb, 5, none⟩) (Ne.symm hne) _)
  have T3 : Hid (Two lb wb w V3) := by rw [hV3]; exact Lib.hid (T2.out.set1 5 _)
  rw [← hV3]
  clear hV3 q5 f5
  go_wp2_with fail
  obtain ⟨bb, hbb⟩ : ∃ bb, bb = V3.heap.size := ⟨_, rfl⟩
  obtain ⟨V4, hV4⟩ : ∃ V4, V4 = V3.alloc (.cells #[.pointer none, .slice none 0 0] 85) := ⟨_, rfl⟩
  have B4 : Hid (Lib.IsBuilderF 85 5 bb bb (Lib.byteCells []) V4) := by rw [hV4, hbb]; exact Lib.hid (Lib.IsBuilderF.of (Lib.fresh_isBuilder 85 5 V3))
  have hb34 : Below V3.heap.size V3 V4 := by rw [hV4]; exact (Below.refl _ _).alloc (Nat.le_refl _) _
  have L4 := Lib.hid (keepBlk hb34 L3.out)
  have W4 := Lib.hid (keepBlk hb34 W3.out)
  have T4 := Lib.hid (T3.out.trans (Two.of hb34))
  have S4 : Hid (bb ≤ V4.heap.size) := by rw [hbb]; exact Lib.hid hb34.size
  have hlbb : lb < bb := by rw [hbb]; exact L3.out.lt
  have hwb0 : w.heap.size ≤ bb := by rw [hbb]; exact T3.out.size
  have hwbb : wb < bb := by rw [hbb]; exact W3.out.lt
  rw [← hV4, ← hbb]
  clear hV4 hbb hb34 L3 T3 W3
  go_loopg [] L1.size (fun k wr => ∃ (n : Nat) (S : ByteArray) (out : List UInt8), n + k ≤ n0 + L1.size ∧ S.size ≤ k ∧ drain key.data.toList tside k n S.data.toList out = R ∧ Blk wr lb 89 (linkC wb ⟨key, side, sent, n, S, false⟩) ∧ Lib.IsBuilderF 85 5 bb bb (Lib.byteCells out) wr ∧ bb ≤ wr.heap.size ∧ out.length + S.size ≤ L1.size ∧ Two lb wb w wr ∧ Blk wr wb 48 (wireC (comeX x)))
  case atStart => exact ⟨n0, L1, [], Nat.le_refl _, Nat.le_refl _, HR.out.symm, L4.out, B4.out, S4.out, by simp, T4.out, W4.out⟩
  case round =>
    obtain ⟨n, S, out, hnk, hSk, hdr, hL5, hB5, hS5, hlen, hT5, hW5⟩ := hrel
    have L5 := Lib.hid hL5
    have B5 := Lib.hid hB5
    have S5 := Lib.hid hS5
    have T5 := Lib.hid hT5
    have W5 := Lib.hid hW5
    have DR := Lib.hid hdr
    have SK := Lib.hid hSk
    have LN := Lib.hid hlen
    have hnb : n ≤ 2000000000 := by omega
    have TB := Lib.hid (T5.out.tabs HT.out hl2 hw2)
    have q1 : wr.cell? ⟨lb, 1, none⟩ = some (.string key) := L5.out.cell 1
    have q2 : wr.cell? ⟨lb, 2, none⟩ = some (.int .i64 side) := L5.out.cell 2
    have q4 : wr.cell? ⟨lb, 4, none⟩ = some (.int .i64 n) := L5.out.cell 4
    have q5 : wr.cell? ⟨lb, 5, none⟩ = some (.string S) := L5.out.cell 5
    have CO := Lib.hid (fun W (hW : Tabs W) => open_any key S tside n (by omega) (by omega) W hW)
    obtain ⟨O, hO⟩ : ∃ O, O = openR key.data.toList tside n S.data.toList := ⟨_, rfl⟩
    rw [← hO] at CO
    obtain ⟨DB, hDB⟩ : ∃ D : ByteArray, D = ⟨O.1.toArray⟩ := ⟨_, rfl⟩
    have HDB := Lib.hid (show DB.data.toList = O.1 by rw [hDB])
    unfold str at CO
    rw [← hDB] at CO
    have HO := Lib.hid hO
    clear hL5 hB5 hS5 hT5 hW5 hdr hSk hlen hO hDB
    go_upto_region 12 with fail
    go_cut [7, 8, 9] (fun c7 c8 c9 wx => c7 = .string DB ∧ c8 = .int .i64 O.2.1 ∧ c9 = .int .i64 O.2.2 ∧ Below wr.heap.size wr wx)
    case first =>
      go_region_held3 (fun W => W.cell? ⟨lb, 1, none⟩ = some (.string key) ∧ W.cell? ⟨lb, 2, none⟩ = some (.int .i64 side) ∧ W.cell? ⟨lb, 4, none⟩ = some (.int .i64 n) ∧ W.cell? ⟨lb, 5, none⟩ = some (.string S)) (first | go_keep | exact ⟨r1, r2, r4, r5⟩) (first
        | (go_at_call 11; refine (CO.out _ (TB.out.drew)).mono ?_; rintro e v5 ⟨rfl, hb5⟩; have B6 := Lib.hid (keepBelow (Below.drew (Below.refl _ _)) hb5); have r1 : v5.cell? ⟨lb, 1, none⟩ = some (.string key) := (keepBlk B6.out L5.out).cell 1; have r2 : v5.cell? ⟨lb, 2, none⟩ = some (.int .i64 side) := (keepBlk B6.out L5.out).cell 2; have r4 : v5.cell? ⟨lb, 4, none⟩ = some (.int .i64 n) := (keepBlk B6.out L5.out).cell 4; have r5 : v5.cell? ⟨lb, 5, none⟩ = some (.string S) := (keepBlk B6.out L5.out).cell 5; clear hb5))
      all_goals
        go_wp2_with fail
        go_meet
        exact ⟨rfl, rfl, rfl, B6.out⟩
    case rest =>
      obtain ⟨rfl, rfl, rfl, hb5⟩ := hcut
      have L6 := Lib.hid (keepBlk hb5 L5.out)
      have W6 := Lib.hid (keepBlk hb5 W5.out)
      have B6 := Lib.hid (isB_below B5.out hb5)
      have S6 := Lib.hid (Nat.le_trans S5.out hb5.size)
      have T6 := Lib.hid (T5.out.trans (Two.of hb5))
      clear hb5 q1 q2 q4 q5 CO
      by_cases hE : O.2.2 = 0
      · have hsz := open_size (key := key.data.toList) (side := tside) (number := (n : Int)) (s := S.data.toList) (by rw [← HO.out]; exact hE)
        rw [← HO.out] at hsz
        obtain ⟨s1, s2, s3, _, _⟩ := hsz
        rw [bytes_len] at s2
        obtain ⟨k', hk1, hk2, hk3⟩ := drain_step (key := key.data.toList) (side := tside) (n := n) (s := S.data.toList) (by rw [← HO.out]; exact hE) (k := gk) (by rw [bytes_len]; exact SK.out) out
        rw [← HO.out] at hk2 hk3
        have HK1 := Lib.hid hk1
        have HK2 := Lib.hid hk2
        have HK3 := Lib.hid hk3
        clear hk1 hk2 hk3
        obtain ⟨m, hm⟩ : ∃ m : Nat, m = O.2.1 := ⟨_, rfl⟩
        rw [← hm] at s1 s2 s3
        have HM := Lib.hid hm
        rw [← hm]
        rw [hE]
        have hDs : DB.size = O.1.length := by rw [← bytes_len, HDB.out]
        have CW := Lib.hid (wstr_long bb bb out DB wc B6.out (by have := LN.out; omega) S6.out)
        have HD2 := Lib.hid (show (S.extract m S.size).data.toList = S.data.toList.drop m by rw [ex_drop])
        have m2 : (m : Int) ≤ S.size := by omega
        have m4 : m ≤ S.size := s2
        have p1 : IntKind.i64.wrap ((n : Int) + 1) = (n : Int) + 1 := IntWalk.i64_in _ (by omega)
        have hDD := Lib.hid hDs
        have S3 := Lib.hid s3
        clear hm hE s3 hDs
        go_wp2_with (go_at_call 36; refine (CW.out).mono ?_; rintro e v6 ⟨rfl, hB7, hb7⟩; have B7 := Lib.hid hB7; have b7 := Lib.hid hb7; have hlo : wc.heap.size ≤ v6.heap.size := hb7.size; have L7 := Lib.hid (L6.out.below hb7 hlbb); have W7 := Lib.hid (W6.out.below hb7 hwbb); have T7 := Lib.hid (T6.out.thenB hb7 hwb0); have q5 : v6.cell? ⟨lb, 5, none⟩ = some (.string S) := L7.out.cell 5; have f5 := L7.out.frozen 5; have q4 : v6.cell? ⟨lb, 4, none⟩ = some (.int .i64 n) := L7.out.cell 4; have f4 := L7.out.frozen 4; clear hB7 hb7)
        go_roundg k'
        case measure => have := HK1.out; omega
        case rel =>
          have e0 := HM.out
          have e1 := HK1.out
          have e2 := HK2.out
          rw [List.length_drop, bytes_len] at e2
          have e3 := S3.out
          have e4 := LN.out
          refine ⟨n + 1, S.extract m S.size, out ++ O.1, by omega, by rw [ByteArray.size_extract]; omega, ?_, (L7.out.set_ 5 _).set_ 4 _, isB_set (isB_set (by rw [← HDB.out]; exact B7.out) hlbb) hlbb, size_set (size_set (Nat.le_trans S6.out hlo) _ _) _ _, by rw [List.length_append, ByteArray.size_extract]; omega, (T7.out.set1 5 _).set1 4 _, (W7.out.far (p := ⟨lb, 5, none⟩) (Ne.symm hne) _).far (p := ⟨lb, 4, none⟩) (Ne.symm hne) _⟩
          rw [HD2.out, HM.out, ← HK3.out]
          exact DR.out
      · have hst := drain_stop (key := key.data.toList) (side := tside) (n := n) (s := S.data.toList) (by rw [← HO.out]; exact hE) gk out
        rw [DR.out, ← HO.out] at hst
        obtain ⟨E0, hE0⟩ : ∃ E0, E0 = O.2.2 := ⟨_, rfl⟩
        rw [← hE0] at hst hE
        rw [← hE0]
        have HST := Lib.hid hst
        have b0 : (E0 != 0) = true := by rw [bne_iff_ne]; exact hE
        have b0' : (E0 == 0) = false := by rw [beq_eq_false_iff_ne]; exact hE
        have q6 : wc.cell? ⟨lb, 6, none⟩ = some (.bool false) := L6.out.cell 6
        have f6 := L6.out.frozen 6
        have f5 := L6.out.frozen 5
        have q5 : wc.cell? ⟨lb, 5, none⟩ = some (.string S) := L6.out.cell 5
        clear hst hE0 hE
        by_cases h16 : E0 = 16
        · subst h16
          by_cases ho : out.length = 0
          · have CL := Lib.hid (fun W h => blen bb out 0 ho W h)
            have HOE := Lib.hid (List.eq_nil_of_length_eq_zero ho)
            clear ho
            go_wp2_with (go_at_call 38; refine (CL.out _ (isB_set B6.out hlbb)).mono ?_; rintro e v7 ⟨rfl, rfl⟩)
            go_ret2
            rw [show recvR ⟨key, side, sent, n0, left, false⟩ s0 0 = ((⟨#[]⟩, 36), ⟨key, side, sent, n, S, false⟩) by rw [FIN.out, HST.out]; simp [HOE.out]]
            exact ⟨rfl, (L6.out.set_ 6 (.bool false)), (W6.out.far (p := ⟨lb, 6, none⟩) (Ne.symm hne) _), (T6.out.set1 6 _)⟩
          · have CL := Lib.hid (fun W h => blen bb out out.length rfl W h)
            have ho2 : (0 : Int) < (out.length : Int) := by omega
            have ho3 : 0 < out.length := by omega
            have HOE := Lib.hid (show out ≠ [] from fun h => ho (by rw [h]; rfl))
            clear ho
            go_wp2_with (first
              | (go_at_call 38; refine (CL.out _ (isB_set B6.out hlbb)).mono ?_; rintro e v7 ⟨rfl, rfl⟩)
              | (go_at_call 37; refine (Tryd.Builder_String_any_k bb bb out _ (isB_set B6.out hlbb) (size_set S6.out _ _)).mono ?_; rintro e v8 ⟨rfl, _, hb8, _⟩; have b8 := Lib.hid hb8; clear hb8))
            go_ret2
            rw [show recvR ⟨key, side, sent, n0, left, false⟩ s0 0 = ((⟨out.toArray⟩, 0), ⟨key, side, sent, n, S, false⟩) by rw [FIN.out, HST.out]; simp [HOE.out]]
            exact ⟨rfl, (b8.out.block lb hlbb).trans (L6.out.set_ 6 (.bool false)), (b8.out.block wb hwbb).trans (W6.out.far (p := ⟨lb, 6, none⟩) (Ne.symm hne) _), (T6.out.set1 6 _).thenB b8.out hwb0⟩
        · have b1 : (E0 != 16) = true := by rw [bne_iff_ne]; exact h16
          have H16 := Lib.hid h16
          clear h16
          by_cases ho : out.length = 0
          · have CL := Lib.hid (fun W h => blen bb out 0 ho W h)
            have HOE := Lib.hid (List.eq_nil_of_length_eq_zero ho)
            clear ho
            go_wp2_with (go_at_call 38; refine (CL.out _ (isB_set (isB_set B6.out hlbb) hlbb)).mono ?_; rintro e v7 ⟨rfl, rfl⟩)
            go_ret2
            rw [show recvR ⟨key, side, sent, n0, left, false⟩ s0 0 = ((⟨#[]⟩, 28), ⟨key, side, sent, n, ⟨#[]⟩, true⟩) by rw [FIN.out, HST.out]; simp [HOE.out, H16.out]]
            exact ⟨rfl, ((L6.out.set_ 6 (.bool true)).set_ 5 (.string ⟨#[]⟩)), ((W6.out.far (p := ⟨lb, 6, none⟩) (Ne.symm hne) _).far (p := ⟨lb, 5, none⟩) (Ne.symm hne) _), ((T6.out.set1 6 _).set1 5 _)⟩
          · have CL := Lib.hid (fun W h => blen bb out out.length rfl W h)
            have ho2 : (0 : Int) < (out.length : Int) := by omega
            have ho3 : 0 < out.length := by omega
            have HOE := Lib.hid (show out ≠ [] from fun h => ho (by rw [h]; rfl))
            clear ho
            go_wp2_with (first
              | (go_at_call 38; refine (CL.out _ (isB_set (isB_set B6.out hlbb) hlbb)).mono ?_; rintro e v7 ⟨rfl, rfl⟩)
              | (go_at_call 37; refine (Tryd.Builder_String_any_k bb bb out _ (isB_set (isB_set B6.out hlbb) hlbb) (size_set (size_set S6.out _ _) _ _)).mono ?_; rintro e v8 ⟨rfl, _, hb8, _⟩; have b8 := Lib.hid hb8; clear hb8))
            go_ret2
            rw [show recvR ⟨key, side, sent, n0, left, false⟩ s0 0 = ((⟨out.toArray⟩, 0), ⟨key, side, sent, n, ⟨#[]⟩, true⟩) by rw [FIN.out, HST.out]; simp [HOE.out, H16.out]]
            exact ⟨rfl, (b8.out.block lb hlbb).trans ((L6.out.set_ 6 (.bool true)).set_ 5 (.string ⟨#[]⟩)), (b8.out.block wb hwbb).trans ((W6.out.far (p := ⟨lb, 6, none⟩) (Ne.symm hne) _).far (p := ⟨lb, 5, none⟩) (Ne.symm hne) _), ((T6.out.set1 6 _).set1 5 _).thenB b8.out hwb0⟩

set_option maxRecDepth 100000 in
set_option maxHeartbeats 6400000 in
theorem receive_busy (lb wb : Nat) (key : ByteArray) (side sent : Int) (n0 : Nat) (left : ByteArray) (x : Wi) (s0 : ByteArray) (hk : badE key.data.toList side 0 = 0) (hn0 : n0 ≤ 1000000000) (hx : comeR x = (s0, 36)) (hsz : left.size + s0.size ≤ 1000000000)
    (hne : lb ≠ wb) (w : World) (hL : Blk w lb 89 (linkC wb ⟨key, side, sent, n0, left, false⟩)) (hW : Blk w wb 48 (wireC x)) (hT : Tabs w) (hl2 : 2 < lb) (hw2 : 2 < wb) :
    Calls Tryd.prog 15 #[.pointer (some ⟨lb, 0, none⟩)] w fun e w' => e = .returned (.tuple #[.string (recvR ⟨key, side, sent, n0, left, false⟩ s0 36).1.1, .int .i64 (recvR ⟨key, side, sent, n0, left, false⟩ s0 36).1.2]) ∧ Blk w' lb 89 (linkC wb (recvR ⟨key, side, sent, n0, left, false⟩ s0 36).2) ∧ Blk w' wb 48 (wireC (comeX x)) ∧ Two lb wb w w' := by
  obtain ⟨L1, hL1⟩ : ∃ L1 : ByteArray, L1 = left := ⟨_, rfl⟩
  have hL1s : L1.size ≤ 1000000000 := by rw [hL1]; omega
  obtain ⟨R, hR⟩ : ∃ R, R = drain key.data.toList (3 - side) L1.size n0 L1.data.toList [] := ⟨_, rfl⟩
  have FIN : Hid (recvR ⟨key, side, sent, n0, left, false⟩ s0 36 = ((if R.1 = [] then (⟨#[]⟩, if R.2.2.2 ≠ 16 then 28 else 36) else (⟨R.1.toArray⟩, 0)), ⟨key, side, sent, R.2.2.1, if R.2.2.2 ≠ 16 then ⟨#[]⟩ else ⟨R.2.1.toArray⟩, decide (R.2.2.2 ≠ 16)⟩)) := by
    refine Lib.hid ?_
    rw [hR, hL1]
    unfold recvR
    simp
  have hs := (bad_ok' hk).2
  have hbt : badE key.data.toList (3 - side) 0 = 0 := by
    have hkl := (bad_ok' hk).1
    unfold badE
    rw [if_neg (by simp [hkl]), if_neg (by omega), if_neg (by omega)]
  have CE := Lib.hid (fun W (hb : Below w.heap.size w W) => ended_any lb wb ⟨key, side, sent, n0, left, false⟩ W (keepBlk hb hL))
  have CX := Lib.hid (wrecv_any wb wb x w hW)
  rw [hx] at CX
  obtain ⟨tside, hts⟩ : ∃ t, t = 3 - side := ⟨_, rfl⟩
  rw [← hts] at hbt hR
  have w3 : IntKind.i64.wrap (3 - side) = tside := by rw [hts]; exact IntWalk.i64_in _ (by omega)
  have w4 : IntKind.i64.wrap tside = tside := IntWalk.i64_in _ (by omega)
  have w3' : (3 : Int) - side = tside := hts.symm
  have HL := Lib.hid hL
  have HT := Lib.hid hT
  have q0 : w.cell? ⟨lb, 0, none⟩ = some (.iface 38 (.pointer (some ⟨wb, 0, none⟩))) := hL.cell 0
  have HR := Lib.hid hR
  have HBT := Lib.hid hbt
  subst hL1
  clear hts hs hL hT hW hx hR hbt hk hsz
  go_enter Tryd.func15, Tryd.ntmps15
  go_upto_region 4 with (first
    | (go_at_call 16; refine (CE.out _ (Below.refl _ _)).mono ?_; rintro e v1 ⟨rfl, rfl⟩)
    | (go_at_call 95; refine (CX.out).mono ?_; rintro e v2 ⟨rfl, hW2, hT2⟩; have L2 := Lib.hid (hT2.blk HL.out hne hne); have W2 := Lib.hid hW2; have T2 := Lib.hid (hT2.widen' lb); clear hW2 hT2))
  go_wp2_with fail
  obtain ⟨V3, hV3⟩ : ∃ V3, V3 = v2 := ⟨_, rfl⟩
  have L3 : Hid (Blk V3 lb 89 (linkC wb ⟨key, side, sent, n0, L1, false⟩)) := by rw [hV3]; exact L2
  have W3 : Hid (Blk V3 wb 48 (wireC (comeX x))) := by rw [hV3]; exact W2
  have T3 : Hid (Two lb wb w V3) := by rw [hV3]; exact T2
  rw [← hV3]
  clear hV3
  obtain ⟨bb, hbb⟩ : ∃ bb, bb = V3.heap.size := ⟨_, rfl⟩
  obtain ⟨V4, hV4⟩ : ∃ V4, V4 = V3.alloc (.cells #[.pointer none, .slice none 0 0] 85) := ⟨_, rfl⟩
  have B4 : Hid (Lib.IsBuilderF 85 5 bb bb (Lib.byteCells []) V4) := by rw [hV4, hbb]; exact Lib.hid (Lib.IsBuilderF.of (Lib.fresh_isBuilder 85 5 V3))
  have hb34 : Below V3.heap.size V3 V4 := by rw [hV4]; exact (Below.refl _ _).alloc (Nat.le_refl _) _
  have L4 := Lib.hid (keepBlk hb34 L3.out)
  have W4 := Lib.hid (keepBlk hb34 W3.out)
  have T4 := Lib.hid (T3.out.trans (Two.of hb34))
  have S4 : Hid (bb ≤ V4.heap.size) := by rw [hbb]; exact Lib.hid hb34.size
  have hlbb : lb < bb := by rw [hbb]; exact L3.out.lt
  have hwb0 : w.heap.size ≤ bb := by rw [hbb]; exact T3.out.size
  have hwbb : wb < bb := by rw [hbb]; exact W3.out.lt
  rw [← hV4, ← hbb]
  clear hV4 hbb hb34 L3 T3 W3
  go_loopg [] L1.size (fun k wr => ∃ (n : Nat) (S : ByteArray) (out : List UInt8), n + k ≤ n0 + L1.size ∧ S.size ≤ k ∧ drain key.data.toList tside k n S.data.toList out = R ∧ Blk wr lb 89 (linkC wb ⟨key, side, sent, n, S, false⟩) ∧ Lib.IsBuilderF 85 5 bb bb (Lib.byteCells out) wr ∧ bb ≤ wr.heap.size ∧ out.length + S.size ≤ L1.size ∧ Two lb wb w wr ∧ Blk wr wb 48 (wireC (comeX x)))
  case atStart => exact ⟨n0, L1, [], Nat.le_refl _, Nat.le_refl _, HR.out.symm, L4.out, B4.out, S4.out, by simp, T4.out, W4.out⟩
  case round =>
    obtain ⟨n, S, out, hnk, hSk, hdr, hL5, hB5, hS5, hlen, hT5, hW5⟩ := hrel
    have L5 := Lib.hid hL5
    have B5 := Lib.hid hB5
    have S5 := Lib.hid hS5
    have T5 := Lib.hid hT5
    have W5 := Lib.hid hW5
    have DR := Lib.hid hdr
    have SK := Lib.hid hSk
    have LN := Lib.hid hlen
    have hnb : n ≤ 2000000000 := by omega
    have TB := Lib.hid (T5.out.tabs HT.out hl2 hw2)
    have q1 : wr.cell? ⟨lb, 1, none⟩ = some (.string key) := L5.out.cell 1
    have q2 : wr.cell? ⟨lb, 2, none⟩ = some (.int .i64 side) := L5.out.cell 2
    have q4 : wr.cell? ⟨lb, 4, none⟩ = some (.int .i64 n) := L5.out.cell 4
    have q5 : wr.cell? ⟨lb, 5, none⟩ = some (.string S) := L5.out.cell 5
    have CO := Lib.hid (fun W (hW : Tabs W) => open_any key S tside n (by omega) (by omega) W hW)
    obtain ⟨O, hO⟩ : ∃ O, O = openR key.data.toList tside n S.data.toList := ⟨_, rfl⟩
    rw [← hO] at CO
    obtain ⟨DB, hDB⟩ : ∃ D : ByteArray, D = ⟨O.1.toArray⟩ := ⟨_, rfl⟩
    have HDB := Lib.hid (show DB.data.toList = O.1 by rw [hDB])
    unfold str at CO
    rw [← hDB] at CO
    have HO := Lib.hid hO
    clear hL5 hB5 hS5 hT5 hW5 hdr hSk hlen hO hDB
    go_upto_region 12 with fail
    go_cut [7, 8, 9] (fun c7 c8 c9 wx => c7 = .string DB ∧ c8 = .int .i64 O.2.1 ∧ c9 = .int .i64 O.2.2 ∧ Below wr.heap.size wr wx)
    case first =>
      go_region_held3 (fun W => W.cell? ⟨lb, 1, none⟩ = some (.string key) ∧ W.cell? ⟨lb, 2, none⟩ = some (.int .i64 side) ∧ W.cell? ⟨lb, 4, none⟩ = some (.int .i64 n) ∧ W.cell? ⟨lb, 5, none⟩ = some (.string S)) (first | go_keep | exact ⟨r1, r2, r4, r5⟩) (first
        | (go_at_call 11; refine (CO.out _ (TB.out.drew)).mono ?_; rintro e v5 ⟨rfl, hb5⟩; have B6 := Lib.hid (keepBelow (Below.drew (Below.refl _ _)) hb5); have r1 : v5.cell? ⟨lb, 1, none⟩ = some (.string key) := (keepBlk B6.out L5.out).cell 1; have r2 : v5.cell? ⟨lb, 2, none⟩ = some (.int .i64 side) := (keepBlk B6.out L5.out).cell 2; have r4 : v5.cell? ⟨lb, 4, none⟩ = some (.int .i64 n) := (keepBlk B6.out L5.out).cell 4; have r5 : v5.cell? ⟨lb, 5, none⟩ = some (.string S) := (keepBlk B6.out L5.out).cell 5; clear hb5))
      all_goals
        go_wp2_with fail
        go_meet
        exact ⟨rfl, rfl, rfl, B6.out⟩
    case rest =>
      obtain ⟨rfl, rfl, rfl, hb5⟩ := hcut
      have L6 := Lib.hid (keepBlk hb5 L5.out)
      have W6 := Lib.hid (keepBlk hb5 W5.out)
      have B6 := Lib.hid (isB_below B5.out hb5)
      have S6 := Lib.hid (Nat.le_trans S5.out hb5.size)
      have T6 := Lib.hid (T5.out.trans (Two.of hb5))
      clear hb5 q1 q2 q4 q5 CO
      by_cases hE : O.2.2 = 0
      · have hsz := open_size (key := key.data.toList) (side := tside) (number := (n : Int)) (s := S.data.toList) (by rw [← HO.out]; exact hE)
        rw [← HO.out] at hsz
        obtain ⟨s1, s2, s3, _, _⟩ := hsz
        rw [bytes_len] at s2
        obtain ⟨k', hk1, hk2, hk3⟩ := drain_step (key := key.data.toList) (side := tside) (n := n) (s := S.data.toList) (by rw [← HO.out]; exact hE) (k := gk) (by rw [bytes_len]; exact SK.out) out
        rw [← HO.out] at hk2 hk3
        have HK1 := Lib.hid hk1
        have HK2 := Lib.hid hk2
        have HK3 := Lib.hid hk3
        clear hk1 hk2 hk3
        obtain ⟨m, hm⟩ : ∃ m : Nat, m = O.2.1 := ⟨_, rfl⟩
        rw [← hm] at s1 s2 s3
        have HM := Lib.hid hm
        rw [← hm]
        rw [hE]
        have hDs : DB.size = O.1.length := by rw [← bytes_len, HDB.out]
        have CW := Lib.hid (wstr_long bb bb out DB wc B6.out (by have := LN.out; omega) S6.out)
        have HD2 := Lib.hid (show (S.extract m S.size).data.toList = S.data.toList.drop m by rw [ex_drop])
        have m2 : (m : Int) ≤ S.size := by omega
        have m4 : m ≤ S.size := s2
        have p1 : IntKind.i64.wrap ((n : Int) + 1) = (n : Int) + 1 := IntWalk.i64_in _ (by omega)
        have hDD := Lib.hid hDs
        have S3 := Lib.hid s3
        clear hm hE s3 hDs
        go_wp2_with (go_at_call 36; refine (CW.out).mono ?_; rintro e v6 ⟨rfl, hB7, hb7⟩; have B7 := Lib.hid hB7; have b7 := Lib.hid hb7; have hlo : wc.heap.size ≤ v6.heap.size := hb7.size; have L7 := Lib.hid (L6.out.below hb7 hlbb); have W7 := Lib.hid (W6.out.below hb7 hwbb); have T7 := Lib.hid (T6.out.thenB hb7 hwb0); have q5 : v6.cell? ⟨lb, 5, none⟩ = some (.string S) := L7.out.cell 5; have f5 := L7.out.frozen 5; have q4 : v6.cell? ⟨lb, 4, none⟩ = some (.int .i64 n) := L7.out.cell 4; have f4 := L7.out.frozen 4; clear hB7 hb7)
        go_roundg k'
        case measure => have := HK1.out; omega
        case rel =>
          have e0 := HM.out
          have e1 := HK1.out
          have e2 := HK2.out
          rw [List.length_drop, bytes_len] at e2
          have e3 := S3.out
          have e4 := LN.out
          refine ⟨n + 1, S.extract m S.size, out ++ O.1, by omega, by rw [ByteArray.size_extract]; omega, ?_, (L7.out.set_ 5 _).set_ 4 _, isB_set (isB_set (by rw [← HDB.out]; exact B7.out) hlbb) hlbb, size_set (size_set (Nat.le_trans S6.out hlo) _ _) _ _, by rw [List.length_append, ByteArray.size_extract]; omega, (T7.out.set1 5 _).set1 4 _, (W7.out.far (p := ⟨lb, 5, none⟩) (Ne.symm hne) _).far (p := ⟨lb, 4, none⟩) (Ne.symm hne) _⟩
          rw [HD2.out, HM.out, ← HK3.out]
          exact DR.out
      · have hst := drain_stop (key := key.data.toList) (side := tside) (n := n) (s := S.data.toList) (by rw [← HO.out]; exact hE) gk out
        rw [DR.out, ← HO.out] at hst
        obtain ⟨E0, hE0⟩ : ∃ E0, E0 = O.2.2 := ⟨_, rfl⟩
        rw [← hE0] at hst hE
        rw [← hE0]
        have HST := Lib.hid hst
        have b0 : (E0 != 0) = true := by rw [bne_iff_ne]; exact hE
        have b0' : (E0 == 0) = false := by rw [beq_eq_false_iff_ne]; exact hE
        have q6 : wc.cell? ⟨lb, 6, none⟩ = some (.bool false) := L6.out.cell 6
        have f6 := L6.out.frozen 6
        have f5 := L6.out.frozen 5
        have q5 : wc.cell? ⟨lb, 5, none⟩ = some (.string S) := L6.out.cell 5
        clear hst hE0 hE
        by_cases h16 : E0 = 16
        · subst h16
          by_cases ho : out.length = 0
          · have CL := Lib.hid (fun W h => blen bb out 0 ho W h)
            have HOE := Lib.hid (List.eq_nil_of_length_eq_zero ho)
            clear ho
            go_wp2_with (go_at_call 38; refine (CL.out _ (isB_set B6.out hlbb)).mono ?_; rintro e v7 ⟨rfl, rfl⟩)
            go_ret2
            rw [show recvR ⟨key, side, sent, n0, L1, false⟩ s0 36 = ((⟨#[]⟩, 36), ⟨key, side, sent, n, S, false⟩) by rw [FIN.out, HST.out]; simp [HOE.out]]
            exact ⟨rfl, (L6.out.set_ 6 (.bool false)), (W6.out.far (p := ⟨lb, 6, none⟩) (Ne.symm hne) _), (T6.out.set1 6 _)⟩
          · have CL := Lib.hid (fun W h => blen bb out out.length rfl W h)
            have ho2 : (0 : Int) < (out.length : Int) := by omega
            have ho3 : 0 < out.length := by omega
            have HOE := Lib.hid (show out ≠ [] from fun h => ho (by rw [h]; rfl))
            clear ho
            go_wp2_with (first
              | (go_at_call 38; refine (CL.out _ (isB_set B6.out hlbb)).mono ?_; rintro e v7 ⟨rfl, rfl⟩)
              | (go_at_call 37; refine (Tryd.Builder_String_any_k bb bb out _ (isB_set B6.out hlbb) (size_set S6.out _ _)).mono ?_; rintro e v8 ⟨rfl, _, hb8, _⟩; have b8 := Lib.hid hb8; clear hb8))
            go_ret2
            rw [show recvR ⟨key, side, sent, n0, L1, false⟩ s0 36 = ((⟨out.toArray⟩, 0), ⟨key, side, sent, n, S, false⟩) by rw [FIN.out, HST.out]; simp [HOE.out]]
            exact ⟨rfl, (b8.out.block lb hlbb).trans (L6.out.set_ 6 (.bool false)), (b8.out.block wb hwbb).trans (W6.out.far (p := ⟨lb, 6, none⟩) (Ne.symm hne) _), (T6.out.set1 6 _).thenB b8.out hwb0⟩
        · have b1 : (E0 != 16) = true := by rw [bne_iff_ne]; exact h16
          have H16 := Lib.hid h16
          clear h16
          by_cases ho : out.length = 0
          · have CL := Lib.hid (fun W h => blen bb out 0 ho W h)
            have HOE := Lib.hid (List.eq_nil_of_length_eq_zero ho)
            clear ho
            go_wp2_with (go_at_call 38; refine (CL.out _ (isB_set (isB_set B6.out hlbb) hlbb)).mono ?_; rintro e v7 ⟨rfl, rfl⟩)
            go_ret2
            rw [show recvR ⟨key, side, sent, n0, L1, false⟩ s0 36 = ((⟨#[]⟩, 28), ⟨key, side, sent, n, ⟨#[]⟩, true⟩) by rw [FIN.out, HST.out]; simp [HOE.out, H16.out]]
            exact ⟨rfl, ((L6.out.set_ 6 (.bool true)).set_ 5 (.string ⟨#[]⟩)), ((W6.out.far (p := ⟨lb, 6, none⟩) (Ne.symm hne) _).far (p := ⟨lb, 5, none⟩) (Ne.symm hne) _), ((T6.out.set1 6 _).set1 5 _)⟩
          · have CL := Lib.hid (fun W h => blen bb out out.length rfl W h)
            have ho2 : (0 : Int) < (out.length : Int) := by omega
            have ho3 : 0 < out.length := by omega
            have HOE := Lib.hid (show out ≠ [] from fun h => ho (by rw [h]; rfl))
            clear ho
            go_wp2_with (first
              | (go_at_call 38; refine (CL.out _ (isB_set (isB_set B6.out hlbb) hlbb)).mono ?_; rintro e v7 ⟨rfl, rfl⟩)
              | (go_at_call 37; refine (Tryd.Builder_String_any_k bb bb out _ (isB_set (isB_set B6.out hlbb) hlbb) (size_set (size_set S6.out _ _) _ _)).mono ?_; rintro e v8 ⟨rfl, _, hb8, _⟩; have b8 := Lib.hid hb8; clear hb8))
            go_ret2
            rw [show recvR ⟨key, side, sent, n0, L1, false⟩ s0 36 = ((⟨out.toArray⟩, 0), ⟨key, side, sent, n, ⟨#[]⟩, true⟩) by rw [FIN.out, HST.out]; simp [HOE.out, H16.out]]
            exact ⟨rfl, (b8.out.block lb hlbb).trans ((L6.out.set_ 6 (.bool true)).set_ 5 (.string ⟨#[]⟩)), (b8.out.block wb hwbb).trans ((W6.out.far (p := ⟨lb, 6, none⟩) (Ne.symm hne) _).far (p := ⟨lb, 5, none⟩) (Ne.symm hne) _), ((T6.out.set1 6 _).set1 5 _).thenB b8.out hwb0⟩

set_option maxRecDepth 100000 in
set_option maxHeartbeats 6400000 in
theorem receive_cut (lb wb : Nat) (key : ByteArray) (side sent : Int) (n0 : Nat) (left : ByteArray) (x : Wi) (s0 : ByteArray) (hk : badE key.data.toList side 0 = 0) (hn0 : n0 ≤ 1000000000) (hx : comeR x = (s0, 28)) (hsz : left.size + s0.size ≤ 1000000000)
    (hne : lb ≠ wb) (w : World) (hL : Blk w lb 89 (linkC wb ⟨key, side, sent, n0, left, false⟩)) (hW : Blk w wb 48 (wireC x)) (hT : Tabs w) (hl2 : 2 < lb) (hw2 : 2 < wb) :
    Calls Tryd.prog 15 #[.pointer (some ⟨lb, 0, none⟩)] w fun e w' => e = .returned (.tuple #[.string (recvR ⟨key, side, sent, n0, left, false⟩ s0 28).1.1, .int .i64 (recvR ⟨key, side, sent, n0, left, false⟩ s0 28).1.2]) ∧ Blk w' lb 89 (linkC wb (recvR ⟨key, side, sent, n0, left, false⟩ s0 28).2) ∧ Blk w' wb 48 (wireC (comeX x)) ∧ Two lb wb w w' := by
  obtain ⟨L1, hL1⟩ : ∃ L1 : ByteArray, L1 = left := ⟨_, rfl⟩
  have hL1s : L1.size ≤ 1000000000 := by rw [hL1]; omega
  obtain ⟨R, hR⟩ : ∃ R, R = drain key.data.toList (3 - side) L1.size n0 L1.data.toList [] := ⟨_, rfl⟩
  have FIN : Hid (recvR ⟨key, side, sent, n0, left, false⟩ s0 28 = ((if R.1 = [] then (⟨#[]⟩, if True then 28 else 36) else (⟨R.1.toArray⟩, 0)), ⟨key, side, sent, R.2.2.1, if True then ⟨#[]⟩ else ⟨R.2.1.toArray⟩, decide (True)⟩)) := by
    refine Lib.hid ?_
    rw [hR, hL1]
    unfold recvR
    simp
  have hs := (bad_ok' hk).2
  have hbt : badE key.data.toList (3 - side) 0 = 0 := by
    have hkl := (bad_ok' hk).1
    unfold badE
    rw [if_neg (by simp [hkl]), if_neg (by omega), if_neg (by omega)]
  have CE := Lib.hid (fun W (hb : Below w.heap.size w W) => ended_any lb wb ⟨key, side, sent, n0, left, false⟩ W (keepBlk hb hL))
  have CX := Lib.hid (wrecv_any wb wb x w hW)
  rw [hx] at CX
  obtain ⟨tside, hts⟩ : ∃ t, t = 3 - side := ⟨_, rfl⟩
  rw [← hts] at hbt hR
  have w3 : IntKind.i64.wrap (3 - side) = tside := by rw [hts]; exact IntWalk.i64_in _ (by omega)
  have w4 : IntKind.i64.wrap tside = tside := IntWalk.i64_in _ (by omega)
  have w3' : (3 : Int) - side = tside := hts.symm
  have HL := Lib.hid hL
  have HT := Lib.hid hT
  have q0 : w.cell? ⟨lb, 0, none⟩ = some (.iface 38 (.pointer (some ⟨wb, 0, none⟩))) := hL.cell 0
  have HR := Lib.hid hR
  have HBT := Lib.hid hbt
  subst hL1
  clear hts hs hL hT hW hx hR hbt hk hsz
  go_enter Tryd.func15, Tryd.ntmps15
  go_upto_region 4 with (first
    | (go_at_call 16; refine (CE.out _ (Below.refl _ _)).mono ?_; rintro e v1 ⟨rfl, rfl⟩)
    | (go_at_call 95; refine (CX.out).mono ?_; rintro e v2 ⟨rfl, hW2, hT2⟩; have L2 := Lib.hid (hT2.blk HL.out hne hne); have W2 := Lib.hid hW2; have T2 := Lib.hid (hT2.widen' lb); clear hW2 hT2))
  have q6 : v2.cell? ⟨lb, 6, none⟩ = some (.bool false) := L2.out.cell 6
  have f6 := L2.out.frozen 6
  go_upto_region 11 with fail
  obtain ⟨V3, hV3⟩ : ∃ V3, V3 = v2.setCell ⟨lb, 6, none⟩ (.bool true) := ⟨_, rfl⟩
  have L3 : Hid (Blk V3 lb 89 (linkC wb ⟨key, side, sent, n0, L1, true⟩)) := by rw [hV3]; exact Lib.hid (L2.out.set_ 6 _)
  have W3 : Hid (Blk V3 wb 48 (wireC (comeX x))) := by rw [hV3]; exact Lib.hid (W2.out.far (p := ⟨lb, 6, none⟩) (Ne.symm hne) _)
  have T3 : Hid (Two lb wb w V3) := by rw [hV3]; exact Lib.hid (T2.out.set1 6 _)
  rw [← hV3]
  clear hV3 q6 f6
  go_wp2_with fail
  obtain ⟨bb, hbb⟩ : ∃ bb, bb = V3.heap.size := ⟨_, rfl⟩
  obtain ⟨V4, hV4⟩ : ∃ V4, V4 = V3.alloc (.cells #[.pointer none, .slice none 0 0] 85) := ⟨_, rfl⟩
  have B4 : Hid (Lib.IsBuilderF 85 5 bb bb (Lib.byteCells []) V4) := by rw [hV4, hbb]; exact Lib.hid (Lib.IsBuilderF.of (Lib.fresh_isBuilder 85 5 V3))
  have hb34 : Below V3.heap.size V3 V4 := by rw [hV4]; exact (Below.refl _ _).alloc (Nat.le_refl _) _
  have L4 := Lib.hid (keepBlk hb34 L3.out)
  have W4 := Lib.hid (keepBlk hb34 W3.out)
  have T4 := Lib.hid (T3.out.trans (Two.of hb34))
  have S4 : Hid (bb ≤ V4.heap.size) := by rw [hbb]; exact Lib.hid hb34.size
  have hlbb : lb < bb := by rw [hbb]; exact L3.out.lt
  have hwb0 : w.heap.size ≤ bb := by rw [hbb]; exact T3.out.size
  have hwbb : wb < bb := by rw [hbb]; exact W3.out.lt
  rw [← hV4, ← hbb]
  clear hV4 hbb hb34 L3 T3 W3
  go_loopg [] L1.size (fun k wr => ∃ (n : Nat) (S : ByteArray) (out : List UInt8), n + k ≤ n0 + L1.size ∧ S.size ≤ k ∧ drain key.data.toList tside k n S.data.toList out = R ∧ Blk wr lb 89 (linkC wb ⟨key, side, sent, n, S, true⟩) ∧ Lib.IsBuilderF 85 5 bb bb (Lib.byteCells out) wr ∧ bb ≤ wr.heap.size ∧ out.length + S.size ≤ L1.size ∧ Two lb wb w wr ∧ Blk wr wb 48 (wireC (comeX x)))
  case atStart => exact ⟨n0, L1, [], Nat.le_refl _, Nat.le_refl _, HR.out.symm, L4.out, B4.out, S4.out, by simp, T4.out, W4.out⟩
  case round =>
    obtain ⟨n, S, out, hnk, hSk, hdr, hL5, hB5, hS5, hlen, hT5, hW5⟩ := hrel
    have L5 := Lib.hid hL5
    have B5 := Lib.hid hB5
    have S5 := Lib.hid hS5
    have T5 := Lib.hid hT5
    have W5 := Lib.hid hW5
    have DR := Lib.hid hdr
    have SK := Lib.hid hSk
    have LN := Lib.hid hlen
    have hnb : n ≤ 2000000000 := by omega
    have TB := Lib.hid (T5.out.tabs HT.out hl2 hw2)
    have q1 : wr.cell? ⟨lb, 1, none⟩ = some (.string key) := L5.out.cell 1
    have q2 : wr.cell? ⟨lb, 2, none⟩ = some (.int .i64 side) := L5.out.cell 2
    have q4 : wr.cell? ⟨lb, 4, none⟩ = some (.int .i64 n) := L5.out.cell 4
    have q5 : wr.cell? ⟨lb, 5, none⟩ = some (.string S) := L5.out.cell 5
    have CO := Lib.hid (fun W (hW : Tabs W) => open_any key S tside n (by omega) (by omega) W hW)
    obtain ⟨O, hO⟩ : ∃ O, O = openR key.data.toList tside n S.data.toList := ⟨_, rfl⟩
    rw [← hO] at CO
    obtain ⟨DB, hDB⟩ : ∃ D : ByteArray, D = ⟨O.1.toArray⟩ := ⟨_, rfl⟩
    have HDB := Lib.hid (show DB.data.toList = O.1 by rw [hDB])
    unfold str at CO
    rw [← hDB] at CO
    have HO := Lib.hid hO
    clear hL5 hB5 hS5 hT5 hW5 hdr hSk hlen hO hDB
    go_upto_region 12 with fail
    go_cut [7, 8, 9] (fun c7 c8 c9 wx => c7 = .string DB ∧ c8 = .int .i64 O.2.1 ∧ c9 = .int .i64 O.2.2 ∧ Below wr.heap.size wr wx)
    case first =>
      go_region_held3 (fun W => W.cell? ⟨lb, 1, none⟩ = some (.string key) ∧ W.cell? ⟨lb, 2, none⟩ = some (.int .i64 side) ∧ W.cell? ⟨lb, 4, none⟩ = some (.int .i64 n) ∧ W.cell? ⟨lb, 5, none⟩ = some (.string S)) (first | go_keep | exact ⟨r1, r2, r4, r5⟩) (first
        | (go_at_call 11; refine (CO.out _ (TB.out.drew)).mono ?_; rintro e v5 ⟨rfl, hb5⟩; have B6 := Lib.hid (keepBelow (Below.drew (Below.refl _ _)) hb5); have r1 : v5.cell? ⟨lb, 1, none⟩ = some (.string key) := (keepBlk B6.out L5.out).cell 1; have r2 : v5.cell? ⟨lb, 2, none⟩ = some (.int .i64 side) := (keepBlk B6.out L5.out).cell 2; have r4 : v5.cell? ⟨lb, 4, none⟩ = some (.int .i64 n) := (keepBlk B6.out L5.out).cell 4; have r5 : v5.cell? ⟨lb, 5, none⟩ = some (.string S) := (keepBlk B6.out L5.out).cell 5; clear hb5))
      all_goals
        go_wp2_with fail
        go_meet
        exact ⟨rfl, rfl, rfl, B6.out⟩
    case rest =>
      obtain ⟨rfl, rfl, rfl, hb5⟩ := hcut
      have L6 := Lib.hid (keepBlk hb5 L5.out)
      have W6 := Lib.hid (keepBlk hb5 W5.out)
      have B6 := Lib.hid (isB_below B5.out hb5)
      have S6 := Lib.hid (Nat.le_trans S5.out hb5.size)
      have T6 := Lib.hid (T5.out.trans (Two.of hb5))
      clear hb5 q1 q2 q4 q5 CO
      by_cases hE : O.2.2 = 0
      · have hsz := open_size (key := key.data.toList) (side := tside) (number := (n : Int)) (s := S.data.toList) (by rw [← HO.out]; exact hE)
        rw [← HO.out] at hsz
        obtain ⟨s1, s2, s3, _, _⟩ := hsz
        rw [bytes_len] at s2
        obtain ⟨k', hk1, hk2, hk3⟩ := drain_step (key := key.data.toList) (side := tside) (n := n) (s := S.data.toList) (by rw [← HO.out]; exact hE) (k := gk) (by rw [bytes_len]; exact SK.out) out
        rw [← HO.out] at hk2 hk3
        have HK1 := Lib.hid hk1
        have HK2 := Lib.hid hk2
        have HK3 := Lib.hid hk3
        clear hk1 hk2 hk3
        obtain ⟨m, hm⟩ : ∃ m : Nat, m = O.2.1 := ⟨_, rfl⟩
        rw [← hm] at s1 s2 s3
        have HM := Lib.hid hm
        rw [← hm]
        rw [hE]
        have hDs : DB.size = O.1.length := by rw [← bytes_len, HDB.out]
        have CW := Lib.hid (wstr_long bb bb out DB wc B6.out (by have := LN.out; omega) S6.out)
        have HD2 := Lib.hid (show (S.extract m S.size).data.toList = S.data.toList.drop m by rw [ex_drop])
        have m2 : (m : Int) ≤ S.size := by omega
        have m4 : m ≤ S.size := s2
        have p1 : IntKind.i64.wrap ((n : Int) + 1) = (n : Int) + 1 := IntWalk.i64_in _ (by omega)
        have hDD := Lib.hid hDs
        have S3 := Lib.hid s3
        clear hm hE s3 hDs
        go_wp2_with (go_at_call 36; refine (CW.out).mono ?_; rintro e v6 ⟨rfl, hB7, hb7⟩; have B7 := Lib.hid hB7; have b7 := Lib.hid hb7; have hlo : wc.heap.size ≤ v6.heap.size := hb7.size; have L7 := Lib.hid (L6.out.below hb7 hlbb); have W7 := Lib.hid (W6.out.below hb7 hwbb); have T7 := Lib.hid (T6.out.thenB hb7 hwb0); have q5 : v6.cell? ⟨lb, 5, none⟩ = some (.string S) := L7.out.cell 5; have f5 := L7.out.frozen 5; have q4 : v6.cell? ⟨lb, 4, none⟩ = some (.int .i64 n) := L7.out.cell 4; have f4 := L7.out.frozen 4; clear hB7 hb7)
        go_roundg k'
        case measure => have := HK1.out; omega
        case rel =>
          have e0 := HM.out
          have e1 := HK1.out
          have e2 := HK2.out
          rw [List.length_drop, bytes_len] at e2
          have e3 := S3.out
          have e4 := LN.out
          refine ⟨n + 1, S.extract m S.size, out ++ O.1, by omega, by rw [ByteArray.size_extract]; omega, ?_, (L7.out.set_ 5 _).set_ 4 _, isB_set (isB_set (by rw [← HDB.out]; exact B7.out) hlbb) hlbb, size_set (size_set (Nat.le_trans S6.out hlo) _ _) _ _, by rw [List.length_append, ByteArray.size_extract]; omega, (T7.out.set1 5 _).set1 4 _, (W7.out.far (p := ⟨lb, 5, none⟩) (Ne.symm hne) _).far (p := ⟨lb, 4, none⟩) (Ne.symm hne) _⟩
          rw [HD2.out, HM.out, ← HK3.out]
          exact DR.out
      · have hst := drain_stop (key := key.data.toList) (side := tside) (n := n) (s := S.data.toList) (by rw [← HO.out]; exact hE) gk out
        rw [DR.out, ← HO.out] at hst
        obtain ⟨E0, hE0⟩ : ∃ E0, E0 = O.2.2 := ⟨_, rfl⟩
        rw [← hE0] at hst hE
        rw [← hE0]
        have HST := Lib.hid hst
        have b0 : (E0 != 0) = true := by rw [bne_iff_ne]; exact hE
        have b0' : (E0 == 0) = false := by rw [beq_eq_false_iff_ne]; exact hE
        have q6 : wc.cell? ⟨lb, 6, none⟩ = some (.bool true) := L6.out.cell 6
        have f6 := L6.out.frozen 6
        have f5 := L6.out.frozen 5
        have q5 : wc.cell? ⟨lb, 5, none⟩ = some (.string S) := L6.out.cell 5
        clear hst hE0 hE
        by_cases ho : out.length = 0
        · have CL := Lib.hid (fun W h => blen bb out 0 ho W h)
          have HOE := Lib.hid (List.eq_nil_of_length_eq_zero ho)
          clear ho
          go_wp2_with (go_at_call 38; refine (CL.out _ (isB_set (isB_set B6.out hlbb) hlbb)).mono ?_; rintro e v7 ⟨rfl, rfl⟩)
          go_ret2
          rw [show recvR ⟨key, side, sent, n0, L1, false⟩ s0 28 = ((⟨#[]⟩, 28), ⟨key, side, sent, n, ⟨#[]⟩, true⟩) by rw [FIN.out, HST.out]; simp [HOE.out]]
          exact ⟨rfl, ((L6.out.set_ 6 (.bool true)).set_ 5 (.string ⟨#[]⟩)), ((W6.out.far (p := ⟨lb, 6, none⟩) (Ne.symm hne) _).far (p := ⟨lb, 5, none⟩) (Ne.symm hne) _), ((T6.out.set1 6 _).set1 5 _)⟩
        · have CL := Lib.hid (fun W h => blen bb out out.length rfl W h)
          have ho2 : (0 : Int) < (out.length : Int) := by omega
          have ho3 : 0 < out.length := by omega
          have HOE := Lib.hid (show out ≠ [] from fun h => ho (by rw [h]; rfl))
          clear ho
          go_wp2_with (first
            | (go_at_call 38; refine (CL.out _ (isB_set (isB_set B6.out hlbb) hlbb)).mono ?_; rintro e v7 ⟨rfl, rfl⟩)
            | (go_at_call 37; refine (Tryd.Builder_String_any_k bb bb out _ (isB_set (isB_set B6.out hlbb) hlbb) (size_set (size_set S6.out _ _) _ _)).mono ?_; rintro e v8 ⟨rfl, _, hb8, _⟩; have b8 := Lib.hid hb8; clear hb8))
          go_ret2
          rw [show recvR ⟨key, side, sent, n0, L1, false⟩ s0 28 = ((⟨out.toArray⟩, 0), ⟨key, side, sent, n, ⟨#[]⟩, true⟩) by rw [FIN.out, HST.out]; simp [HOE.out]]
          exact ⟨rfl, (b8.out.block lb hlbb).trans ((L6.out.set_ 6 (.bool true)).set_ 5 (.string ⟨#[]⟩)), (b8.out.block wb hwbb).trans ((W6.out.far (p := ⟨lb, 6, none⟩) (Ne.symm hne) _).far (p := ⟨lb, 5, none⟩) (Ne.symm hne) _), ((T6.out.set1 6 _).set1 5 _).thenB b8.out hwb0⟩
end Go.Proofs.YtmblnacckboggaaDoor
