/- The law's two sides: receive (17), agree (23). -/
import Derived.Test.YtmblnacckboggaaDoorP8
namespace Go.Proofs.YtmblnacckboggaaDoor
open Go.RowKit
def cutN (n : Int) (y : ByteArray) : Nat := (min (max n 0) (y.size : Int)).toNat
def comeB (n at_ : Int) (by_ : UInt8) (y : ByteArray) : ByteArray := ⟨(spoilL (y.data.toList.take (cutN n y)) at_ by_).toArray⟩
def errR (n er : Int) (y : ByteArray) : Int := if er = 0 ∧ cutN n y = 0 then 36 else er
def takR (l : Lk) (n at_ : Int) (by_ : UInt8) (er : Int) (y : ByteArray) : (ByteArray × Int) × Lk := recvR l (comeB n at_ by_ y) (errR n er y)
def wiTak (l : Lk) (x : Wi) (n at_ : Int) (by_ : UInt8) (er : Int) (y : ByteArray) : Wi := wiAft l ⟨x.sent, x.sends, x.refuse, comeB n at_ by_ y, er⟩
theorem cut_le (n : Int) (y : ByteArray) : cutN n y ≤ y.size := by unfold cutN; omega
theorem cut_eq (n : Int) (y : ByteArray) : min (max n 0) (y.size : Int) = ((cutN n y : Nat) : Int) := by unfold cutN; omega
theorem come_size (n at_ : Int) (by_ : UInt8) (y : ByteArray) : (comeB n at_ by_ y).size = cutN n y := by
  have := cut_le n y
  unfold comeB
  rw [str_size, spoil_len, List.length_take, bytes_len]
  omega
/-- what the wire returns is what the reference is handed -/
theorem come_same (l : Lk) (x : Wi) (n at_ : Int) (by_ : UInt8) (er : Int) (y : ByteArray) :
    recvR l (comeR ⟨x.sent, x.sends, x.refuse, comeB n at_ by_ y, er⟩).1 (comeR ⟨x.sent, x.sends, x.refuse, comeB n at_ by_ y, er⟩).2 = takR l n at_ by_ er y := by
  unfold takR errR comeR
  simp only
  rw [come_size]
  by_cases h0 : er = 0
  · subst h0
    rw [if_neg (by simp)]
    by_cases h1 : cutN n y = 0
    · rw [if_pos h1, if_pos ⟨rfl, h1⟩]
      unfold recvR
      simp
    · rw [if_neg h1, if_neg (fun h => h1 h.2)]
  · rw [if_pos h0, if_neg (fun h => h0 h.1)]
    unfold recvR
    simp [h0]

theorem En.below {w w' : World} {B g l0 l1 w0 w1 : Nat} {L0 L1 : Lk} {X0 X1 : Wi} {R0 R1 : Lk} {y0 y1 : ByteArray} (h : En w B g l0 l1 w0 w1 L0 L1 X0 X1 R0 R1 y0 y1) (hb : Below w.heap.size w w') : En w' B g l0 l1 w0 w1 L0 L1 X0 X1 R0 R1 y0 y1 :=
  ⟨h.base, h.o0, h.o1, h.o2, h.o3, keepBlk hb h.blk, keepBlk hb h.k0, keepBlk hb h.k1, keepBlk hb h.x0, keepBlk hb h.x1⟩
theorem En.far {w : World} {B g l0 l1 w0 w1 : Nat} {L0 L1 : Lk} {X0 X1 : Wi} {R0 R1 : Lk} {y0 y1 : ByteArray} (h : En w B g l0 l1 w0 w1 L0 L1 X0 X1 R0 R1 y0 y1) (p : Addr) (hp : l1 < p.block) (v : Value) : En (w.setCell p v) B g l0 l1 w0 w1 L0 L1 X0 X1 R0 R1 y0 y1 := by
  obtain ⟨a, b, c, d, e, f, g', h', i, j⟩ := h
  exact ⟨a, b, c, d, e, f.far (by omega) v, g'.far (by omega) v, h'.far (by omega) v, i.far (by omega) v, j.far (by omega) v⟩
theorem Tabs.keepB {B : Nat} {w w' : World} (hT : Tabs w) (h2 : 2 < B) (h : Below B w w') : Tabs w' := by
  have b0 := h.block 0 (by omega)
  have b2 := h.block 2 (by omega)
  refine ⟨fun j v hv => ?_, fun j v hv => ?_, Nat.lt_of_lt_of_le hT.big h.size⟩
  · have := hT.roots j v hv
    simp only [World.cell?] at this ⊢
    rw [b0]; exact this
  · have := hT.cubes j v hv
    simp only [World.cell?] at this ⊢
    rw [b2]; exact this
theorem Two.belowB {lb wb B : Nat} {w V V' : World} (h : Two lb wb V V') (hb : Below B w V) (h0 : B ≤ V.heap.size) (h1 : B ≤ lb) (h2 : B ≤ wb) : Below B w V' :=
  ⟨h.os.trans hb.os, h.tape.trans hb.tape, h.output.trans hb.output, Nat.le_trans hb.size h.size, fun k hk => (h.block k (Nat.lt_of_lt_of_le hk h0) (by omega) (by omega)).trans (hb.block k hk)⟩
/-- old blocks below B, and those above l, are as they were -/
structure Fra (B l : Nat) (w w' : World) : Prop where
  below : Below B w w'
  up : ∀ kk, l < kk → kk < w.heap.size → w'.heap[kk]? = w.heap[kk]?
theorem Fra.of {B l : Nat} {w w' : World} (h : Below w.heap.size w w') (hB : B ≤ w.heap.size) : Fra B l w w' := ⟨h.mono hB, fun kk _ h2 => h.block kk h2⟩
theorem Fra.set_ {B l : Nat} {w w' : World} (h : Fra B l w w') {p : Addr} (h1 : B ≤ p.block) (h2 : p.block ≤ l ∨ w.heap.size ≤ p.block) (v : Value) : Fra B l w (w'.setCell p v) :=
  ⟨h.below.setCell h1 v, fun kk a b => (Below.heap_setCell w' p v kk (by omega)).trans (h.up kk a b)⟩
theorem Fra.drew {B l : Nat} {w w' : World} (h : Fra B l w w') : Fra B l w w'.drew := ⟨h.below.drew, h.up⟩
theorem Fra.two {B l lb wb : Nat} {w V V' : World} (h : Fra B l w V) (hT : Two lb wb V V') (h0 : B ≤ V.heap.size) (h1 : B ≤ lb) (h2 : B ≤ wb) (h3 : lb ≤ l) (h4 : wb ≤ l) : Fra B l w V' :=
  ⟨hT.belowB h.below h0 h1 h2, fun kk a b => (hT.block kk (Nat.lt_of_lt_of_le b h.below.size) (by omega) (by omega)).trans (h.up kk a b)⟩
theorem Fra.trans {B l : Nat} {w V V' : World} (h : Fra B l w V) (k : Fra B l V V') : Fra B l w V' := ⟨h.below.trans k.below, fun kk a b => (k.up kk a (Nat.lt_of_lt_of_le b h.below.size)).trans (h.up kk a b)⟩
theorem En.drew {w : World} {B g l0 l1 w0 w1 : Nat} {L0 L1 : Lk} {X0 X1 : Wi} {R0 R1 : Lk} {y0 y1 : ByteArray} (h : En w B g l0 l1 w0 w1 L0 L1 X0 X1 R0 R1 y0 y1) : En w.drew B g l0 l1 w0 w1 L0 L1 X0 X1 R0 R1 y0 y1 := ⟨h.base, h.o0, h.o1, h.o2, h.o3, h.blk, h.k0, h.k1, h.x0, h.x1⟩

set_option maxRecDepth 100000 in
set_option maxHeartbeats 6400000 in
theorem ends_receive0 (w : World) (B g l0 l1 w0 w1 : Nat) (L L1 : Lk) (X0 X1 : Wi) (R1 : Lk) (y0 y1 : ByteArray) (hE : En w B g l0 l1 w0 w1 L L1 X0 X1 L R1 y0 y1) (n0 s0 : Nat) (hl : LkOk L n0 s0) (hn0 : n0 ≤ 1000000000) (n at_ : Int) (by_ : UInt8) (er : Int)
    (hsz : L.left.size + y0.size ≤ 1000000000) (hB2 : 2 < B) (hT : Tabs w) :
    Calls Tryd.prog 17 #[.pointer (some ⟨g, 0, none⟩), .int .i64 0, .int .i64 n, .agg #[.int .i64 at_, .int .u8 (by_.toNat : Nat)], .int .i64 er] w fun e w' =>
      e = .returned (.tuple #[.string (takR L n at_ by_ er y0).1.1, .int .i64 (takR L n at_ by_ er y0).1.2, .string (takR L n at_ by_ er y0).1.1, .int .i64 (takR L n at_ by_ er y0).1.2]) ∧ En w' B g l0 l1 w0 w1 (takR L n at_ by_ er y0).2 L1 (wiTak L X0 n at_ by_ er y0) X1 (takR L n at_ by_ er y0).2 R1 (y0.extract (cutN n y0) y0.size) y1 ∧ Fra B l1 w w' := by
  obtain ⟨m, hm⟩ : ∃ m, m = cutN n y0 := ⟨_, rfl⟩
  have m1 : min (max n 0) (y0.size : Int) = (m : Int) := by rw [hm]; exact cut_eq n y0
  have hm2 : m ≤ y0.size := by rw [hm]; exact cut_le n y0
  have m2 : (m : Int) ≤ y0.size := by omega
  have m3 : (0 : Int) ≤ m := by omega
  obtain ⟨S, hS⟩ : ∃ S : ByteArray, S = y0.extract 0 m := ⟨_, rfl⟩
  have hSs : S.size = m := by rw [hS, ByteArray.size_extract]; omega
  have hSl : S.data.toList = y0.data.toList.take m := by rw [hS]; exact ex_take _ _
  obtain ⟨y', hy'⟩ : ∃ y' : ByteArray, y' = y0.extract m y0.size := ⟨_, rfl⟩
  obtain ⟨Lb, hLb⟩ : ∃ Lb, Lb = spoilL S.data.toList at_ by_ := ⟨_, rfl⟩
  have hLbs : Lb.length = m := by rw [hLb, spoil_len, bytes_len, hSs]
  obtain ⟨bb, hbb⟩ : ∃ bb : ByteArray, bb = ⟨Lb.toArray⟩ := ⟨_, rfl⟩
  have HCB := Lib.hid (show comeB n at_ by_ y0 = bb by unfold comeB; rw [hbb, hLb, hSl, hm])
  obtain ⟨e2, he2⟩ : ∃ e2, e2 = errR n er y0 := ⟨_, rfl⟩
  have HE2 := Lib.hid (show e2 = if er = 0 ∧ m = 0 then 36 else er by rw [he2, hm]; rfl)
  obtain ⟨D, hD⟩ : ∃ D, D = takR L n at_ by_ er y0 := ⟨_, rfl⟩
  have HDD := Lib.hid (show D = recvR L bb e2 by rw [hD, he2, ← HCB.out]; rfl)
  have HWT := Lib.hid (show wiTak L X0 n at_ by_ er y0 = wiAft L ⟨X0.sent, X0.sends, X0.refuse, bb, er⟩ by unfold wiTak; rw [HCB.out])
  have hbs : bb.size = m := by rw [hbb, str_size, hLbs]
  have HCR := Lib.hid (show recvR L (comeR ⟨X0.sent, X0.sends, X0.refuse, bb, er⟩).1 (comeR ⟨X0.sent, X0.sends, X0.refuse, bb, er⟩).2 = D by rw [hD, ← come_same L X0, HCB.out])
  have hcs : (comeR ⟨X0.sent, X0.sends, X0.refuse, bb, er⟩).1.size ≤ m := by
    unfold comeR
    simp only
    split
    · exact Nat.zero_le _
    split
    · exact Nat.zero_le _
    · show bb.size ≤ m
      omega
  rw [← hD, ← hm, ← hy', HWT.out]
  have CR := Lib.hid (fun W hK hW hT => receive_any l0 w0 L n0 s0 hl hn0 ⟨X0.sent, X0.sends, X0.refuse, bb, er⟩ (by show L.left.size + (comeR _).1.size ≤ 1000000000; omega) (by have := hE.o0; have := hE.o1; have := hE.o2; have := hE.o3; omega) W hK hW hT (by have := hE.base; have := hE.o0; have := hE.o1; have := hE.o2; have := hE.o3; omega) (by have := hE.base; have := hE.o0; have := hE.o1; have := hE.o2; have := hE.o3; omega))
  rw [HCR.out] at CR
  have CQ := Lib.hid (fun W hR => rreceive_any g 4 45 [pt l0, pt l1, pt w0, pt w1] (refC R1 ++ [.string y', .string y1]) L n0 s0 hl hn0 bb e2 (by omega) W hR)
  rw [← HDD.out] at CQ
  have hcv := fun W : World => run_bytes_of_string W 9 29 5 S Tryd.underlying9 Tryd.underlying29 Tryd.underlying5
  have HE := Lib.hid hE
  have HT := Lib.hid hT
  have HSL := Lib.hid (show Lb = spoilL S.data.toList at_ by_ from hLb)
  have HBB := Lib.hid hbb
  have HLBS := Lib.hid hLbs
  have HSS := Lib.hid hSs
  have hBg : B ≤ g := hE.base
  have hgw : g < w.heap.size := hE.blk.lt
  have hBw : B ≤ w.heap.size := by omega
  have p16 : w.cell? ⟨g, 16, none⟩ = some (.string y0) := hE.blk.cell 16
  have c1 : y0.extract 0 m = S := hS.symm
  have c2 : y0.extract m y0.size = y' := hy'.symm
  clear hE hT hm hS hSs hSl hy' hLb hLbs hbb he2 hD hcs hl
  go_enter Tryd.func17, Tryd.ntmps17
  go_upto_region 3 with fail
  obtain ⟨sb, hsb⟩ : ∃ sb, sb = w.heap.size := ⟨_, rfl⟩
  obtain ⟨cap, hcap⟩ : ∃ c, c = grownCap (w.alloc (.cells #[.int .i64 at_, .int .u8 (by_.toNat : Nat)] 24)) S.size 0 5 := ⟨_, rfl⟩
  rw [← hcap]
  have hV0 : Below w.heap.size w (w.alloc (.cells #[.int .i64 at_, .int .u8 (by_.toNat : Nat)] 24)) := (Below.refl _ _).alloc (Nat.le_refl _) _
  have Y1 := Lib.hid (Byt.make S cap (w.alloc (.cells #[.int .i64 at_, .int .u8 (by_.toNat : Nat)] 24)))
  have Z1 : Hid (Blk (w.alloc (.cells #[.int .i64 at_, .int .u8 (by_.toNat : Nat)] 24)) w.heap.size 24 [.int .i64 at_, .int .u8 (by_.toNat : Nat)]) := Lib.hid (Blk.new w 24 [_, _])
  have hz0 : (w.alloc (.cells #[.int .i64 at_, .int .u8 (by_.toNat : Nat)] 24)).heap.size = w.heap.size + 1 := by simp
  rw [hz0] at Y1
  obtain ⟨V0, hV0e⟩ : ∃ V0, V0 = w.alloc (.cells #[.int .i64 at_, .int .u8 (by_.toNat : Nat)] 24) := ⟨_, rfl⟩
  rw [← hV0e] at hV0 Y1 Z1 hz0
  rw [← hV0e]
  clear hV0e
  obtain ⟨V1, hV1⟩ : ∃ V1, V1 = (V0.alloc (.cells (bytesRow S cap) 5 ((bytesRow S cap).size, (bytesRow S cap).size + 1))).drew := ⟨_, rfl⟩
  have hV01 : Below V0.heap.size V0 V1 := by rw [hV1]; exact ((Below.refl _ _).alloc (Nat.le_refl _) _).drew
  rw [← hV1] at Y1
  rw [← hV1]
  have hbV := keepBelow hV0 hV01
  have E1 := Lib.hid (HE.out.below hbV)
  have Z2 := Lib.hid (keepBlk hV01 Z1.out)
  have B1 : Hid (Fra B l1 w V1) := Lib.hid (Fra.of hbV hBw)
  have hVs : w.heap.size + 1 < V1.heap.size := Y1.out.1
  rw [← hsb]
  rw [← hsb] at Y1 Z2 hgw hBw hVs
  have hl1 : l1 < sb := by rw [hsb]; exact HE.out.k1.lt
  have hsbw : w.heap.size ≤ sb := by omega
  clear hV1 hV01 hbV hV0 Z1 hcap hz0 hcv hsb p16 HE
  have p16 : V1.cell? ⟨g, 16, none⟩ = some (.string y0) := E1.out.blk.cell 16
  have f16 := E1.out.blk.frozen 16
  go_cut [] (fun wx => En wx B g l0 l1 w0 w1 L L1 X0 X1 L R1 y' y1 ∧ Blk wx sb 24 [.int .i64 at_, .int .u8 (by_.toNat : Nat)] ∧ Byt wx (sb + 1) S.data.toList ∧ Fra B l1 w wx)
  case first =>
    go_region
    all_goals
      go_wp2_with fail
      go_meet
      refine ⟨⟨E1.out.base, E1.out.o0, E1.out.o1, E1.out.o2, E1.out.o3, E1.out.blk.set_ 16 (.string y'), E1.out.k0.far (p := ⟨g, 16, none⟩) (by simp only; have := E1.out.o0; have := E1.out.o1; omega) _, E1.out.k1.far (p := ⟨g, 16, none⟩) (by simp only; have := E1.out.o0; have := E1.out.o1; have := E1.out.o2; have := E1.out.o3; omega) _, E1.out.x0.far (p := ⟨g, 16, none⟩) (by simp only; have := E1.out.o0; omega) _, E1.out.x1.far (p := ⟨g, 16, none⟩) (by simp only; have := E1.out.o0; have := E1.out.o1; have := E1.out.o2; omega) _⟩, Z2.out.far (p := ⟨g, 16, none⟩) (by simp only; omega) _, Y1.out.far (p := ⟨g, 16, none⟩) (by simp only; omega) _, (B1.out.set_ (p := ⟨g, 16, none⟩) hBg (.inl (by simp only; have := E1.out.o0; have := E1.out.o1; have := E1.out.o2; have := E1.out.o3; omega)) _).drew⟩
  case rest =>
    obtain ⟨hE2, hZ2, hY2, hB2'⟩ := hcut
    have E2 := Lib.hid hE2
    have Z3 := Lib.hid hZ2
    have Y2 := Lib.hid hY2
    have B2 := Lib.hid hB2'
    have s0 : wc.cell? ⟨sb, 0, none⟩ = some (.int .i64 at_) := hZ2.cell 0
    have s1 : wc.cell? ⟨sb, 1, none⟩ = some (.int .u8 (by_.toNat : Nat)) := hZ2.cell 1
    clear hE2 hZ2 hY2 hB2' p16 f16 E1 Z2 Y1 B1
    go_upto_region 4 with fail
    obtain ⟨W2, hW2⟩ : ∃ W2, W2 = wc := ⟨_, rfl⟩
    go_cut [60] (fun c wx => c = .bool (decide (0 ≤ at_ ∧ at_ < S.size)) ∧ wx = wc)
    case first =>
      clear hW2
      by_cases h0 : 0 ≤ at_
      · by_cases h1 : at_ < S.size
        · have hc : Hid (decide (0 ≤ at_ ∧ at_ < (S.size : Int)) = true) := Lib.hid (decide_eq_true ⟨h0, h1⟩)
          go_wp2_with fail
          go_meet
          exact ⟨by rw [hc.out], rfl⟩
        · have hc : Hid (decide (0 ≤ at_ ∧ at_ < (S.size : Int)) = false) := Lib.hid (decide_eq_false (fun h => h1 h.2))
          have h1' : decide (at_ < (S.size : Int)) = false := decide_eq_false h1
          clear h1
          go_wp2_with fail
          go_meet
          exact ⟨by rw [hc.out], rfl⟩
      · have hc : Hid (decide (0 ≤ at_ ∧ at_ < (S.size : Int)) = false) := Lib.hid (decide_eq_false (fun h => h0 h.1))
        have h0' : decide (0 ≤ at_) = false := decide_eq_false h0
        clear h0
        go_wp2_with fail
        go_meet
        exact ⟨by rw [hc.out], rfl⟩
    case rest =>
      obtain ⟨rfl, hwe⟩ := hcut
      rw [hwe]
      clear hwe
      go_upto_if 60 with fail
      go_cut [] (fun wx => En wx B g l0 l1 w0 w1 L L1 X0 X1 L R1 y' y1 ∧ Byt wx (sb + 1) Lb ∧ Fra B l1 w wx)
      case first =>
        by_cases hin : 0 ≤ at_ ∧ at_ < S.size
        · rw [decide_eq_true hin]
          obtain ⟨i, rfl⟩ : ∃ i : Nat, at_ = i := ⟨at_.toNat, by omega⟩
          have hi : i < S.data.toList.length := by rw [bytes_len]; omega
          have ci := Y2.out.cell hi
          have fi := Y2.out.frozen hi
          have HX := Lib.hid (xor_byte (S.data.toList.getD i 0) by_)
          have HSP := Lib.hid (show Lb = S.data.toList.set i (S.data.toList.getD i 0 ^^^ by_) by
            rw [HSL.out]; unfold spoilL
            rw [if_pos ⟨hin.1, by rw [bytes_len]; omega⟩]; rfl)
          generalize S.data.toList.getD i 0 = b0 at *
          have i0 : (0 : Int) ≤ i := hin.1
          have i1 : (i : Int) < S.size := hin.2
          clear hin hi hW2
          go_wp2_with fail
          go_region
          all_goals
            go_wp2_with fail
            go_meet
            rw [HX.out, HSP.out]
            exact ⟨(E2.out.far ⟨sb + 1, i, none⟩ (by simp only; omega) _).drew, (Y2.out.set_ (by rw [bytes_len]; omega) _).drew, (B2.out.set_ (p := ⟨sb + 1, i, none⟩) (by simp only; omega) (.inr (by simp only; omega)) _).drew⟩
        · rw [decide_eq_false hin]
          have HSP := Lib.hid (show Lb = S.data.toList by
            rw [HSL.out]; unfold spoilL
            rw [if_neg (by rw [bytes_len]; omega)])
          clear hin hW2
          go_wp2_with fail
          go_meet
          rw [HSP.out]
          exact ⟨E2.out, Y2.out, B2.out⟩
      case rest =>
        obtain ⟨hE3, hY3, hB3'⟩ := hcut
        have E3 := Lib.hid hE3
        have Y3 := Lib.hid hY3
        have B3 := Lib.hid hB3'
        clear hE3 hY3 hB3' s0 s1 E2 Y2 B2 Z3 hW2
        go_upto_region 6 with fail
        have p2 : wc.cell? ⟨g, 2, none⟩ = some (.pointer (some ⟨w0, 0, none⟩)) := E3.out.blk.cell 2
        have x3 : wc.cell? ⟨w0, 3, none⟩ = some (.string X0.come) := E3.out.x0.cell 3
        have x4 : wc.cell? ⟨w0, 4, none⟩ = some (.int .i64 X0.err) := E3.out.x0.cell 4
        have g3 := E3.out.x0.frozen 3
        have g4 := E3.out.x0.frozen 4
        have hcvb := Y3.out.back S.size cap (by rw [HLBS.out, HSS.out])
        rw [← HBB.out] at hcvb
        have hcvd := Y3.out.drew.back S.size cap (by rw [HLBS.out, HSS.out])
        rw [← HBB.out] at hcvd
        go_cut [] (fun wx => En wx B g l0 l1 w0 w1 L L1 ⟨X0.sent, X0.sends, X0.refuse, bb, er⟩ X1 L R1 y' y1 ∧ Byt wx (sb + 1) Lb ∧ Fra B l1 w wx)
        case first =>
          go_region
          all_goals
            go_wp2_with fail
            go_meet
            refine ⟨⟨E3.out.base, E3.out.o0, E3.out.o1, E3.out.o2, E3.out.o3, ?_, ?_, ?_, ?_, ?_⟩, ?_, ?_⟩
            · exact (E3.out.blk.far (p := ⟨w0, 3, none⟩) (by simp only; have := E3.out.o0; have := E3.out.o1; have := E3.out.o2; omega) _).far (p := ⟨w0, 4, none⟩) (by simp only; have := E3.out.o0; have := E3.out.o1; have := E3.out.o2; omega) _
            · exact (E3.out.k0.far (p := ⟨w0, 3, none⟩) (by simp only; have := E3.out.o1; have := E3.out.o2; omega) _).far (p := ⟨w0, 4, none⟩) (by simp only; have := E3.out.o1; have := E3.out.o2; omega) _
            · exact (E3.out.k1.far (p := ⟨w0, 3, none⟩) (by simp only; have := E3.out.o1; have := E3.out.o2; have := E3.out.o3; omega) _).far (p := ⟨w0, 4, none⟩) (by simp only; have := E3.out.o1; have := E3.out.o2; have := E3.out.o3; omega) _
            · exact (E3.out.x0.set_ 3 (.string bb)).set_ 4 (.int .i64 er)
            · exact (E3.out.x1.far (p := ⟨w0, 3, none⟩) (by simp only; have := E3.out.o1; have := E3.out.o2; have := E3.out.o3; omega) _).far (p := ⟨w0, 4, none⟩) (by simp only; have := E3.out.o1; have := E3.out.o2; have := E3.out.o3; omega) _
            · exact (Y3.out.far (p := ⟨w0, 3, none⟩) (by simp only; have := E3.out.o2; have := E3.out.o1; have := E3.out.o3; omega) _).far (p := ⟨w0, 4, none⟩) (by simp only; have := E3.out.o1; have := E3.out.o2; have := E3.out.o3; omega) _
            · exact ((B3.out.set_ (p := ⟨w0, 3, none⟩) (by simp only; have := E3.out.o0; have := E3.out.o1; have := E3.out.o2; omega) (.inl (by simp only; have := E3.out.o1; have := E3.out.o2; have := E3.out.o3; omega)) _).set_ (p := ⟨w0, 4, none⟩) (by simp only; have := E3.out.o0; have := E3.out.o1; have := E3.out.o2; omega) (.inl (by simp only; have := E3.out.o1; have := E3.out.o2; have := E3.out.o3; omega)) _).drew
        case rest =>
          obtain ⟨hE4, hY4, hB4'⟩ := hcut
          have E4 := Lib.hid hE4
          have Y4 := Lib.hid hY4
          have B4 := Lib.hid hB4'
          clear hE4 hY4 hB4' p2 x3 x4 g3 g4 hcvb hcvd E3 Y3 B3
          go_upto_region 7 with fail
          obtain ⟨V4, rfl⟩ : ∃ V : World, V = wc := ⟨_, rfl⟩
          go_cut [94] (fun c wx => c = .bool (decide (er = 0 ∧ m = 0)) ∧ wx = V4)
          case first =>
            by_cases h0 : er = 0
            · by_cases h1 : m = 0
              · have hc : Hid (decide (er = 0 ∧ m = 0) = true) := Lib.hid (decide_eq_true ⟨h0, h1⟩)
                have e1 : (er == 0) = true := by rw [beq_iff_eq]; exact h0
                have e2' : ((m : Int) == 0) = true := by rw [beq_iff_eq]; omega
                clear h0 h1
                go_wp2_with fail
                go_meet
                exact ⟨by rw [hc.out], rfl⟩
              · have hc : Hid (decide (er = 0 ∧ m = 0) = false) := Lib.hid (decide_eq_false (fun h => h1 h.2))
                have e1 : (er == 0) = true := by rw [beq_iff_eq]; exact h0
                have e2' : ((m : Int) == 0) = false := by rw [beq_eq_false_iff_ne]; omega
                clear h0 h1
                go_wp2_with fail
                go_meet
                exact ⟨by rw [hc.out], rfl⟩
            · have hc : Hid (decide (er = 0 ∧ m = 0) = false) := Lib.hid (decide_eq_false (fun h => h0 h.1))
              have e1 : (er == 0) = false := by rw [beq_eq_false_iff_ne]; exact h0
              clear h0
              go_wp2_with fail
              go_meet
              exact ⟨by rw [hc.out], rfl⟩
          case rest =>
            obtain ⟨rfl, hwe⟩ := hcut
            rw [hwe]
            clear hwe
            go_upto_if 94 with fail
            go_cut [4] (fun c wx => c = .int .i64 e2 ∧ wx = V4)
            case first =>
              by_cases h0 : er = 0 ∧ m = 0
              · have hc : Hid (e2 = 36) := Lib.hid (by rw [HE2.out, if_pos h0])
                rw [decide_eq_true h0]
                clear h0
                go_wp2_with fail
                go_meet
                exact ⟨by rw [hc.out], rfl⟩
              · have hc : Hid (e2 = er) := Lib.hid (by rw [HE2.out, if_neg h0])
                rw [decide_eq_false h0]
                clear h0
                go_wp2_with fail
                go_meet
                exact ⟨by rw [hc.out], rfl⟩
            case rest =>
              obtain ⟨rfl, hwe⟩ := hcut
              rw [hwe]
              clear hwe
              have p0 : V4.cell? ⟨g, 0, none⟩ = some (.pointer (some ⟨l0, 0, none⟩)) := E4.out.blk.cell 0
              have T4 := Lib.hid (HT.out.keepB hB2 B4.out.below)
              have y4 := Y4.out.back S.size cap (by rw [HLBS.out, HSS.out])
              rw [← HBB.out] at y4
              have hBl : B ≤ l0 := by have := E4.out.o0; have := E4.out.o1; have := E4.out.o2; have := E4.out.o3; omega
              have hBw' : B ≤ w0 := by have := E4.out.o0; have := E4.out.o1; have := E4.out.o2; have := E4.out.o3; omega
              have hl4 : l1 < V4.heap.size := E4.out.k1.lt
              have hB4' : B ≤ V4.heap.size := by have := E4.out.blk.lt; omega
              go_upto_region 10 with (go_at_call 15; refine (CR.out _ E4.out.k0 E4.out.x0 T4.out).mono ?_; rintro e V5 ⟨rfl, hL5, hW5, hT5⟩; have L5 := Lib.hid hL5; have W5 := Lib.hid hW5; have Y5 := Lib.hid (Y4.out.same hT5.size (hT5.block _ Y4.out.1 (by have := E4.out.o2; have := E4.out.o3; have := E4.out.o1; omega) (by have := E4.out.o2; have := E4.out.o3; have := E4.out.o1; omega))); have G5 := Lib.hid (hT5.blk E4.out.blk (by have := E4.out.o0; have := E4.out.o1; have := E4.out.o2; have := E4.out.o3; omega) (by have := E4.out.o0; have := E4.out.o1; have := E4.out.o2; have := E4.out.o3; omega)); have LO5 := Lib.hid (hT5.blk E4.out.k1 (by have := E4.out.o0; have := E4.out.o1; have := E4.out.o2; have := E4.out.o3; omega) (by have := E4.out.o0; have := E4.out.o1; have := E4.out.o2; have := E4.out.o3; omega)); have WO5 := Lib.hid (hT5.blk E4.out.x1 (by have := E4.out.o0; have := E4.out.o1; have := E4.out.o2; have := E4.out.o3; omega) (by have := E4.out.o0; have := E4.out.o1; have := E4.out.o2; have := E4.out.o3; omega)); have B5 := Lib.hid (B4.out.two hT5 hB4' hBl hBw' (by have := E4.out.o1; have := E4.out.o2; have := E4.out.o3; omega) (by have := E4.out.o1; have := E4.out.o2; have := E4.out.o3; omega)); have s5 := hT5.size; clear hL5 hW5 hT5)
              have y5 := Y5.out.back S.size cap (by rw [HLBS.out, HSS.out])
              rw [← HBB.out] at y5
              have y5d := Y5.out.drew.back S.size cap (by rw [HLBS.out, HSS.out])
              rw [← HBB.out] at y5d
              clear y4
              have R5 : Hid (RefAt V5 g 4 45 [pt l0, pt l1, pt w0, pt w1] (refC R1 ++ [.string y', .string y1]) L) := Lib.hid ⟨G5.out, rfl⟩
              go_region_with (go_at_call 39; refine (CQ.out _ R5.out.drew).mono ?_; rintro e V6 ⟨rfl, hR6, hT6⟩; have R6 := Lib.hid hR6; have T6 := Lib.hid (show Two g g V5 V6 from ⟨hT6.os, hT6.tape, hT6.output, hT6.size, hT6.block⟩); clear hR6 hT6)
              all_goals
                go_wp2_with fail
                refine bodyPost_ret (v := .tuple #[.string D.1.1, .int .i64 D.1.2, .string D.1.1, .int .i64 D.1.2]) (by simp [results, Tryd.results17, go_sem]) rfl ⟨rfl, ⟨E4.out.base, E4.out.o0, E4.out.o1, E4.out.o2, E4.out.o3, R6.out.1, ?_, ?_, ?_, ?_⟩, ?_⟩
                · exact T6.out.blk L5.out (by have := E4.out.o0; have := E4.out.o1; omega) (by have := E4.out.o0; have := E4.out.o1; omega)
                · exact T6.out.blk LO5.out (by have := E4.out.o0; have := E4.out.o1; have := E4.out.o2; have := E4.out.o3; omega) (by have := E4.out.o0; have := E4.out.o1; have := E4.out.o2; have := E4.out.o3; omega)
                · exact T6.out.blk W5.out (by have := E4.out.o0; omega) (by have := E4.out.o0; omega)
                · exact T6.out.blk WO5.out (by have := E4.out.o0; have := E4.out.o1; have := E4.out.o2; omega) (by have := E4.out.o0; have := E4.out.o1; have := E4.out.o2; omega)
                · exact B5.out.two T6.out (Nat.le_trans hB4' s5) hBg hBg (by have := E4.out.o0; have := E4.out.o1; have := E4.out.o2; have := E4.out.o3; omega) (by have := E4.out.o0; have := E4.out.o1; have := E4.out.o2; have := E4.out.o3; omega)

set_option maxRecDepth 100000 in
set_option maxHeartbeats 6400000 in
theorem ends_receive1 (w : World) (B g l0 l1 w0 w1 : Nat) (L L0 : Lk) (X0 X1 : Wi) (R0 : Lk) (y0 y1 : ByteArray) (hE : En w B g l0 l1 w0 w1 L0 L X0 X1 R0 L y0 y1) (n0 s0 : Nat) (hl : LkOk L n0 s0) (hn0 : n0 ≤ 1000000000) (n at_ : Int) (by_ : UInt8) (er : Int)
    (hsz : L.left.size + y1.size ≤ 1000000000) (hB2 : 2 < B) (hT : Tabs w) :
    Calls Tryd.prog 17 #[.pointer (some ⟨g, 0, none⟩), .int .i64 1, .int .i64 n, .agg #[.int .i64 at_, .int .u8 (by_.toNat : Nat)], .int .i64 er] w fun e w' =>
      e = .returned (.tuple #[.string (takR L n at_ by_ er y1).1.1, .int .i64 (takR L n at_ by_ er y1).1.2, .string (takR L n at_ by_ er y1).1.1, .int .i64 (takR L n at_ by_ er y1).1.2]) ∧ En w' B g l0 l1 w0 w1 L0 (takR L n at_ by_ er y1).2 X0 (wiTak L X1 n at_ by_ er y1) R0 (takR L n at_ by_ er y1).2 y0 (y1.extract (cutN n y1) y1.size) ∧ Fra B l1 w w' := by
  obtain ⟨m, hm⟩ : ∃ m, m = cutN n y1 := ⟨_, rfl⟩
  have m1 : min (max n 0) (y1.size : Int) = (m : Int) := by rw [hm]; exact cut_eq n y1
  have hm2 : m ≤ y1.size := by rw [hm]; exact cut_le n y1
  have m2 : (m : Int) ≤ y1.size := by omega
  have m3 : (0 : Int) ≤ m := by omega
  obtain ⟨S, hS⟩ : ∃ S : ByteArray, S = y1.extract 0 m := ⟨_, rfl⟩
  have hSs : S.size = m := by rw [hS, ByteArray.size_extract]; omega
  have hSl : S.data.toList = y1.data.toList.take m := by rw [hS]; exact ex_take _ _
  obtain ⟨y', hy'⟩ : ∃ y' : ByteArray, y' = y1.extract m y1.size := ⟨_, rfl⟩
  obtain ⟨Lb, hLb⟩ : ∃ Lb, Lb = spoilL S.data.toList at_ by_ := ⟨_, rfl⟩
  have hLbs : Lb.length = m := by rw [hLb, spoil_len, bytes_len, hSs]
  obtain ⟨bb, hbb⟩ : ∃ bb : ByteArray, bb = ⟨Lb.toArray⟩ := ⟨_, rfl⟩
  have HCB := Lib.hid (show comeB n at_ by_ y1 = bb by unfold comeB; rw [hbb, hLb, hSl, hm])
  obtain ⟨e2, he2⟩ : ∃ e2, e2 = errR n er y1 := ⟨_, rfl⟩
  have HE2 := Lib.hid (show e2 = if er = 0 ∧ m = 0 then 36 else er by rw [he2, hm]; rfl)
  obtain ⟨D, hD⟩ : ∃ D, D = takR L n at_ by_ er y1 := ⟨_, rfl⟩
  have HDD := Lib.hid (show D = recvR L bb e2 by rw [hD, he2, ← HCB.out]; rfl)
  have HWT := Lib.hid (show wiTak L X1 n at_ by_ er y1 = wiAft L ⟨X1.sent, X1.sends, X1.refuse, bb, er⟩ by unfold wiTak; rw [HCB.out])
  have hbs : bb.size = m := by rw [hbb, str_size, hLbs]
  have HCR := Lib.hid (show recvR L (comeR ⟨X1.sent, X1.sends, X1.refuse, bb, er⟩).1 (comeR ⟨X1.sent, X1.sends, X1.refuse, bb, er⟩).2 = D by rw [hD, ← come_same L X1, HCB.out])
  have hcs : (comeR ⟨X1.sent, X1.sends, X1.refuse, bb, er⟩).1.size ≤ m := by
    unfold comeR
    simp only
    split
    · exact Nat.zero_le _
    split
    · exact Nat.zero_le _
    · show bb.size ≤ m
      omega
  rw [← hD, ← hm, ← hy', HWT.out]
  have CR := Lib.hid (fun W hK hW hT => receive_any l1 w1 L n0 s0 hl hn0 ⟨X1.sent, X1.sends, X1.refuse, bb, er⟩ (by show L.left.size + (comeR _).1.size ≤ 1000000000; omega) (by have := hE.o0; have := hE.o1; have := hE.o2; have := hE.o3; omega) W hK hW hT (by have := hE.base; have := hE.o0; have := hE.o1; have := hE.o2; have := hE.o3; omega) (by have := hE.base; have := hE.o0; have := hE.o1; have := hE.o2; have := hE.o3; omega))
  rw [HCR.out] at CR
  have CQ := Lib.hid (fun W hR => rreceive_any g 10 45 ([pt l0, pt l1, pt w0, pt w1] ++ refC R0) [.string y0, .string y'] L n0 s0 hl hn0 bb e2 (by omega) W hR)
  rw [← HDD.out] at CQ
  have hcv := fun W : World => run_bytes_of_string W 9 29 5 S Tryd.underlying9 Tryd.underlying29 Tryd.underlying5
  have HE := Lib.hid hE
  have HT := Lib.hid hT
  have HSL := Lib.hid (show Lb = spoilL S.data.toList at_ by_ from hLb)
  have HBB := Lib.hid hbb
  have HLBS := Lib.hid hLbs
  have HSS := Lib.hid hSs
  have hBg : B ≤ g := hE.base
  have hgw : g < w.heap.size := hE.blk.lt
  have hBw : B ≤ w.heap.size := by omega
  have p17 : w.cell? ⟨g, 17, none⟩ = some (.string y1) := hE.blk.cell 17
  have c1 : y1.extract 0 m = S := hS.symm
  have c2 : y1.extract m y1.size = y' := hy'.symm
  clear hE hT hm hS hSs hSl hy' hLb hLbs hbb he2 hD hcs hl
  go_enter Tryd.func17, Tryd.ntmps17
  go_upto_region 3 with fail
  obtain ⟨sb, hsb⟩ : ∃ sb, sb = w.heap.size := ⟨_, rfl⟩
  obtain ⟨cap, hcap⟩ : ∃ c, c = grownCap (w.alloc (.cells #[.int .i64 at_, .int .u8 (by_.toNat : Nat)] 24)) S.size 0 5 := ⟨_, rfl⟩
  rw [← hcap]
  have hV0 : Below w.heap.size w (w.alloc (.cells #[.int .i64 at_, .int .u8 (by_.toNat : Nat)] 24)) := (Below.refl _ _).alloc (Nat.le_refl _) _
  have Y1 := Lib.hid (Byt.make S cap (w.alloc (.cells #[.int .i64 at_, .int .u8 (by_.toNat : Nat)] 24)))
  have Z1 : Hid (Blk (w.alloc (.cells #[.int .i64 at_, .int .u8 (by_.toNat : Nat)] 24)) w.heap.size 24 [.int .i64 at_, .int .u8 (by_.toNat : Nat)]) := Lib.hid (Blk.new w 24 [_, _])
  have hz0 : (w.alloc (.cells #[.int .i64 at_, .int .u8 (by_.toNat : Nat)] 24)).heap.size = w.heap.size + 1 := by simp
  rw [hz0] at Y1
  obtain ⟨V0, hV0e⟩ : ∃ V0, V0 = w.alloc (.cells #[.int .i64 at_, .int .u8 (by_.toNat : Nat)] 24) := ⟨_, rfl⟩
  rw [← hV0e] at hV0 Y1 Z1 hz0
  rw [← hV0e]
  clear hV0e
  obtain ⟨V1, hV1⟩ : ∃ V1, V1 = (V0.alloc (.cells (bytesRow S cap) 5 ((bytesRow S cap).size, (bytesRow S cap).size + 1))).drew := ⟨_, rfl⟩
  have hV01 : Below V0.heap.size V0 V1 := by rw [hV1]; exact ((Below.refl _ _).alloc (Nat.le_refl _) _).drew
  rw [← hV1] at Y1
  rw [← hV1]
  have hbV := keepBelow hV0 hV01
  have E1 := Lib.hid (HE.out.below hbV)
  have Z2 := Lib.hid (keepBlk hV01 Z1.out)
  have B1 : Hid (Fra B l1 w V1) := Lib.hid (Fra.of hbV hBw)
  have hVs : w.heap.size + 1 < V1.heap.size := Y1.out.1
  rw [← hsb]
  rw [← hsb] at Y1 Z2 hgw hBw hVs
  have hl1 : l1 < sb := by rw [hsb]; exact HE.out.k1.lt
  have hsbw : w.heap.size ≤ sb := by omega
  clear hV1 hV01 hbV hV0 Z1 hcap hz0 hcv hsb p17 HE
  have p17 : V1.cell? ⟨g, 17, none⟩ = some (.string y1) := E1.out.blk.cell 17
  have f17 := E1.out.blk.frozen 17
  go_cut [] (fun wx => En wx B g l0 l1 w0 w1 L0 L X0 X1 R0 L y0 y' ∧ Blk wx sb 24 [.int .i64 at_, .int .u8 (by_.toNat : Nat)] ∧ Byt wx (sb + 1) S.data.toList ∧ Fra B l1 w wx)
  case first =>
    go_region
    all_goals
      go_wp2_with fail
      go_meet
      refine ⟨⟨E1.out.base, E1.out.o0, E1.out.o1, E1.out.o2, E1.out.o3, E1.out.blk.set_ 17 (.string y'), E1.out.k0.far (p := ⟨g, 17, none⟩) (by simp only; have := E1.out.o0; have := E1.out.o1; omega) _, E1.out.k1.far (p := ⟨g, 17, none⟩) (by simp only; have := E1.out.o0; have := E1.out.o1; have := E1.out.o2; have := E1.out.o3; omega) _, E1.out.x0.far (p := ⟨g, 17, none⟩) (by simp only; have := E1.out.o0; omega) _, E1.out.x1.far (p := ⟨g, 17, none⟩) (by simp only; have := E1.out.o0; have := E1.out.o1; have := E1.out.o2; omega) _⟩, Z2.out.far (p := ⟨g, 17, none⟩) (by simp only; omega) _, Y1.out.far (p := ⟨g, 17, none⟩) (by simp only; omega) _, (B1.out.set_ (p := ⟨g, 17, none⟩) hBg (.inl (by simp only; have := E1.out.o0; have := E1.out.o1; have := E1.out.o2; have := E1.out.o3; omega)) _).drew⟩
  case rest =>
    obtain ⟨hE2, hZ2, hY2, hB2'⟩ := hcut
    have E2 := Lib.hid hE2
    have Z3 := Lib.hid hZ2
    have Y2 := Lib.hid hY2
    have B2 := Lib.hid hB2'
    have s0 : wc.cell? ⟨sb, 0, none⟩ = some (.int .i64 at_) := hZ2.cell 0
    have s1 : wc.cell? ⟨sb, 1, none⟩ = some (.int .u8 (by_.toNat : Nat)) := hZ2.cell 1
    clear hE2 hZ2 hY2 hB2' p17 f17 E1 Z2 Y1 B1
    go_upto_region 4 with fail
    obtain ⟨W2, hW2⟩ : ∃ W2, W2 = wc := ⟨_, rfl⟩
    go_cut [60] (fun c wx => c = .bool (decide (0 ≤ at_ ∧ at_ < S.size)) ∧ wx = wc)
    case first =>
      clear hW2
      by_cases h0 : 0 ≤ at_
      · by_cases h1 : at_ < S.size
        · have hc : Hid (decide (0 ≤ at_ ∧ at_ < (S.size : Int)) = true) := Lib.hid (decide_eq_true ⟨h0, h1⟩)
          go_wp2_with fail
          go_meet
          exact ⟨by rw [hc.out], rfl⟩
        · have hc : Hid (decide (0 ≤ at_ ∧ at_ < (S.size : Int)) = false) := Lib.hid (decide_eq_false (fun h => h1 h.2))
          have h1' : decide (at_ < (S.size : Int)) = false := decide_eq_false h1
          clear h1
          go_wp2_with fail
          go_meet
          exact ⟨by rw [hc.out], rfl⟩
      · have hc : Hid (decide (0 ≤ at_ ∧ at_ < (S.size : Int)) = false) := Lib.hid (decide_eq_false (fun h => h0 h.1))
        have h0' : decide (0 ≤ at_) = false := decide_eq_false h0
        clear h0
        go_wp2_with fail
        go_meet
        exact ⟨by rw [hc.out], rfl⟩
    case rest =>
      obtain ⟨rfl, hwe⟩ := hcut
      rw [hwe]
      clear hwe
      go_upto_if 60 with fail
      go_cut [] (fun wx => En wx B g l0 l1 w0 w1 L0 L X0 X1 R0 L y0 y' ∧ Byt wx (sb + 1) Lb ∧ Fra B l1 w wx)
      case first =>
        by_cases hin : 0 ≤ at_ ∧ at_ < S.size
        · rw [decide_eq_true hin]
          obtain ⟨i, rfl⟩ : ∃ i : Nat, at_ = i := ⟨at_.toNat, by omega⟩
          have hi : i < S.data.toList.length := by rw [bytes_len]; omega
          have ci := Y2.out.cell hi
          have fi := Y2.out.frozen hi
          have HX := Lib.hid (xor_byte (S.data.toList.getD i 0) by_)
          have HSP := Lib.hid (show Lb = S.data.toList.set i (S.data.toList.getD i 0 ^^^ by_) by
            rw [HSL.out]; unfold spoilL
            rw [if_pos ⟨hin.1, by rw [bytes_len]; omega⟩]; rfl)
          generalize S.data.toList.getD i 0 = b0 at *
          have i0 : (0 : Int) ≤ i := hin.1
          have i1 : (i : Int) < S.size := hin.2
          clear hin hi hW2
          go_wp2_with fail
          go_region
          all_goals
            go_wp2_with fail
            go_meet
            rw [HX.out, HSP.out]
            exact ⟨(E2.out.far ⟨sb + 1, i, none⟩ (by simp only; omega) _).drew, (Y2.out.set_ (by rw [bytes_len]; omega) _).drew, (B2.out.set_ (p := ⟨sb + 1, i, none⟩) (by simp only; omega) (.inr (by simp only; omega)) _).drew⟩
        · rw [decide_eq_false hin]
          have HSP := Lib.hid (show Lb = S.data.toList by
            rw [HSL.out]; unfold spoilL
            rw [if_neg (by rw [bytes_len]; omega)])
          clear hin hW2
          go_wp2_with fail
          go_meet
          rw [HSP.out]
          exact ⟨E2.out, Y2.out, B2.out⟩
      case rest =>
        obtain ⟨hE3, hY3, hB3'⟩ := hcut
        have E3 := Lib.hid hE3
        have Y3 := Lib.hid hY3
        have B3 := Lib.hid hB3'
        clear hE3 hY3 hB3' s0 s1 E2 Y2 B2 Z3 hW2
        go_upto_region 6 with fail
        have p3 : wc.cell? ⟨g, 3, none⟩ = some (.pointer (some ⟨w1, 0, none⟩)) := E3.out.blk.cell 3
        have x3 : wc.cell? ⟨w1, 3, none⟩ = some (.string X1.come) := E3.out.x1.cell 3
        have x4 : wc.cell? ⟨w1, 4, none⟩ = some (.int .i64 X1.err) := E3.out.x1.cell 4
        have g3 := E3.out.x1.frozen 3
        have g4 := E3.out.x1.frozen 4
        have hcvb := Y3.out.back S.size cap (by rw [HLBS.out, HSS.out])
        rw [← HBB.out] at hcvb
        have hcvd := Y3.out.drew.back S.size cap (by rw [HLBS.out, HSS.out])
        rw [← HBB.out] at hcvd
        go_cut [] (fun wx => En wx B g l0 l1 w0 w1 L0 L X0 ⟨X1.sent, X1.sends, X1.refuse, bb, er⟩ R0 L y0 y' ∧ Byt wx (sb + 1) Lb ∧ Fra B l1 w wx)
        case first =>
          go_region
          all_goals
            go_wp2_with fail
            go_meet
            refine ⟨⟨E3.out.base, E3.out.o0, E3.out.o1, E3.out.o2, E3.out.o3, ?_, ?_, ?_, ?_, ?_⟩, ?_, ?_⟩
            · exact (E3.out.blk.far (p := ⟨w1, 3, none⟩) (by simp only; have := E3.out.o0; have := E3.out.o1; have := E3.out.o2; omega) _).far (p := ⟨w1, 4, none⟩) (by simp only; have := E3.out.o0; have := E3.out.o1; have := E3.out.o2; omega) _
            · exact (E3.out.k0.far (p := ⟨w1, 3, none⟩) (by simp only; have := E3.out.o1; have := E3.out.o2; omega) _).far (p := ⟨w1, 4, none⟩) (by simp only; have := E3.out.o1; have := E3.out.o2; omega) _
            · exact (E3.out.k1.far (p := ⟨w1, 3, none⟩) (by simp only; have := E3.out.o1; have := E3.out.o2; have := E3.out.o3; omega) _).far (p := ⟨w1, 4, none⟩) (by simp only; have := E3.out.o1; have := E3.out.o2; have := E3.out.o3; omega) _
            · exact (E3.out.x0.far (p := ⟨w1, 3, none⟩) (by simp only; have := E3.out.o1; have := E3.out.o2; have := E3.out.o3; omega) _).far (p := ⟨w1, 4, none⟩) (by simp only; have := E3.out.o1; have := E3.out.o2; have := E3.out.o3; omega) _
            · exact (E3.out.x1.set_ 3 (.string bb)).set_ 4 (.int .i64 er)
            · exact (Y3.out.far (p := ⟨w1, 3, none⟩) (by simp only; have := E3.out.o2; have := E3.out.o1; have := E3.out.o3; omega) _).far (p := ⟨w1, 4, none⟩) (by simp only; have := E3.out.o1; have := E3.out.o2; have := E3.out.o3; omega) _
            · exact ((B3.out.set_ (p := ⟨w1, 3, none⟩) (by simp only; have := E3.out.o0; have := E3.out.o1; have := E3.out.o2; omega) (.inl (by simp only; have := E3.out.o1; have := E3.out.o2; have := E3.out.o3; omega)) _).set_ (p := ⟨w1, 4, none⟩) (by simp only; have := E3.out.o0; have := E3.out.o1; have := E3.out.o2; omega) (.inl (by simp only; have := E3.out.o1; have := E3.out.o2; have := E3.out.o3; omega)) _).drew
        case rest =>
          obtain ⟨hE4, hY4, hB4'⟩ := hcut
          have E4 := Lib.hid hE4
          have Y4 := Lib.hid hY4
          have B4 := Lib.hid hB4'
          clear hE4 hY4 hB4' p3 x3 x4 g3 g4 hcvb hcvd E3 Y3 B3
          go_upto_region 7 with fail
          obtain ⟨V4, rfl⟩ : ∃ V : World, V = wc := ⟨_, rfl⟩
          go_cut [94] (fun c wx => c = .bool (decide (er = 0 ∧ m = 0)) ∧ wx = V4)
          case first =>
            by_cases h0 : er = 0
            · by_cases h1 : m = 0
              · have hc : Hid (decide (er = 0 ∧ m = 0) = true) := Lib.hid (decide_eq_true ⟨h0, h1⟩)
                have e1 : (er == 0) = true := by rw [beq_iff_eq]; exact h0
                have e2' : ((m : Int) == 0) = true := by rw [beq_iff_eq]; omega
                clear h0 h1
                go_wp2_with fail
                go_meet
                exact ⟨by rw [hc.out], rfl⟩
              · have hc : Hid (decide (er = 0 ∧ m = 0) = false) := Lib.hid (decide_eq_false (fun h => h1 h.2))
                have e1 : (er == 0) = true := by rw [beq_iff_eq]; exact h0
                have e2' : ((m : Int) == 0) = false := by rw [beq_eq_false_iff_ne]; omega
                clear h0 h1
                go_wp2_with fail
                go_meet
                exact ⟨by rw [hc.out], rfl⟩
            · have hc : Hid (decide (er = 0 ∧ m = 0) = false) := Lib.hid (decide_eq_false (fun h => h0 h.1))
              have e1 : (er == 0) = false := by rw [beq_eq_false_iff_ne]; exact h0
              clear h0
              go_wp2_with fail
              go_meet
              exact ⟨by rw [hc.out], rfl⟩
          case rest =>
            obtain ⟨rfl, hwe⟩ := hcut
            rw [hwe]
            clear hwe
            go_upto_if 94 with fail
            go_cut [4] (fun c wx => c = .int .i64 e2 ∧ wx = V4)
            case first =>
              by_cases h0 : er = 0 ∧ m = 0
              · have hc : Hid (e2 = 36) := Lib.hid (by rw [HE2.out, if_pos h0])
                rw [decide_eq_true h0]
                clear h0
                go_wp2_with fail
                go_meet
                exact ⟨by rw [hc.out], rfl⟩
              · have hc : Hid (e2 = er) := Lib.hid (by rw [HE2.out, if_neg h0])
                rw [decide_eq_false h0]
                clear h0
                go_wp2_with fail
                go_meet
                exact ⟨by rw [hc.out], rfl⟩
            case rest =>
              obtain ⟨rfl, hwe⟩ := hcut
              rw [hwe]
              clear hwe
              have p1 : V4.cell? ⟨g, 1, none⟩ = some (.pointer (some ⟨l1, 0, none⟩)) := E4.out.blk.cell 1
              have T4 := Lib.hid (HT.out.keepB hB2 B4.out.below)
              have y4 := Y4.out.back S.size cap (by rw [HLBS.out, HSS.out])
              rw [← HBB.out] at y4
              have hBl : B ≤ l1 := by have := E4.out.o0; have := E4.out.o1; have := E4.out.o2; have := E4.out.o3; omega
              have hBw' : B ≤ w1 := by have := E4.out.o0; have := E4.out.o1; have := E4.out.o2; have := E4.out.o3; omega
              have hl4 : l1 < V4.heap.size := E4.out.k1.lt
              have hB4' : B ≤ V4.heap.size := by have := E4.out.blk.lt; omega
              go_upto_region 10 with (go_at_call 15; refine (CR.out _ E4.out.k1 E4.out.x1 T4.out).mono ?_; rintro e V5 ⟨rfl, hL5, hW5, hT5⟩; have L5 := Lib.hid hL5; have W5 := Lib.hid hW5; have Y5 := Lib.hid (Y4.out.same hT5.size (hT5.block _ Y4.out.1 (by have := E4.out.o2; have := E4.out.o3; have := E4.out.o1; omega) (by have := E4.out.o2; have := E4.out.o3; have := E4.out.o1; omega))); have G5 := Lib.hid (hT5.blk E4.out.blk (by have := E4.out.o0; have := E4.out.o1; have := E4.out.o2; have := E4.out.o3; omega) (by have := E4.out.o0; have := E4.out.o1; have := E4.out.o2; have := E4.out.o3; omega)); have LO5 := Lib.hid (hT5.blk E4.out.k0 (by have := E4.out.o0; have := E4.out.o1; have := E4.out.o2; have := E4.out.o3; omega) (by have := E4.out.o0; have := E4.out.o1; have := E4.out.o2; have := E4.out.o3; omega)); have WO5 := Lib.hid (hT5.blk E4.out.x0 (by have := E4.out.o0; have := E4.out.o1; have := E4.out.o2; have := E4.out.o3; omega) (by have := E4.out.o0; have := E4.out.o1; have := E4.out.o2; have := E4.out.o3; omega)); have B5 := Lib.hid (B4.out.two hT5 hB4' hBl hBw' (by have := E4.out.o1; have := E4.out.o2; have := E4.out.o3; omega) (by have := E4.out.o1; have := E4.out.o2; have := E4.out.o3; omega)); have s5 := hT5.size; clear hL5 hW5 hT5)
              have y5 := Y5.out.back S.size cap (by rw [HLBS.out, HSS.out])
              rw [← HBB.out] at y5
              have y5d := Y5.out.drew.back S.size cap (by rw [HLBS.out, HSS.out])
              rw [← HBB.out] at y5d
              clear y4
              have R5 : Hid (RefAt V5 g 10 45 ([pt l0, pt l1, pt w0, pt w1] ++ refC R0) [.string y0, .string y'] L) := Lib.hid ⟨G5.out, rfl⟩
              go_region_with (go_at_call 39; refine (CQ.out _ R5.out.drew).mono ?_; rintro e V6 ⟨rfl, hR6, hT6⟩; have R6 := Lib.hid hR6; have T6 := Lib.hid (show Two g g V5 V6 from ⟨hT6.os, hT6.tape, hT6.output, hT6.size, hT6.block⟩); clear hR6 hT6)
              all_goals
                go_wp2_with fail
                refine bodyPost_ret (v := .tuple #[.string D.1.1, .int .i64 D.1.2, .string D.1.1, .int .i64 D.1.2]) (by simp [results, Tryd.results17, go_sem]) rfl ⟨rfl, ⟨E4.out.base, E4.out.o0, E4.out.o1, E4.out.o2, E4.out.o3, R6.out.1, ?_, ?_, ?_, ?_⟩, ?_⟩
                · exact T6.out.blk LO5.out (by have := E4.out.o0; have := E4.out.o1; omega) (by have := E4.out.o0; have := E4.out.o1; omega)
                · exact T6.out.blk L5.out (by have := E4.out.o0; have := E4.out.o1; have := E4.out.o2; have := E4.out.o3; omega) (by have := E4.out.o0; have := E4.out.o1; have := E4.out.o2; have := E4.out.o3; omega)
                · exact T6.out.blk WO5.out (by have := E4.out.o0; omega) (by have := E4.out.o0; omega)
                · exact T6.out.blk W5.out (by have := E4.out.o0; have := E4.out.o1; have := E4.out.o2; omega) (by have := E4.out.o0; have := E4.out.o1; have := E4.out.o2; omega)
                · exact B5.out.two T6.out (Nat.le_trans hB4' s5) hBg hBg (by have := E4.out.o0; have := E4.out.o1; have := E4.out.o2; have := E4.out.o3; omega) (by have := E4.out.o0; have := E4.out.o1; have := E4.out.o2; have := E4.out.o3; omega)
end Go.Proofs.YtmblnacckboggaaDoor
