/- The two sides and an act's box; what each step of SecurePlays does to them. -/
import Derived.Test.YtmblnacckboggaaDoorPH
namespace Go.Proofs.YtmblnacckboggaaDoor
open Go.RowKit
def boxC (x : PAct) (n : Int) : List Value := [.int .i64 x.kind, .int .i64 x.side, .int .i64 n, .string x.data, .int .i64 x.at_, .int .u8 (x.by_.toNat : Nat)]
/-- the two sides, the box of an act -/
structure Pb (w : World) (g l0 l1 w0 w1 : Nat) (L0 L1 : Lk) (X0 X1 : Wi) (R0 R1 : Lk) (y0 y1 : ByteArray) (ab : Nat) (x : PAct) (n : Int) (wr : World) : Prop where
  en : En wr w.heap.size g l0 l1 w0 w1 L0 L1 X0 X1 R0 R1 y0 y1
  box : Blk wr ab 61 (boxC x n)
  lt : l1 < ab
  below : Below w.heap.size w wr
section
variable {w : World} {g l0 l1 w0 w1 : Nat} {L0 L1 : Lk} {X0 X1 : Wi} {R0 R1 : Lk} {y0 y1 : ByteArray} {ab : Nat} {x : PAct} {n : Int} {wr wr' : World}
theorem Pb.later (h : Pb w g l0 l1 w0 w1 L0 L1 X0 X1 R0 R1 y0 y1 ab x n wr) (hb : Below wr.heap.size wr wr') : Pb w g l0 l1 w0 w1 L0 L1 X0 X1 R0 R1 y0 y1 ab x n wr' := ⟨h.en.below hb, keepBlk hb h.box, h.lt, keepBelow h.below hb⟩
theorem Pb.drew (h : Pb w g l0 l1 w0 w1 L0 L1 X0 X1 R0 R1 y0 y1 ab x n wr) : Pb w g l0 l1 w0 w1 L0 L1 X0 X1 R0 R1 y0 y1 ab x n wr.drew := ⟨h.en.drew, h.box, h.lt, h.below.drew⟩
theorem Pb.nst (h : Pb w g l0 l1 w0 w1 L0 L1 X0 X1 R0 R1 y0 y1 ab x n wr) (n' : Int) : Pb w g l0 l1 w0 w1 L0 L1 X0 X1 R0 R1 y0 y1 ab x n' (wr.setCell ⟨ab, 2, none⟩ (.int .i64 n')) := by
  have := h.en.o0
  have := h.en.o1
  have := h.en.o2
  have := h.en.o3
  have := h.en.base
  have := h.lt
  exact ⟨h.en.far _ h.lt _, h.box.set_ 2 _, h.lt, h.below.setCell (by simp only; omega) _⟩
theorem Pb.wst0 (h : Pb w g l0 l1 w0 w1 L0 L1 X0 X1 R0 R1 y0 y1 ab x n wr) (c : Nat) (v : Value) {X' : Wi} (hX : (wireC X0).set c v = wireC X') : Pb w g l0 l1 w0 w1 L0 L1 X' X1 R0 R1 y0 y1 ab x n (wr.setCell ⟨w0, c, none⟩ v) := by
  have o0 := h.en.o0
  have o1 := h.en.o1
  have o2 := h.en.o2
  have o3 := h.en.o3
  have ob := h.en.base
  have hl := h.lt
  refine ⟨⟨ob, o0, o1, o2, o3, h.en.blk.far (p := ⟨w0, c, none⟩) (by simp only; omega) _, h.en.k0.far (p := ⟨w0, c, none⟩) (by simp only; omega) _, h.en.k1.far (p := ⟨w0, c, none⟩) (by simp only; omega) _, ?_, h.en.x1.far (p := ⟨w0, c, none⟩) (by simp only; omega) _⟩, h.box.far (p := ⟨w0, c, none⟩) (by simp only; omega) _, hl, h.below.setCell (by simp only; omega) _⟩
  rw [← hX]
  exact h.en.x0.set_ c v
theorem Pb.rst0 (h : Pb w g l0 l1 w0 w1 L0 L1 X0 X1 R0 R1 y0 y1 ab x n wr) (v : Int) : Pb w g l0 l1 w0 w1 L0 L1 X0 X1 ⟨R0.key, R0.side, v, R0.taken, R0.left, R0.fin⟩ R1 y0 y1 ab x n (wr.setCell ⟨g, 7, none⟩ (.int .i64 v)) := by
  have o0 := h.en.o0
  have o1 := h.en.o1
  have o2 := h.en.o2
  have o3 := h.en.o3
  have ob := h.en.base
  have hl := h.lt
  refine ⟨⟨ob, o0, o1, o2, o3, ?_, h.en.k0.far (p := ⟨g, 7, none⟩) (by simp only; omega) _, h.en.k1.far (p := ⟨g, 7, none⟩) (by simp only; omega) _, h.en.x0.far (p := ⟨g, 7, none⟩) (by simp only; omega) _, h.en.x1.far (p := ⟨g, 7, none⟩) (by simp only; omega) _⟩, h.box.far (p := ⟨g, 7, none⟩) (by simp only; omega) _, hl, h.below.setCell (by simp only; omega) _⟩
  exact h.en.blk.set_ 7 _
theorem Pb.yst0 (h : Pb w g l0 l1 w0 w1 L0 L1 X0 X1 R0 R1 y0 y1 ab x n wr) (y' : ByteArray) : Pb w g l0 l1 w0 w1 L0 L1 X0 X1 R0 R1 y' y1 ab x n (wr.setCell ⟨g, 16, none⟩ (.string y')) := by
  have o0 := h.en.o0
  have o1 := h.en.o1
  have o2 := h.en.o2
  have o3 := h.en.o3
  have ob := h.en.base
  have hl := h.lt
  refine ⟨⟨ob, o0, o1, o2, o3, ?_, h.en.k0.far (p := ⟨g, 16, none⟩) (by simp only; omega) _, h.en.k1.far (p := ⟨g, 16, none⟩) (by simp only; omega) _, h.en.x0.far (p := ⟨g, 16, none⟩) (by simp only; omega) _, h.en.x1.far (p := ⟨g, 16, none⟩) (by simp only; omega) _⟩, h.box.far (p := ⟨g, 16, none⟩) (by simp only; omega) _, hl, h.below.setCell (by simp only; omega) _⟩
  exact h.en.blk.set_ 16 _
theorem Pb.two0 (h : Pb w g l0 l1 w0 w1 L0 L1 X0 X1 R0 R1 y0 y1 ab x n wr) (hT : Two l0 w0 wr wr') {L' : Lk} {X' : Wi} (hL : Blk wr' l0 89 (linkC w0 L')) (hW : Blk wr' w0 48 (wireC X')) : Pb w g l0 l1 w0 w1 L' L1 X' X1 R0 R1 y0 y1 ab x n wr' := by
  have o0 := h.en.o0
  have o1 := h.en.o1
  have o2 := h.en.o2
  have o3 := h.en.o3
  have ob := h.en.base
  have hl := h.lt
  have hgw := h.en.blk.lt
  exact ⟨⟨ob, o0, o1, o2, o3, hT.blk h.en.blk (by omega) (by omega), hL, hT.blk h.en.k1 (by omega) (by omega), hW, hT.blk h.en.x1 (by omega) (by omega)⟩, hT.blk h.box (by omega) (by omega), hl, hT.belowB h.below (by omega) (by omega) (by omega)⟩
theorem Pb.sendF0 (h : Pb w g l0 l1 w0 w1 L0 L1 X0 X1 R0 R1 y0 y1 ab x n wr) (hf : L0.fin = true) (d : ByteArray) : Calls Tryd.prog 14 #[.pointer (some ⟨l0, 0, none⟩), .string d] wr fun e w' => e = .returned (.int .i64 28) ∧ Pb w g l0 l1 w0 w1 L0 L1 X0 X1 R0 R1 y0 y1 ab x n w' := by
  have hk := h.en.k0
  obtain ⟨key, side, sent, taken, left, fin⟩ := L0
  simp only at hf
  subst hf
  refine (send_fin l0 w0 key side sent taken left d wr hk).mono ?_
  rintro e w' ⟨rfl, rfl⟩
  exact ⟨rfl, h⟩
theorem Pb.sendE0 (h : Pb w g l0 l1 w0 w1 L0 L1 X0 X1 R0 R1 y0 y1 ab x n wr) (hf : L0.fin = false) : Calls Tryd.prog 14 #[.pointer (some ⟨l0, 0, none⟩), .string ⟨#[]⟩] wr fun e w' => e = .returned (.int .i64 0) ∧ Pb w g l0 l1 w0 w1 L0 L1 X0 X1 R0 R1 y0 y1 ab x n w' := by
  have hk := h.en.k0
  obtain ⟨key, side, sent, taken, left, fin⟩ := L0
  simp only at hf
  subst hf
  refine (send_empty l0 w0 key side sent taken left wr hk).mono ?_
  rintro e w' ⟨rfl, hb⟩
  exact ⟨rfl, h.later hb⟩
theorem Pb.sendR0 (h : Pb w g l0 l1 w0 w1 L0 L1 X0 X1 R0 R1 y0 y1 ab x n wr) (hf : L0.fin = false) {n0 s0 : Nat} (hl : LkOk L0 n0 s0) (hs : s0 ≤ 1000000) (hr : X0.refuse ≠ 0) (d : ByteArray) (hd : d.size ≤ 2500) (hd0 : d.size ≠ 0) (hT : Tabs w) : Calls Tryd.prog 14 #[.pointer (some ⟨l0, 0, none⟩), .string d] wr fun e w' => e = .returned (.int .i64 X0.refuse) ∧ Pb w g l0 l1 w0 w1 L0 L1 X0 X1 R0 R1 y0 y1 ab x n w' := by
  refine (send_refused l0 w0 L0 s0 X0 d hl.key hf hl.sent hs (by omega) hd0 hr wr h.en.k0 h.en.x0 (hT.keep h.below)).mono ?_
  rintro e w' ⟨rfl, hb⟩
  exact ⟨rfl, h.later hb⟩
theorem Pb.sendO0 (h : Pb w g l0 l1 w0 w1 L0 L1 X0 X1 R0 R1 y0 y1 ab x n wr) (hf : L0.fin = false) {n0 s0 : Nat} (hl : LkOk L0 n0 s0) (hs : s0 ≤ 1000000) (come : ByteArray) (err : Int) (hX : X0 = ⟨⟨#[]⟩, 0, 0, come, err⟩) (d : ByteArray) (hd : d.size ≤ 2500) (hd0 : d.size ≠ 0) (hB : 2 < w.heap.size) (hT : Tabs w) : Calls Tryd.prog 14 #[.pointer (some ⟨l0, 0, none⟩), .string d] wr fun e w' => e = .returned (.int .i64 0) ∧
    Pb w g l0 l1 w0 w1 ⟨L0.key, L0.side, ((s0 + cntL d.size : Nat) : Int), L0.taken, L0.left, L0.fin⟩ L1 ⟨⟨(outL L0.key.data.toList L0.side s0 d.data.toList (cntL d.size)).toArray⟩, 1, 0, come, err⟩ X1 R0 R1 y0 y1 ab x n w' := by
  have o0 := h.en.o0
  have o1 := h.en.o1
  have o2 := h.en.o2
  have o3 := h.en.o3
  have ob := h.en.base
  have hab := h.lt
  subst hX
  refine (send_ok l0 w0 L0 s0 ⟨⟨#[]⟩, 0, 0, come, err⟩ d hl.key hf hl.sent hs (by omega) hd0 rfl (by show (0 : Int) ≤ 0; decide) (by show (0 : Int) ≤ 100000; decide) (by show (0 : Nat) ≤ 1000000000; decide) (by omega) wr h.en.k0 h.en.x0 (hT.keep h.below) (by omega) (by omega)).mono ?_
  rintro e w' ⟨rfl, hL, hW, hT2⟩
  refine ⟨rfl, h.two0 hT2 ?_ ?_⟩
  · exact hL
  · have e : ((⟨#[]⟩ : ByteArray) ++ ⟨(outL L0.key.data.toList L0.side s0 d.data.toList (cntL d.size)).toArray⟩) = ⟨(outL L0.key.data.toList L0.side s0 d.data.toList (cntL d.size)).toArray⟩ := bytes_inj (by rw [ap_list]; rfl)
    simp only at hW
    rw [e] at hW
    exact hW
theorem Pb.recv0 (h : Pb w g l0 l1 w0 w1 L0 L1 X0 X1 L0 R1 y0 y1 ab x n wr) {n0 s0 : Nat} (hl : LkOk L0 n0 s0) (hn : n0 + (L0.left.size + y0.size) ≤ 1000000) (m : Int) (er : Int) (hB : 2 < w.heap.size) (hT : Tabs w) : Calls Tryd.prog 17 #[.pointer (some ⟨g, 0, none⟩), .int .i64 0, .int .i64 m, .agg #[.int .i64 x.at_, .int .u8 (x.by_.toNat : Nat)], .int .i64 er] wr fun e w' =>
    e = .returned (.tuple #[.string (takR L0 m x.at_ x.by_ er y0).1.1, .int .i64 (takR L0 m x.at_ x.by_ er y0).1.2, .string (takR L0 m x.at_ x.by_ er y0).1.1, .int .i64 (takR L0 m x.at_ x.by_ er y0).1.2]) ∧
    Pb w g l0 l1 w0 w1 (takR L0 m x.at_ x.by_ er y0).2 L1 (wiTak L0 X0 m x.at_ x.by_ er y0) X1 (takR L0 m x.at_ x.by_ er y0).2 R1 (y0.extract (cutN m y0) y0.size) y1 ab x n w' := by
  refine (ends_receive0 wr w.heap.size g l0 l1 w0 w1 L0 L1 X0 X1 R1 y0 y1 h.en n0 s0 hl (by omega) m x.at_ x.by_ er (by omega) hB (hT.keep h.below)).mono ?_
  rintro e w' ⟨rfl, hE, hF⟩
  exact ⟨rfl, hE, (hF.up ab h.lt h.box.lt).trans h.box, h.lt, h.below.trans hF.below⟩
theorem Pb.agree0 (h : Pb w g l0 l1 w0 w1 L0 L1 X0 X1 L0 R1 y0 y1 ab x n wr) : Calls Tryd.prog 23 #[.pointer (some ⟨g, 0, none⟩), .int .i64 0] wr fun e w' => e = .returned (.bool true) ∧ Pb w g l0 l1 w0 w1 L0 L1 X0 X1 L0 R1 y0 y1 ab x n w' := by
  refine (ends_agree0 wr w.heap.size g l0 l1 w0 w1 L0 L1 X0 X1 R1 y0 y1 h.en).mono ?_
  rintro e w' ⟨rfl, _, hb⟩
  exact ⟨rfl, h.later hb⟩
theorem Pb.wst1 (h : Pb w g l0 l1 w0 w1 L0 L1 X0 X1 R0 R1 y0 y1 ab x n wr) (c : Nat) (v : Value) {X' : Wi} (hX : (wireC X1).set c v = wireC X') : Pb w g l0 l1 w0 w1 L0 L1 X0 X' R0 R1 y0 y1 ab x n (wr.setCell ⟨w1, c, none⟩ v) := by
  have o0 := h.en.o0
  have o1 := h.en.o1
  have o2 := h.en.o2
  have o3 := h.en.o3
  have ob := h.en.base
  have hl := h.lt
  refine ⟨⟨ob, o0, o1, o2, o3, h.en.blk.far (p := ⟨w1, c, none⟩) (by simp only; omega) _, h.en.k0.far (p := ⟨w1, c, none⟩) (by simp only; omega) _, h.en.k1.far (p := ⟨w1, c, none⟩) (by simp only; omega) _, h.en.x0.far (p := ⟨w1, c, none⟩) (by simp only; omega) _, ?_⟩, h.box.far (p := ⟨w1, c, none⟩) (by simp only; omega) _, hl, h.below.setCell (by simp only; omega) _⟩
  rw [← hX]
  exact h.en.x1.set_ c v
theorem Pb.rst1 (h : Pb w g l0 l1 w0 w1 L0 L1 X0 X1 R0 R1 y0 y1 ab x n wr) (v : Int) : Pb w g l0 l1 w0 w1 L0 L1 X0 X1 R0 ⟨R1.key, R1.side, v, R1.taken, R1.left, R1.fin⟩ y0 y1 ab x n (wr.setCell ⟨g, 13, none⟩ (.int .i64 v)) := by
  have o0 := h.en.o0
  have o1 := h.en.o1
  have o2 := h.en.o2
  have o3 := h.en.o3
  have ob := h.en.base
  have hl := h.lt
  refine ⟨⟨ob, o0, o1, o2, o3, ?_, h.en.k0.far (p := ⟨g, 13, none⟩) (by simp only; omega) _, h.en.k1.far (p := ⟨g, 13, none⟩) (by simp only; omega) _, h.en.x0.far (p := ⟨g, 13, none⟩) (by simp only; omega) _, h.en.x1.far (p := ⟨g, 13, none⟩) (by simp only; omega) _⟩, h.box.far (p := ⟨g, 13, none⟩) (by simp only; omega) _, hl, h.below.setCell (by simp only; omega) _⟩
  exact h.en.blk.set_ 13 _
theorem Pb.yst1 (h : Pb w g l0 l1 w0 w1 L0 L1 X0 X1 R0 R1 y0 y1 ab x n wr) (y' : ByteArray) : Pb w g l0 l1 w0 w1 L0 L1 X0 X1 R0 R1 y0 y' ab x n (wr.setCell ⟨g, 17, none⟩ (.string y')) := by
  have o0 := h.en.o0
  have o1 := h.en.o1
  have o2 := h.en.o2
  have o3 := h.en.o3
  have ob := h.en.base
  have hl := h.lt
  refine ⟨⟨ob, o0, o1, o2, o3, ?_, h.en.k0.far (p := ⟨g, 17, none⟩) (by simp only; omega) _, h.en.k1.far (p := ⟨g, 17, none⟩) (by simp only; omega) _, h.en.x0.far (p := ⟨g, 17, none⟩) (by simp only; omega) _, h.en.x1.far (p := ⟨g, 17, none⟩) (by simp only; omega) _⟩, h.box.far (p := ⟨g, 17, none⟩) (by simp only; omega) _, hl, h.below.setCell (by simp only; omega) _⟩
  exact h.en.blk.set_ 17 _
theorem Pb.two1 (h : Pb w g l0 l1 w0 w1 L0 L1 X0 X1 R0 R1 y0 y1 ab x n wr) (hT : Two l1 w1 wr wr') {L' : Lk} {X' : Wi} (hL : Blk wr' l1 89 (linkC w1 L')) (hW : Blk wr' w1 48 (wireC X')) : Pb w g l0 l1 w0 w1 L0 L' X0 X' R0 R1 y0 y1 ab x n wr' := by
  have o0 := h.en.o0
  have o1 := h.en.o1
  have o2 := h.en.o2
  have o3 := h.en.o3
  have ob := h.en.base
  have hl := h.lt
  have hgw := h.en.blk.lt
  exact ⟨⟨ob, o0, o1, o2, o3, hT.blk h.en.blk (by omega) (by omega), hT.blk h.en.k0 (by omega) (by omega), hL, hT.blk h.en.x0 (by omega) (by omega), hW⟩, hT.blk h.box (by omega) (by omega), hl, hT.belowB h.below (by omega) (by omega) (by omega)⟩
theorem Pb.sendF1 (h : Pb w g l0 l1 w0 w1 L0 L1 X0 X1 R0 R1 y0 y1 ab x n wr) (hf : L1.fin = true) (d : ByteArray) : Calls Tryd.prog 14 #[.pointer (some ⟨l1, 0, none⟩), .string d] wr fun e w' => e = .returned (.int .i64 28) ∧ Pb w g l0 l1 w0 w1 L0 L1 X0 X1 R0 R1 y0 y1 ab x n w' := by
  have hk := h.en.k1
  obtain ⟨key, side, sent, taken, left, fin⟩ := L1
  simp only at hf
  subst hf
  refine (send_fin l1 w1 key side sent taken left d wr hk).mono ?_
  rintro e w' ⟨rfl, rfl⟩
  exact ⟨rfl, h⟩
theorem Pb.sendE1 (h : Pb w g l0 l1 w0 w1 L0 L1 X0 X1 R0 R1 y0 y1 ab x n wr) (hf : L1.fin = false) : Calls Tryd.prog 14 #[.pointer (some ⟨l1, 0, none⟩), .string ⟨#[]⟩] wr fun e w' => e = .returned (.int .i64 0) ∧ Pb w g l0 l1 w0 w1 L0 L1 X0 X1 R0 R1 y0 y1 ab x n w' := by
  have hk := h.en.k1
  obtain ⟨key, side, sent, taken, left, fin⟩ := L1
  simp only at hf
  subst hf
  refine (send_empty l1 w1 key side sent taken left wr hk).mono ?_
  rintro e w' ⟨rfl, hb⟩
  exact ⟨rfl, h.later hb⟩
theorem Pb.sendR1 (h : Pb w g l0 l1 w0 w1 L0 L1 X0 X1 R0 R1 y0 y1 ab x n wr) (hf : L1.fin = false) {n0 s0 : Nat} (hl : LkOk L1 n0 s0) (hs : s0 ≤ 1000000) (hr : X1.refuse ≠ 0) (d : ByteArray) (hd : d.size ≤ 2500) (hd0 : d.size ≠ 0) (hT : Tabs w) : Calls Tryd.prog 14 #[.pointer (some ⟨l1, 0, none⟩), .string d] wr fun e w' => e = .returned (.int .i64 X1.refuse) ∧ Pb w g l0 l1 w0 w1 L0 L1 X0 X1 R0 R1 y0 y1 ab x n w' := by
  refine (send_refused l1 w1 L1 s0 X1 d hl.key hf hl.sent hs (by omega) hd0 hr wr h.en.k1 h.en.x1 (hT.keep h.below)).mono ?_
  rintro e w' ⟨rfl, hb⟩
  exact ⟨rfl, h.later hb⟩
theorem Pb.sendO1 (h : Pb w g l0 l1 w0 w1 L0 L1 X0 X1 R0 R1 y0 y1 ab x n wr) (hf : L1.fin = false) {n0 s0 : Nat} (hl : LkOk L1 n0 s0) (hs : s0 ≤ 1000000) (come : ByteArray) (err : Int) (hX : X1 = ⟨⟨#[]⟩, 0, 0, come, err⟩) (d : ByteArray) (hd : d.size ≤ 2500) (hd0 : d.size ≠ 0) (hB : 2 < w.heap.size) (hT : Tabs w) : Calls Tryd.prog 14 #[.pointer (some ⟨l1, 0, none⟩), .string d] wr fun e w' => e = .returned (.int .i64 0) ∧
    Pb w g l0 l1 w0 w1 L0 ⟨L1.key, L1.side, ((s0 + cntL d.size : Nat) : Int), L1.taken, L1.left, L1.fin⟩ X0 ⟨⟨(outL L1.key.data.toList L1.side s0 d.data.toList (cntL d.size)).toArray⟩, 1, 0, come, err⟩ R0 R1 y0 y1 ab x n w' := by
  have o0 := h.en.o0
  have o1 := h.en.o1
  have o2 := h.en.o2
  have o3 := h.en.o3
  have ob := h.en.base
  have hab := h.lt
  subst hX
  refine (send_ok l1 w1 L1 s0 ⟨⟨#[]⟩, 0, 0, come, err⟩ d hl.key hf hl.sent hs (by omega) hd0 rfl (by show (0 : Int) ≤ 0; decide) (by show (0 : Int) ≤ 100000; decide) (by show (0 : Nat) ≤ 1000000000; decide) (by omega) wr h.en.k1 h.en.x1 (hT.keep h.below) (by omega) (by omega)).mono ?_
  rintro e w' ⟨rfl, hL, hW, hT2⟩
  refine ⟨rfl, h.two1 hT2 ?_ ?_⟩
  · exact hL
  · have e : ((⟨#[]⟩ : ByteArray) ++ ⟨(outL L1.key.data.toList L1.side s0 d.data.toList (cntL d.size)).toArray⟩) = ⟨(outL L1.key.data.toList L1.side s0 d.data.toList (cntL d.size)).toArray⟩ := bytes_inj (by rw [ap_list]; rfl)
    simp only at hW
    rw [e] at hW
    exact hW
theorem Pb.recv1 (h : Pb w g l0 l1 w0 w1 L0 L1 X0 X1 R0 L1 y0 y1 ab x n wr) {n0 s0 : Nat} (hl : LkOk L1 n0 s0) (hn : n0 + (L1.left.size + y1.size) ≤ 1000000) (m : Int) (er : Int) (hB : 2 < w.heap.size) (hT : Tabs w) : Calls Tryd.prog 17 #[.pointer (some ⟨g, 0, none⟩), .int .i64 1, .int .i64 m, .agg #[.int .i64 x.at_, .int .u8 (x.by_.toNat : Nat)], .int .i64 er] wr fun e w' =>
    e = .returned (.tuple #[.string (takR L1 m x.at_ x.by_ er y1).1.1, .int .i64 (takR L1 m x.at_ x.by_ er y1).1.2, .string (takR L1 m x.at_ x.by_ er y1).1.1, .int .i64 (takR L1 m x.at_ x.by_ er y1).1.2]) ∧
    Pb w g l0 l1 w0 w1 L0 (takR L1 m x.at_ x.by_ er y1).2 X0 (wiTak L1 X1 m x.at_ x.by_ er y1) R0 (takR L1 m x.at_ x.by_ er y1).2 y0 (y1.extract (cutN m y1) y1.size) ab x n w' := by
  refine (ends_receive1 wr w.heap.size g l0 l1 w0 w1 L1 L0 X0 X1 R0 y0 y1 h.en n0 s0 hl (by omega) m x.at_ x.by_ er (by omega) hB (hT.keep h.below)).mono ?_
  rintro e w' ⟨rfl, hE, hF⟩
  exact ⟨rfl, hE, (hF.up ab h.lt h.box.lt).trans h.box, h.lt, h.below.trans hF.below⟩
theorem Pb.agree1 (h : Pb w g l0 l1 w0 w1 L0 L1 X0 X1 R0 L1 y0 y1 ab x n wr) : Calls Tryd.prog 23 #[.pointer (some ⟨g, 0, none⟩), .int .i64 1] wr fun e w' => e = .returned (.bool true) ∧ Pb w g l0 l1 w0 w1 L0 L1 X0 X1 R0 L1 y0 y1 ab x n w' := by
  refine (ends_agree1 wr w.heap.size g l0 l1 w0 w1 L1 L0 X0 X1 R0 y0 y1 h.en).mono ?_
  rintro e w' ⟨rfl, _, hb⟩
  exact ⟨rfl, h.later hb⟩
end
/-- the state between the acts: links are the references' links, and nothing is great -/
def Pl (w : World) (g l0 l1 w0 w1 : Nat) (m : Nat) (wr : World) : Prop :=
  ∃ (L0 L1 : Lk) (X0 X1 : Wi) (y0 y1 : ByteArray) (n0 n1 s0 s1 : Nat), LkOk L0 n0 s0 ∧ LkOk L1 n1 s1 ∧ s0 ≤ 3 * m ∧ s1 ≤ 3 * m ∧ n0 + (L0.left.size + y0.size) ≤ 2602 * m ∧ n1 + (L1.left.size + y1.size) ≤ 2602 * m ∧
    En wr w.heap.size g l0 l1 w0 w1 L0 L1 X0 X1 L0 L1 y0 y1 ∧ Below w.heap.size w wr
theorem cnt_few {d : ByteArray} (hd : d.size ≤ 2500) : cntL d.size ≤ 3 := by unfold cntL; omega
theorem out_few (key : List UInt8) (side : Int) (k : Nat) {d : ByteArray} (hd : d.size ≤ 2500) : (outL key side k d.data.toList (cntL d.size)).length ≤ 2602 := by
  rw [outL_recs, recsL_len, pieces_len, piecesC_flat, bytes_len]
  have := cnt_few hd
  omega
end Go.Proofs.YtmblnacckboggaaDoor
