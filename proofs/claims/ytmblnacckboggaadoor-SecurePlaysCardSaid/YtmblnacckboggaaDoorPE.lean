/- SecureChanges: the law's walk. -/
import Derived.Test.YtmblnacckboggaaDoorPD
import Derived.Test.YtmblnacckboggaaDoorPO
import Derived.Deep.RegionHeld3
namespace Go.Proofs.YtmblnacckboggaaDoor
open Go.RowKit
abbrev Spo := Int × UInt8
def spo0 : Spo := (0, 0)
/-- a slice of changes -/
def Spls (w : World) (v : Value) (l : List Spo) : Prop := (l = [] ∧ ∃ a c, v = .slice a 0 c) ∨
  ∃ b off cap, v = .slice (some ⟨b, off, none⟩) l.length cap ∧ 0 < l.length ∧ l.length ≤ 9223372036854775807 ∧ b < w.heap.size ∧ ∀ i, i < l.length → w.cell? ⟨b, off + i * 2, none⟩ = some (.int .i64 (l.getD i spo0).1) ∧ w.cell? ⟨b, off + i * 2 + 1, none⟩ = some (.int .u8 ((l.getD i spo0).2.toNat : Nat))
theorem Spls.below {w w' : World} {v : Value} {l : List Spo} (h : Spls w v l) (hb : Below w.heap.size w w') : Spls w' v l := by
  rcases h with h | ⟨b, off, cap, h1, h2, h3, h4, h5⟩
  · exact .inl h
  · exact .inr ⟨b, off, cap, h1, h2, h3, Nat.lt_of_lt_of_le h4 hb.size, fun i hi => ⟨(hb.cell (p := ⟨b, off + i * 2, none⟩) h4).trans (h5 i hi).1, (hb.cell (p := ⟨b, off + i * 2 + 1, none⟩) h4).trans (h5 i hi).2⟩⟩
theorem Spls.form {w : World} {v : Value} {l : List Spo} (h : Spls w v l) : ∃ a c, v = .slice a l.length c := by
  rcases h with ⟨rfl, a, c, h⟩ | ⟨b, off, cap, h, _⟩
  · exact ⟨a, c, h⟩
  · exact ⟨_, cap, h⟩
theorem Spls.at {w : World} {a : Option Addr} {n c : Nat} {l : List Spo} (h : Spls w (.slice a n c) l) {i : Nat} (hi : i < l.length) : ∃ b off, a = some ⟨b, off, none⟩ ∧ b < w.heap.size ∧ w.cell? ⟨b, off + i * 2, none⟩ = some (.int .i64 (l.getD i spo0).1) ∧ w.cell? ⟨b, off + i * 2 + 1, none⟩ = some (.int .u8 ((l.getD i spo0).2.toNat : Nat)) := by
  rcases h with ⟨rfl, _⟩ | ⟨b, off, cap, h1, _, _, h4, h5⟩
  · exact absurd hi (by simp)
  · injection h1 with h1 _ _
    exact ⟨b, off, h1, h4, h5 i hi⟩
def spoilAll (L : List UInt8) (sp : List Spo) : List UInt8 := sp.foldl (fun L p => spoilL L p.1 p.2) L
theorem spoilAll_len (L : List UInt8) (sp : List Spo) : (spoilAll L sp).length = L.length := by
  unfold spoilAll
  induction sp generalizing L with
  | nil => rfl
  | cons p sp ih => rw [List.foldl_cons, ih, spoil_len]
theorem spoilAll_snoc (L : List UInt8) (sp : List Spo) (m : Nat) (h : m < sp.length) : spoilAll L (sp.take (m + 1)) = spoilL (spoilAll L (sp.take m)) (sp.getD m spo0).1 (sp.getD m spo0).2 := by
  unfold spoilAll
  rw [List.take_succ_eq_append_getElem h, List.foldl_append, List.getD_eq_getElem?_getD, List.getElem?_eq_getElem h]; rfl
theorem Sent.below {w : World} {k : ByteArray} {ds : List ByteArray} {g l0 l1 w0 w1 m : Nat} {A : ByteArray} {wr wr' : World} (h : Sent w k ds g l0 l1 w0 w1 m A wr) (hb : Below wr.heap.size wr wr') : Sent w k ds g l0 l1 w0 w1 m A wr' := by
  obtain ⟨sends, s1, s2, hA, hsm, hE, hb'⟩ := h
  exact ⟨sends, s1, s2, hA, hsm, hE.below hb, keepBelow hb' hb⟩
theorem Sent.far {w : World} {k : ByteArray} {ds : List ByteArray} {g l0 l1 w0 w1 m : Nat} {A : ByteArray} {wr : World} (h : Sent w k ds g l0 l1 w0 w1 m A wr) (p : Addr) (hp : l1 < p.block) (v : Value) : Sent w k ds g l0 l1 w0 w1 m A (wr.setCell p v) := by
  obtain ⟨sends, s1, s2, hA, hsm, hE, hb'⟩ := h
  have o0 := hE.o0
  have o1 := hE.o1
  have o2 := hE.o2
  have o3 := hE.o3
  have ob := hE.base
  exact ⟨sends, s1, s2, hA, hsm, hE.far p hp v, hb'.setCell (by omega) _⟩
theorem Sent.drew {w : World} {k : ByteArray} {ds : List ByteArray} {g l0 l1 w0 w1 m : Nat} {A : ByteArray} {wr : World} (h : Sent w k ds g l0 l1 w0 w1 m A wr) : Sent w k ds g l0 l1 w0 w1 m A wr.drew := by
  obtain ⟨sends, s1, s2, hA, hsm, hE, hb'⟩ := h
  exact ⟨sends, s1, s2, hA, hsm, hE.drew, hb'.drew⟩
theorem Sent.l1lt {w : World} {k : ByteArray} {ds : List ByteArray} {g l0 l1 w0 w1 m : Nat} {A : ByteArray} {wr : World} (h : Sent w k ds g l0 l1 w0 w1 m A wr) : l1 < wr.heap.size := by
  obtain ⟨sends, s1, s2, hA, hsm, hE, hb'⟩ := h
  exact hE.k1.lt
/-- all was sent, and bytes lie at a block of their own -/
structure Sb (w : World) (k : ByteArray) (ds : List ByteArray) (g l0 l1 w0 w1 : Nat) (A : ByteArray) (bg : Nat) (L : List UInt8) (wr : World) : Prop where
  sent : Sent w k ds g l0 l1 w0 w1 ds.length A wr
  byt : Byt wr bg L
  lt : l1 < bg
section
variable {w : World} {k : ByteArray} {ds : List ByteArray} {g l0 l1 w0 w1 : Nat} {A : ByteArray} {bg : Nat} {L : List UInt8} {wr wr' : World}
theorem Sb.below (h : Sb w k ds g l0 l1 w0 w1 A bg L wr) (hb : Below wr.heap.size wr wr') : Sb w k ds g l0 l1 w0 w1 A bg L wr' := ⟨h.sent.below hb, h.byt.below hb, h.lt⟩
theorem Sb.drew (h : Sb w k ds g l0 l1 w0 w1 A bg L wr) : Sb w k ds g l0 l1 w0 w1 A bg L wr.drew := ⟨h.sent.drew, h.byt.drew, h.lt⟩
theorem Sb.set_ (h : Sb w k ds g l0 l1 w0 w1 A bg L wr) {i : Nat} (hi : i < L.length) (v : UInt8) : Sb w k ds g l0 l1 w0 w1 A bg (L.set i v) (wr.setCell ⟨bg, i, none⟩ (.int .u8 (v.toNat : Nat))) := ⟨h.sent.far _ h.lt _, h.byt.set_ hi v, h.lt⟩
end

structure BytS (W : World) (g : Nat) (L : List UInt8) : Prop where
  out : Byt W g L
theorem BytS.drew {W : World} {g : Nat} {L : List UInt8} (h : BytS W g L) : BytS W.drew g L := ⟨h.out.drew⟩
/-- all was sent, the bytes are on their way to the other side -/
def Fin (w : World) (k : ByteArray) (ds : List ByteArray) (g l0 l1 w0 w1 : Nat) (A R Bb : ByteArray) (bg : Nat) (L : List UInt8) (wr : World) : Prop :=
  ∃ (n : Nat) (sends : Int), A.data.toList = allD ds ∧ En wr w.heap.size g l0 l1 w0 w1 (lkS k n) (lkO k 2) ⟨R, sends, 0, ⟨#[]⟩, 0⟩ zWi (lkO k 1) (lkO k 2) ⟨#[]⟩ Bb ∧ Below w.heap.size w wr ∧ Byt wr bg L ∧ l1 < bg
theorem Sb.put {w : World} {k : ByteArray} {ds : List ByteArray} {g l0 l1 w0 w1 : Nat} {A R : ByteArray} {bg : Nat} {L : List UInt8} {wr : World} (h : Sb w k ds g l0 l1 w0 w1 A bg L wr) (hR : R = ⟨(recsL (keyL k) 1 0 (allPs ds)).toArray⟩) (Bb : ByteArray) : Fin w k ds g l0 l1 w0 w1 A R Bb bg L ((wr.setCell ⟨g, 17, none⟩ (.string Bb)).drew) := by
  obtain ⟨⟨sends, s1, s2, hA, hsm, hE, hb⟩, hY, hl⟩ := h
  rw [List.take_length] at hA hE
  have o0 := hE.o0
  have o1 := hE.o1
  have o2 := hE.o2
  have o3 := hE.o3
  have ob := hE.base
  refine ⟨_, sends, hA, ⟨ob, o0, o1, o2, o3, hE.blk.set_ 17 _, hE.k0.far (p := ⟨g, 17, none⟩) (by simp only; omega) _, hE.k1.far (p := ⟨g, 17, none⟩) (by simp only; omega) _, ?_, hE.x1.far (p := ⟨g, 17, none⟩) (by simp only; omega) _⟩, (hb.setCell (by simp only; omega) _).drew, (hY.far (p := ⟨g, 17, none⟩) (by simp only; omega) _).drew, hl⟩
  rw [hR]
  exact hE.x0.far (p := ⟨g, 17, none⟩) (by simp only; omega) _
theorem tak_first (k Bb : ByteArray) : (takR (lkO k 2) (Bb.size : Int) (-1) 0 0 Bb).1.1.data.toList = (drain (keyL k) 1 Bb.size 0 Bb.data.toList []).1 := by
  have hc : cutN (Bb.size : Int) Bb = Bb.size := by unfold cutN; omega
  have hcome : comeB (Bb.size : Int) (-1) 0 Bb = Bb := by
    unfold comeB spoilL
    rw [hc, if_neg (by omega), List.take_of_length_le (by rw [bytes_len]; exact Nat.le_refl _)]
  have hem : ((⟨#[]⟩ : ByteArray) ++ Bb) = Bb := bytes_inj (by rw [ap_list]; rfl)
  unfold takR errR
  rw [hcome, hc]
  by_cases h0 : Bb.size = 0
  · have hB : Bb = ⟨#[]⟩ := ByteArray.size_eq_zero_iff.1 h0
    subst hB
    rw [if_pos ⟨rfl, rfl⟩]
    unfold recvR lkO
    simp only [Bool.false_eq_true, if_false]
    rw [if_neg (by decide)]
    simp only [show ¬ (36 : Int) = 0 by decide, if_false]
    show (if (drain (keyL k) 1 0 0 [] []).1 = [] then _ else _ : ByteArray × Int).1.data.toList = (drain (keyL k) 1 0 0 [] []).1
    split
    · rename_i h; rw [h]
    · rfl
  · rw [if_neg (fun h => h0 h.2)]
    unfold recvR lkO
    simp only [Bool.false_eq_true, if_false]
    rw [if_neg (by decide)]
    simp only [if_true]
    rw [hem]
    show (if (drain (keyL k) 1 Bb.size 0 Bb.data.toList []).1 = [] then _ else _ : ByteArray × Int).1.data.toList = (drain (keyL k) 1 Bb.size 0 Bb.data.toList []).1
    split
    · rename_i h; rw [h]
    · rfl
theorem changes_true {k A s Bb : ByteArray} {ds : List ByteArray} (hA : A.data.toList = allD ds) (hs : s.data.toList = (drain (keyL k) 1 Bb.size 0 Bb.data.toList []).1) (hp : Lib.hasPrefix A.data.toList s.data.toList = false) :
    chanceB (keyL k) 1 Bb.size 0 (recsL (keyL k) 1 0 (allPs ds)) Bb.data.toList = true := by
  rw [← Bool.not_eq_false]
  intro hc
  obtain ⟨t, ht, e⟩ := drain_chance (key := keyL k) (side := 1) (keyB_ok k 1 (.inl rfl)) Bb.size (allPs ds) (allPs_good ds) 0 Bb.data.toList [] (by rw [bytes_len]; exact Nat.le_refl _) hc
  rw [← hs, List.nil_append] at e
  have : s.data.toList <+: A.data.toList := by
    rw [e, hA, ← allPs_flat]
    exact ⟨((allPs ds).drop t).flatten, by rw [← List.flatten_append, List.take_append_drop]⟩
  rw [show Lib.hasPrefix A.data.toList s.data.toList = true from List.isPrefixOf_iff_prefix.2 this] at hp
  cases hp
/-- the last steps: what is received, and what is said of it -/
theorem fin_receive {w : World} {k : ByteArray} {ds : List ByteArray} {g l0 l1 w0 w1 : Nat} {A R Bb : ByteArray} {bg : Nat} {L : List UInt8} {wr : World} (h : Fin w k ds g l0 l1 w0 w1 A R Bb bg L wr) (hb : Bb.size ≤ 100000) (hB : 2 < w.heap.size) (hT : Tabs w) (n : Nat) (hn : n = Bb.size) :
    Calls Tryd.prog 17 #[.pointer (some ⟨g, 0, none⟩), .int .i64 1, .int .i64 n, .agg #[.int .i64 (-1), .int .u8 0], .int .i64 0] wr fun e w' => ∃ (s : ByteArray) (er : Int), e = .returned (.tuple #[.string s, .int .i64 er, .string s, .int .i64 er]) ∧ s.data.toList = (drain (keyL k) 1 Bb.size 0 Bb.data.toList []).1 ∧
      w'.cell? ⟨g, 2, none⟩ = some (.pointer (some ⟨w0, 0, none⟩)) ∧ w'.cell? ⟨w0, 0, none⟩ = some (.string R) ∧ Below w.heap.size w w' ∧ Byt w' bg L := by
  obtain ⟨q, sends, hA, hE, hbl, hY, hl⟩ := h
  subst hn
  refine (ends_receive1 wr w.heap.size g l0 l1 w0 w1 (lkO k 2) (lkS k q) ⟨R, sends, 0, ⟨#[]⟩, 0⟩ zWi (lkO k 1) ⟨#[]⟩ Bb hE 0 0 ⟨keyB_ok k 2 (.inr rfl), rfl, rfl⟩ (by omega) (Bb.size : Int) (-1) 0 0 (by show 0 + Bb.size ≤ _; omega) hB (hT.keep hbl)).mono ?_
  rintro e w' ⟨rfl, hE', hF⟩
  exact ⟨_, _, rfl, tak_first k Bb, hE'.blk.cell 2, hE'.x0.cell 0, hbl.trans hF.below, hY.same hF.below.size (hF.up bg hl hY.1)⟩
set_option maxRecDepth 100000 in
set_option maxHeartbeats 6400000 in
theorem changes_ok (k : ByteArray) (sa ba : Option Addr) (sc bc : Nat) (ds : List ByteArray) (sp : List Spo) (fr to_ put : Int) (hk : k.size ≤ 200000000000000) (hds : ds.length ≤ 8) (hsp : sp.length ≤ 10) (w : World) (hS : Strs w (.slice sa ds.length sc) ds) (hC : Spls w (.slice ba sp.length bc) sp) (hT : Tabs w) :
    Calls Tryd.prog 5 #[.string k, .slice sa ds.length sc, .slice ba sp.length bc, .int .i64 fr, .int .i64 to_, .int .i64 put] w fun e w' => e = .returned (.bool true) ∧ Below w.heap.size w w' := by
  have CA := Lib.hid (awake_any w hT)
  have CO := Lib.hid (fun W => open_two k hk W)
  have hB2 := hT.big
  have HT := Lib.hid hT
  have HS := Lib.hid hS
  have HC := Lib.hid hC
  have HKK := Lib.hid hk
  have d1 : decide ((8 : Int) < ds.length) = false := decide_eq_false (by omega)
  have d2 : decide ((10 : Int) < sp.length) = false := decide_eq_false (by omega)
  clear hS hC hT hk
  go_enter Tryd.func5, Tryd.ntmps5
  go_wp2_with (first
    | (go_at_call 8; refine (CA.out).mono ?_; rintro e v1 ⟨rfl, hb1⟩; have B1 := Lib.hid hb1; clear hb1)
    | (go_at_call 13; refine (CO.out _).mono ?_; rintro e v2 ⟨g, l0, l1, w0, w1, rfl, hE2, hb2⟩; have E2 := Lib.hid (show En v2 w.heap.size g l0 l1 w0 w1 (lkO k 1) (lkO k 2) zWi zWi (lkO k 1) (lkO k 2) ⟨#[]⟩ ⟨#[]⟩ from ⟨Nat.le_trans B1.out.size hE2.base, hE2.o0, hE2.o1, hE2.o2, hE2.o3, hE2.blk, hE2.k0, hE2.k1, hE2.x0, hE2.x1⟩); have B2 := Lib.hid (keepBelow B1.out hb2); clear hE2 hb2))
  go_loopg [14, 42] ds.length (fun k' av iv wr => ∃ (m : Nat) (A : ByteArray), m + k' = ds.length ∧ av = .string A ∧ iv = .int .i64 m ∧ Sent w k ds g l0 l1 w0 w1 m A wr)
  case atStart => exact ⟨0, ⟨#[]⟩, by omega, rfl, rfl, 0, Int.le_refl _, Int.le_refl _, rfl, by simp, E2.out, B2.out⟩
  case round =>
    obtain ⟨m, A, hm, rfl, rfl, hSent⟩ := hrel
    have HSE := Lib.hid hSent
    obtain ⟨hA, hb, c0, c2, c3⟩ := hSent.len
    have HB := Lib.hid hb
    clear hb hSent CO CA E2 B2 B1
    by_cases hlt : m < ds.length
    · obtain ⟨sb, so, hsa, hsb, hcell⟩ := (HS.out.below HB.out).at hlt
      obtain ⟨s, hs⟩ : ∃ s, s = ds.getD m emB := ⟨_, rfl⟩
      rw [← hs] at hcell
      have HSG := Lib.hid hs
      subst hsa
      have i0 : (m : Int) < ds.length := by omega
      have i0' : (0 : Int) ≤ m := by omega
      clear hs c2 c3
      by_cases h25 : s.size ≤ 2500
      · have d3 : decide ((2500 : Int) < s.size) = false := decide_eq_false (by omega)
        have CS := Lib.hid (sent_next HSE.out hlt (by rw [← HSG.out]; exact h25) (by omega) hB2 HT.out)
        rw [← HSG.out] at CS
        have c1 : ¬ 9223372036854775807 < A.size + s.size := by omega
        have ei : IntKind.i64.wrap ((m : Int) + 1) = (m : Int) + 1 := IntWalk.i64_in _ (by omega)
        go_wp2_with (go_at_call 14; refine (CS.out).mono ?_; rintro e v3 ⟨rfl, h3⟩; have S3 := Lib.hid h3; clear h3)
        go_roundg (gk - 1)
        case measure => omega
        case rel => exact ⟨m + 1, A ++ s, by omega, rfl, by go_num, S3.out⟩
      · have d3 : (2500 : Int) < s.size := by omega
        clear h25
        go_wp2_with fail
        go_ret
        exact ⟨rfl, HB.out⟩
    · obtain rfl : m = ds.length := by omega
      rw [List.take_length] at c3
      obtain ⟨R, hR⟩ : ∃ R : ByteArray, R = ⟨(recsL (keyL k) 1 0 (allPs ds)).toArray⟩ := ⟨_, rfl⟩
      rw [← hR] at c3
      obtain ⟨hAll, hds2⟩ := HSE.out.all
      have hRs : R.size ≤ 25000 := by
        have := drop_len k ds hds2 0
        rw [List.drop_zero] at this
        rw [hR, str_size]
        omega
      have HRR := Lib.hid hR
      have HAL := Lib.hid hAll
      have hcv := fun W : World => run_bytes_of_string W 9 29 5 R Tryd.underlying9 Tryd.underlying29 Tryd.underlying5
      obtain ⟨wo, rfl⟩ : ∃ wo : World, wo = wr := ⟨_, rfl⟩
      clear hlt hR hAll hds2 c0 hm
      go_upto_region 19 with fail
      obtain ⟨cap, hcap⟩ : ∃ c, c = grownCap wo R.size 0 5 := ⟨_, rfl⟩
      rw [← hcap]
      have Y1 := Lib.hid (Byt.make R cap wo)
      obtain ⟨V1, hV1⟩ : ∃ V1, V1 = (wo.alloc (.cells (bytesRow R cap) 5 ((bytesRow R cap).size, (bytesRow R cap).size + 1))).drew := ⟨_, rfl⟩
      have hV01 : Below wo.heap.size wo V1 := by rw [hV1]; exact ((Below.refl _ _).alloc (Nat.le_refl _) _).drew
      rw [← hV1] at Y1
      rw [← hV1]
      obtain ⟨bg, hbg⟩ : ∃ bg, bg = wo.heap.size := ⟨_, rfl⟩
      rw [← hbg] at Y1
      rw [← hbg]
      obtain ⟨nb, hnb⟩ : ∃ nb, nb = R.size := ⟨_, rfl⟩
      have SB1 : Hid (Sb w k ds g l0 l1 w0 w1 A bg R.data.toList V1) := Lib.hid ⟨HSE.out.below hV01, Y1.out, by rw [hbg]; exact HSE.out.l1lt⟩
      have hcapn : nb ≤ cap := by rw [hnb, hcap]; exact grownCap_ge _ _ _ _
      rw [← hnb]
      have HNB := Lib.hid hnb
      rw [← hnb] at hRs
      clear hV1 hV01 hcap hbg hnb hcv c2 c3 Y1 HS
      go_wp2_with fail
      go_loopg [72] sp.length (fun q iv wr => ∃ (m : Nat), m + q = sp.length ∧ iv = .int .i64 m ∧ Sb w k ds g l0 l1 w0 w1 A bg (spoilAll R.data.toList (sp.take m)) wr)
      case atStart => exact ⟨0, by omega, rfl, SB1.out⟩
      case round =>
      obtain ⟨m, hm, rfl, hSB⟩ := hrel
      have SB := Lib.hid hSB
      clear hSB SB1
      by_cases hlt : m < sp.length
      · obtain ⟨pb, po, hpa, hpb, hc0, hc1⟩ := (HC.out.below SB.out.sent.len.2.1).at hlt
        obtain ⟨p, hp⟩ : ∃ p, p = sp.getD m spo0 := ⟨_, rfl⟩
        rw [← hp] at hc0 hc1
        obtain ⟨at_, by_⟩ := p
        simp only at hc0 hc1
        subst hpa
        have i0 : (m : Int) < sp.length := by omega
        have i0' : (0 : Int) ≤ m := by omega
        have ei : IntKind.i64.wrap ((m : Int) + 1) = (m : Int) + 1 := IntWalk.i64_in _ (by omega)
        obtain ⟨L, hL⟩ : ∃ L, L = spoilAll R.data.toList (sp.take m) := ⟨_, rfl⟩
        rw [← hL] at SB
        have hLs : L.length = nb := by rw [hL, spoilAll_len, bytes_len, HNB.out]
        have HNX := Lib.hid (show spoilAll R.data.toList (sp.take (m + 1)) = spoilL L at_ by_ by rw [spoilAll_snoc _ _ _ hlt, ← hp, ← hL])
        have hbgw := SB.out.byt.1
        clear hp hL
        by_cases hin : 0 ≤ at_ ∧ at_ < nb
        · obtain ⟨i, rfl⟩ : ∃ i : Nat, at_ = i := ⟨at_.toNat, by omega⟩
          have hi : i < L.length := by omega
          have ci := SB.out.byt.cell hi
          have fi := SB.out.byt.frozen hi
          have HX := Lib.hid (xor_byte (L.getD i 0) by_)
          have HSP := Lib.hid (show spoilL L (i : Int) by_ = L.set i (L.getD i 0 ^^^ by_) by
            unfold spoilL
            rw [if_pos ⟨hin.1, by omega⟩]; rfl)
          generalize L.getD i 0 = b0 at *
          have j0 : (0 : Int) ≤ i := hin.1
          have j1 : (i : Int) < nb := hin.2
          have HLS := Lib.hid hLs
          clear hin hi hLs
          go_wp2_with fail
          go_region
          all_goals
            go_wp2_with fail
            go_roundg (gk - 1)
            case measure => omega
            case rel =>
              refine ⟨m + 1, by omega, by go_num, ?_⟩
              rw [HNX.out, HSP.out, HX.out]
              exact ((SB.out.set_ (by rw [HLS.out]; omega) _).below ((Below.refl _ _).alloc (Nat.le_refl _) _)).drew
        · have HSP := Lib.hid (show spoilL L at_ by_ = L by
            unfold spoilL
            rw [if_neg (by rw [hLs]; exact hin)])
          by_cases h0 : 0 ≤ at_
          · have h1 : decide (at_ < (nb : Int)) = false := decide_eq_false (fun h => hin ⟨h0, h⟩)
            clear hin
            go_wp2_with fail
            go_roundg (gk - 1)
            case measure => omega
            case rel =>
              refine ⟨m + 1, by omega, by go_num, ?_⟩
              rw [HNX.out, HSP.out]
              exact SB.out.below ((Below.refl _ _).alloc (Nat.le_refl _) _)
          · have h0' : decide (0 ≤ at_) = false := decide_eq_false h0
            clear hin h0
            go_wp2_with fail
            go_roundg (gk - 1)
            case measure => omega
            case rel =>
              refine ⟨m + 1, by omega, by go_num, ?_⟩
              rw [HNX.out, HSP.out]
              exact SB.out.below ((Below.refl _ _).alloc (Nat.le_refl _) _)
      · obtain rfl : m = sp.length := by omega
        rw [List.take_length] at SB
        obtain ⟨L, hL⟩ : ∃ L, L = spoilAll R.data.toList sp := ⟨_, rfl⟩
        rw [← hL] at SB
        have hLs : L.length = nb := by rw [hL, spoilAll_len, bytes_len, HNB.out]
        have HLS := Lib.hid hLs
        obtain ⟨wq, rfl⟩ : ∃ wq : World, wq = wr := ⟨_, rfl⟩
        clear hlt hL hLs hm HC
        go_upto_region 25 with fail
        go_cut [108] (fun c wx => c = .bool (decide (0 ≤ fr ∧ fr ≤ to_ ∧ to_ ≤ nb)) ∧ wx = wq)
        case first =>
          by_cases h0 : 0 ≤ fr
          · by_cases h1 : fr ≤ to_
            · by_cases h2 : to_ ≤ nb
              · have hc : Hid (decide (0 ≤ fr ∧ fr ≤ to_ ∧ to_ ≤ (nb : Int)) = true) := Lib.hid (decide_eq_true ⟨h0, h1, h2⟩)
                go_wp2_with fail
                go_meet
                exact ⟨by rw [hc.out], rfl⟩
              · have hc : Hid (decide (0 ≤ fr ∧ fr ≤ to_ ∧ to_ ≤ (nb : Int)) = false) := Lib.hid (decide_eq_false (fun h => h2 h.2.2))
                have h2' : decide (to_ ≤ (nb : Int)) = false := decide_eq_false h2
                clear h2
                go_wp2_with fail
                go_meet
                exact ⟨by rw [hc.out], rfl⟩
            · have hc : Hid (decide (0 ≤ fr ∧ fr ≤ to_ ∧ to_ ≤ (nb : Int)) = false) := Lib.hid (decide_eq_false (fun h => h1 h.2.1))
              have h1' : decide (fr ≤ to_) = false := decide_eq_false h1
              clear h1
              go_wp2_with fail
              go_meet
              exact ⟨by rw [hc.out], rfl⟩
          · have hc : Hid (decide (0 ≤ fr ∧ fr ≤ to_ ∧ to_ ≤ (nb : Int)) = false) := Lib.hid (decide_eq_false (fun h => h0 h.1))
            have h0' : decide (0 ≤ fr) = false := decide_eq_false h0
            clear h0
            go_wp2_with fail
            go_meet
            exact ⟨by rw [hc.out], rfl⟩
        case rest =>
        obtain ⟨rfl, hwe⟩ := hcut
        rw [hwe]
        clear hwe
        go_upto_if 108 with fail
        go_cut [17] (fun c wx => ∃ (bg2 cap2 : Nat) (L2 : List UInt8), c = .slice (some ⟨bg2, 0, none⟩) L2.length cap2 ∧ L2.length ≤ 60000 ∧ Sb w k ds g l0 l1 w0 w1 A bg2 L2 wx)
        case first =>
          by_cases hin : 0 ≤ fr ∧ fr ≤ to_ ∧ to_ ≤ nb
          · rw [decide_eq_true hin]
            obtain ⟨f, rfl⟩ : ∃ f : Nat, fr = f := ⟨fr.toNat, by omega⟩
            obtain ⟨t, rfl⟩ : ∃ t : Nat, to_ = t := ⟨to_.toNat, by omega⟩
            have f1 : f ≤ t := by omega
            have f2 : t ≤ nb := by omega
            have f3 : (f : Int) ≤ t := by omega
            have f4 : (t : Int) ≤ cap := by omega
            have f5 : (0 : Int) ≤ f := by omega
            have f6 : (f : Int) ≤ cap := by omega
            have f7 : (t : Int) ≤ nb := by omega
            clear hin
            have LL := HLS.out
            go_upto_region 26 with fail
            go_cut [20] (fun c wx => ∃ PP : ByteArray, c = .string PP ∧ PP.size ≤ 25000 ∧ wx = wq)
            case first =>
              by_cases hfc : f = cap
              · obtain rfl : t = f := by omega
                have cvP : (convert 29 9 (.slice (some ⟨bg, 0, none⟩) 0 0)).run Tryd.prog wq = .ok (.string ⟨#[]⟩) wq := by
                  have := SB.out.byt.part 0 0 0 (by omega)
                  rw [List.take_zero] at this
                  exact this
                have hfc' : cap = t := hfc.symm
                subst hfc'
                clear hfc
                go_wp2_with fail
                go_meet
                exact ⟨⟨#[]⟩, rfl, by decide, rfl⟩
              · have nfc : ¬ cap = f := fun h => hfc h.symm
                have cvP := SB.out.byt.part f (t - f) (cap - f) (by omega)
                obtain ⟨PP, hPP⟩ : ∃ P : ByteArray, P = ⟨((L.drop f).take (t - f)).toArray⟩ := ⟨_, rfl⟩
                rw [← hPP] at cvP
                have hPs : PP.size ≤ 25000 := by rw [hPP, str_size, List.length_take]; omega
                clear hPP hfc LL
                go_wp2_with fail
                go_meet
                exact ⟨PP, rfl, hPs, rfl⟩
            case rest =>
            obtain ⟨PP, rfl, hP3, hwe⟩ := hcut
            rw [hwe]
            clear hwe
            go_upto_region 27 with fail
            go_cut [21] (fun c wx => ∃ Y : ByteArray, c = .string Y ∧ Y.size ≤ 25000 ∧ Sb w k ds g l0 l1 w0 w1 A bg L wx)
            case first =>
              obtain ⟨X1, hX1⟩ : ∃ P : ByteArray, P = ⟨(L.take f).toArray⟩ := ⟨_, rfl⟩
              obtain ⟨X2, hX2⟩ : ∃ P : ByteArray, P = ⟨(L.drop t).toArray⟩ := ⟨_, rfl⟩
              have hs1 : X1.size ≤ f := by rw [hX1, str_size, List.length_take]; omega
              have hs2 : X2.size ≤ nb - t := by rw [hX2, str_size, List.length_drop]; omega
              have hrun1 : ∀ q, (Go.Op.stringOp .add X1 X2).run Tryd.prog (wq.drewN q) = .ok (.string (X1 ++ X2)) (wq.drewN q) := fun q => run_string_add_sum _ _ _ (by omega)
              have c12 : ¬ 9223372036854775807 < X1.size + X2.size := by omega
              have hX3 : (X1 ++ X2).size ≤ 25000 := by rw [ByteArray.size_append]; omega
              have cv1 : ∀ q, (convert 29 9 (.slice (some ⟨bg, 0, none⟩) f cap)).run Tryd.prog (wq.drewN q) = .ok (.string X1) (wq.drewN q) := by
                intro q
                have := (show Byt (wq.drewN q) bg L from SB.out.byt).part 0 f cap (by omega)
                rw [List.drop_zero, ← hX1] at this
                exact this
              by_cases htc : t = cap
              · have cv2 : ∀ q, (convert 29 9 (.slice (some ⟨bg, 0, none⟩) 0 0)).run Tryd.prog (wq.drewN q) = .ok (.string X2) (wq.drewN q) := by
                  intro q
                  have := (show Byt (wq.drewN q) bg L from SB.out.byt).part 0 0 0 (by omega)
                  rw [List.take_zero] at this
                  rw [hX2, List.drop_of_length_le (by omega)]
                  exact this
                obtain rfl : nb = t := by omega
                have htc' : cap = nb := htc.symm
                subst htc'
                clear hX1 hX2 LL htc hs1 hs2
                go_quiet (fail)
                go_wp2_with fail
                go_meet
                exact ⟨_, rfl, hX3, SB.out.below (belowN (Below.refl _ _) _)⟩
              · have ntc : ¬ cap = t := fun h => htc h.symm
                have cv2 : ∀ q, (convert 29 9 (.slice (some ⟨bg, t, none⟩) (nb - t) (cap - t))).run Tryd.prog (wq.drewN q) = .ok (.string X2) (wq.drewN q) := by
                  intro q
                  have := (show Byt (wq.drewN q) bg L from SB.out.byt).part t (nb - t) (cap - t) (by omega)
                  rw [List.take_of_length_le (by rw [List.length_drop]; omega), ← hX2] at this
                  exact this
                clear hX1 hX2 LL htc hs1 hs2
                go_quiet (fail)
                go_wp2_with fail
                go_meet
                exact ⟨_, rfl, hX3, SB.out.below (belowN (Below.refl _ _) _)⟩
            case rest =>
            obtain ⟨Y, rfl, hYs, hSZ⟩ := hcut
            have SZ := Lib.hid hSZ
            obtain ⟨wz, rfl⟩ : ∃ wz : World, wz = wc := ⟨_, rfl⟩
            clear hSZ f1 f2 f3 f4 f5 f6 f7 LL
            go_upto_region 28 with fail
            go_cut [130] (fun c wx => c = .bool (decide (0 ≤ put ∧ put ≤ Y.size)) ∧ wx = wz)
            case first =>
              by_cases h0 : 0 ≤ put
              · by_cases h1 : put ≤ Y.size
                · have hc : Hid (decide (0 ≤ put ∧ put ≤ (Y.size : Int)) = true) := Lib.hid (decide_eq_true ⟨h0, h1⟩)
                  go_wp2_with fail
                  go_meet
                  exact ⟨by rw [hc.out], rfl⟩
                · have hc : Hid (decide (0 ≤ put ∧ put ≤ (Y.size : Int)) = false) := Lib.hid (decide_eq_false (fun h => h1 h.2))
                  have h1' : decide (put ≤ (Y.size : Int)) = false := decide_eq_false h1
                  clear h1
                  go_wp2_with fail
                  go_meet
                  exact ⟨by rw [hc.out], rfl⟩
              · have hc : Hid (decide (0 ≤ put ∧ put ≤ (Y.size : Int)) = false) := Lib.hid (decide_eq_false (fun h => h0 h.1))
                have h0' : decide (0 ≤ put) = false := decide_eq_false h0
                clear h0
                go_wp2_with fail
                go_meet
                exact ⟨by rw [hc.out], rfl⟩
            case rest =>
              obtain ⟨rfl, hwe⟩ := hcut
              rw [hwe]
              clear hwe
              go_upto_if 130 with fail
              go_cut [21] (fun c wx => ∃ Q : ByteArray, c = .string Q ∧ Q.size ≤ 60000 ∧ Sb w k ds g l0 l1 w0 w1 A bg L wx)
              case first =>
                by_cases hin : 0 ≤ put ∧ put ≤ Y.size
                · rw [decide_eq_true hin]
                  obtain ⟨u, rfl⟩ : ∃ u : Nat, put = u := ⟨put.toNat, by omega⟩
                  have u1 : (u : Int) ≤ Y.size := hin.2
                  have u2 : u ≤ Y.size := by omega
                  have u3 : (0 : Int) ≤ u := hin.1
                  have z1 : (Y.extract 0 u).size = u := by rw [ByteArray.size_extract]; omega
                  have z2 : (Y.extract u Y.size).size = Y.size - u := by rw [ByteArray.size_extract]; omega
                  have hr1 : ∀ q, (Go.Op.stringOp .add (Y.extract 0 u) PP).run Tryd.prog (wz.drewN q) = .ok (.string (Y.extract 0 u ++ PP)) (wz.drewN q) := fun q => run_string_add_sum _ _ _ (by omega)
                  have hr2 : ∀ q, (Go.Op.stringOp .add (Y.extract 0 u ++ PP) (Y.extract u Y.size)).run Tryd.prog (wz.drewN q) = .ok (.string (Y.extract 0 u ++ PP ++ Y.extract u Y.size)) (wz.drewN q) := fun q => run_string_add_sum _ _ _ (by rw [ByteArray.size_append]; omega)
                  clear hin
                  go_wp2_with fail
                  go_quiet (fail)
                  go_wp2_with fail
                  go_meet
                  exact ⟨_, rfl, by rw [ByteArray.size_append, ByteArray.size_append]; omega, SZ.out.below (belowN (Below.refl _ _) _)⟩
                · rw [decide_eq_false hin]
                  clear hin
                  go_wp2_with fail
                  go_meet
                  exact ⟨Y, rfl, by omega, SZ.out⟩
              case rest =>
                obtain ⟨Q, rfl, hQ, hSQ⟩ := hcut
                have SQ := Lib.hid hSQ
                clear hSQ SZ
                have hcv := fun W : World => run_bytes_of_string W 9 29 5 Q Tryd.underlying9 Tryd.underlying29 Tryd.underlying5
                go_wp2_with fail
                go_meet
                have hb5 : Below wc.heap.size wc ((wc.alloc (.cells (bytesRow Q (grownCap wc Q.size 0 5)) 5 ((bytesRow Q (grownCap wc Q.size 0 5)).size, (bytesRow Q (grownCap wc Q.size 0 5)).size + 1))).drew) := ((Below.refl _ _).alloc (Nat.le_refl _) _).drew
                have hql : Q.data.toList.length = Q.size := bytes_len Q
                exact ⟨wc.heap.size, grownCap wc Q.size 0 5, Q.data.toList, by rw [hql], by rw [hql]; exact hQ, ⟨SQ.out.sent.below hb5, Byt.make Q _ wc, SQ.out.sent.l1lt⟩⟩
          · rw [decide_eq_false hin]
            clear hin
            go_wp2_with fail
            go_meet
            exact ⟨bg, cap, L, by rw [HLS.out], by rw [HLS.out]; omega, SB.out⟩
        case rest =>
        obtain ⟨bg2, cap2, L2, rfl, hL2, hSB2⟩ := hcut
        have SB2 := Lib.hid hSB2
        obtain ⟨Bb, hBb⟩ : ∃ B : ByteArray, B = ⟨L2.toArray⟩ := ⟨_, rfl⟩
        have hBs : Bb.size = L2.length := by rw [hBb, str_size]
        clear hSB2 SB
        go_upto_region 31 with fail
        have p17 : wc.cell? ⟨g, 17, none⟩ = some (.string ⟨#[]⟩) := by obtain ⟨_, _, _, _, _, hE, _⟩ := SB2.out.sent; exact hE.blk.cell 17
        have f17 : wc.frozen? ⟨g, 17, none⟩ = false := by obtain ⟨_, _, _, _, _, hE, _⟩ := SB2.out.sent; exact hE.blk.frozen 17
        have y0 := SB2.out.byt.back L2.length cap2 rfl
        rw [← hBb] at y0
        have y1 := SB2.out.byt.drew.back L2.length cap2 rfl
        rw [← hBb] at y1
        have HBb := Lib.hid hBb
        have HBs := Lib.hid hBs
        clear hBb hBs
        go_cut [] (fun wx => Fin w k ds g l0 l1 w0 w1 A R Bb bg2 L2 wx)
        case first =>
          go_region
          all_goals
            go_wp2_with fail
            go_meet
            exact SB2.out.put HRR.out Bb
        case rest =>
        have FI := Lib.hid hcut
        clear hcut p17 f17 y0 y1 SB2
        go_upto_region 35 with (go_at_call 17; refine (fin_receive FI.out (by have := HBs.out; omega) hB2 HT.out L2.length HBs.out.symm).mono ?_; rintro e v9 ⟨s, er, rfl, hs, hc2, hc3, hb9, hY9⟩; have BS := Lib.hid hs; have B9 := Lib.hid hb9; have Y9 := Lib.hid hY9; clear hs hb9 hY9)
        have CH := Lib.hid (fun W => Tryd.strings_HasPrefix A s W)
        by_cases hp : Lib.hasPrefix A.data.toList s.data.toList = true
        · rw [hp] at CH
          clear hp
          go_quiet ((go_at_call 18; exact Calls.quiet_of_same (CH.out _)))
          go_wp2_with fail
          go_ret
          exact ⟨rfl, belowN B9.out _⟩
        · have hp' : Lib.hasPrefix A.data.toList s.data.toList = false := by simpa using hp
          have hCT : Hid (chanceB (keyL k) 1 Bb.size 0 R.data.toList Bb.data.toList = true) := Lib.hid (by rw [HRR.out]; exact changes_true HAL.out BS.out hp')
          rw [hp'] at CH
          have CK := Lib.hid (fun W => key_big k HKK.out W)
          obtain ⟨K, hK⟩ : ∃ K : ByteArray, K = keyB k := ⟨_, rfl⟩
          rw [show (⟨(keyL k).toArray⟩ : ByteArray) = K from hK.symm] at CK
          have CC := Lib.hid (fun W => chance_any K R Bb (by rw [hK]; exact keyB_ok k 1 (.inl rfl)) (by have := HBs.out; omega) W)
          rw [hK, keyB_list, hCT.out, ← hK] at CC
          clear hK hp hp'
          have HCV : Hid (∀ W, Byt W bg2 L2 → (convert 29 9 (.slice (some ⟨bg2, 0, none⟩) L2.length cap2)).run Tryd.prog W = .ok (.string Bb) W) := Lib.hid (fun W hY => by
            have := hY.back L2.length cap2 rfl
            rw [← HBb.out] at this
            exact this)
          have y9 := HCV.out _ Y9.out
          have hg9 : g < v9.heap.size := World.block_lt_of_cell? _ _ hc2
          have hw9 : w0 < v9.heap.size := World.block_lt_of_cell? _ _ hc3
          have b9 : BytS v9 bg2 L2 := ⟨Y9.out⟩
          go_region_held3 (fun W => W.cell? ⟨g, 2, none⟩ = some (.pointer (some ⟨w0, 0, none⟩)) ∧ W.cell? ⟨w0, 0, none⟩ = some (.string R) ∧ (convert 29 9 (.slice (some ⟨bg2, 0, none⟩) L2.length cap2)).run Tryd.prog W = .ok (.string Bb) W ∧ BytS W bg2 L2) (first | exact ⟨s1, s2, s3, s4⟩ | exact ⟨r1, r2, r3, r4⟩ | exact ⟨hc2, hc3, HCV.out _ (BytS.out (BytS.drew b9)), BytS.drew b9⟩ | (refine ⟨?_, ?_, HCV.out _ (BytS.out (BytS.drew b9)), BytS.drew b9⟩ <;> go_keep)) (first
            | (go_at_call 18; refine (CH.out _).mono ?_; rintro e u1 ⟨rfl, rfl⟩)
            | (go_at_call 20; refine (CK.out _).mono ?_; rintro e u2 ⟨rfl, hb10⟩; have r1 : u2.cell? ⟨g, 2, none⟩ = some (.pointer (some ⟨w0, 0, none⟩)) := (hb10.cell (p := ⟨g, 2, none⟩) hg9).trans hc2; have r2 : u2.cell? ⟨w0, 0, none⟩ = some (.string R) := (hb10.cell (p := ⟨w0, 0, none⟩) hw9).trans hc3; have r4 : BytS u2 bg2 L2 := ⟨Y9.out.drew.below hb10⟩; have r3 := HCV.out u2 r4.out; have B10 := Lib.hid (keepBelow B9.out.drew hb10); clear hb10)
            | (go_at_call 19; refine (CC.out _).mono ?_; rintro e u3 ⟨rfl, hb11⟩; have B11 := Lib.hid (keepBelow B10.out hb11); have s1 : u3.cell? ⟨g, 2, none⟩ = some (.pointer (some ⟨w0, 0, none⟩)) := (hb11.cell (p := ⟨g, 2, none⟩) (World.block_lt_of_cell? _ _ r1)).trans r1; have s2 : u3.cell? ⟨w0, 0, none⟩ = some (.string R) := (hb11.cell (p := ⟨w0, 0, none⟩) (World.block_lt_of_cell? _ _ r2)).trans r2; have s4 : BytS u3 bg2 L2 := ⟨r4.out.below hb11⟩; have s3 := HCV.out u3 s4.out; clear hb11))
          all_goals
            go_wp2_with fail
            go_ret
            exact ⟨rfl, B11.out⟩
end Go.Proofs.YtmblnacckboggaaDoor
