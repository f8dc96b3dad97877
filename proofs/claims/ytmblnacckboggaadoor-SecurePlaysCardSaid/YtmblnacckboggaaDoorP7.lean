/- Link.Receive (15) and the reference's Receive (39), whatever has come; Link.Send (14), whatever. -/
import Derived.Test.YtmblnacckboggaaDoorP3
import Derived.Test.YtmblnacckboggaaDoorP5
namespace Go.Proofs.YtmblnacckboggaaDoor
open Go.RowKit
/-- a link in order: a key of 32 bytes, a side, numbers that are not great -/
structure LkOk (l : Lk) (n0 s0 : Nat) : Prop where
  key : badE l.key.data.toList l.side 0 = 0
  taken : l.taken = n0
  sent : l.sent = s0
def wiAft (l : Lk) (x : Wi) : Wi := if l.fin then x else comeX x
theorem recvR_fin {l : Lk} (h : l.fin = true) (s : ByteArray) (e : Int) : recvR l s e = ((⟨#[]⟩, 28), l) := by
  unfold recvR
  rw [if_pos h]
theorem recvR_other {l : Lk} (h : l.fin = false) (s : ByteArray) {e : Int} (he : e ≠ 0 ∧ e ≠ 36 ∧ e ≠ 28) : recvR l s e = ((⟨#[]⟩, e), l) := by
  unfold recvR
  rw [if_neg (by simp [h]), if_pos he]
theorem receive_fin (lb wb : Nat) (key : ByteArray) (side sent taken : Int) (left : ByteArray) (w : World) (hL : Blk w lb 89 (linkC wb ⟨key, side, sent, taken, left, true⟩)) :
    Calls Tryd.prog 15 #[.pointer (some ⟨lb, 0, none⟩)] w fun e w' => e = .returned (.tuple #[.string ⟨#[]⟩, .int .i64 28]) ∧ w = w' := by
  have CE := Lib.hid (fun W (h : Blk W lb 89 (linkC wb ⟨key, side, sent, taken, left, true⟩)) => ended_any lb wb ⟨key, side, sent, taken, left, true⟩ W h)
  have HL := Lib.hid hL
  clear hL
  go_enter Tryd.func15, Tryd.ntmps15
  go_wp2_with (go_at_call 16; refine (CE.out _ HL.out).mono ?_; rintro e v1 ⟨rfl, rfl⟩)
  go_ret2
  exact ⟨rfl, rfl⟩
theorem receive_other (lb wb : Nat) (key : ByteArray) (side sent taken : Int) (left : ByteArray) (x : Wi) (s0 : ByteArray) (e0 : Int) (he : e0 ≠ 0 ∧ e0 ≠ 36 ∧ e0 ≠ 28) (hx : comeR x = (s0, e0)) (hne : lb ≠ wb) (w : World) (hL : Blk w lb 89 (linkC wb ⟨key, side, sent, taken, left, false⟩)) (hW : Blk w wb 48 (wireC x)) :
    Calls Tryd.prog 15 #[.pointer (some ⟨lb, 0, none⟩)] w fun e w' => e = .returned (.tuple #[.string ⟨#[]⟩, .int .i64 e0]) ∧ Blk w' lb 89 (linkC wb ⟨key, side, sent, taken, left, false⟩) ∧ Blk w' wb 48 (wireC (comeX x)) ∧ Two lb wb w w' := by
  have CE := Lib.hid (fun W (h : Blk W lb 89 (linkC wb ⟨key, side, sent, taken, left, false⟩)) => ended_any lb wb ⟨key, side, sent, taken, left, false⟩ W h)
  have CX := Lib.hid (wrecv_any wb wb x w hW)
  rw [hx] at CX
  have HL := Lib.hid hL
  have q0 : w.cell? ⟨lb, 0, none⟩ = some (.iface 38 (.pointer (some ⟨wb, 0, none⟩))) := hL.cell 0
  have b0 : (e0 == 0) = false := by rw [beq_eq_false_iff_ne]; exact he.1
  have b1 : (e0 == 36) = false := by rw [beq_eq_false_iff_ne]; exact he.2.1
  have b2 : (e0 == 28) = false := by rw [beq_eq_false_iff_ne]; exact he.2.2
  clear hL hW hx he
  go_enter Tryd.func15, Tryd.ntmps15
  go_wp2_with (first
    | (go_at_call 16; refine (CE.out _ HL.out).mono ?_; rintro e v1 ⟨rfl, rfl⟩)
    | (go_at_call 95; refine (CX.out).mono ?_; rintro e v2 ⟨rfl, hW2, hT2⟩; have L2 := Lib.hid (hT2.blk HL.out hne hne); have W2 := Lib.hid hW2; have T2 := Lib.hid (hT2.widen' lb); clear hW2 hT2))
  go_ret2
  exact ⟨rfl, L2.out, W2.out, T2.out⟩
/-- Link.Receive, whatever has come -/
theorem receive_any (lb wb : Nat) (l : Lk) (n0 s0 : Nat) (hl : LkOk l n0 s0) (hn0 : n0 ≤ 1000000000) (x : Wi) (hsz : l.left.size + (comeR x).1.size ≤ 1000000000)
    (hne : lb ≠ wb) (w : World) (hL : Blk w lb 89 (linkC wb l)) (hW : Blk w wb 48 (wireC x)) (hT : Tabs w) (hl2 : 2 < lb) (hw2 : 2 < wb) :
    Calls Tryd.prog 15 #[.pointer (some ⟨lb, 0, none⟩)] w fun e w' => e = .returned (.tuple #[.string (recvR l (comeR x).1 (comeR x).2).1.1, .int .i64 (recvR l (comeR x).1 (comeR x).2).1.2]) ∧ Blk w' lb 89 (linkC wb (recvR l (comeR x).1 (comeR x).2).2) ∧ Blk w' wb 48 (wireC (wiAft l x)) ∧ Two lb wb w w' := by
  obtain ⟨hk, ht, _⟩ := hl
  obtain ⟨key, side, sent, taken, left, fin⟩ := l
  simp only at hk ht hsz
  subst ht
  cases fin with
  | true =>
    rw [recvR_fin rfl]
    exact (receive_fin lb wb key side sent n0 left w hL).mono fun e w' ⟨a, b⟩ => ⟨a, b ▸ hL, b ▸ hW, b ▸ Two.of (Below.refl _ _)⟩
  | false =>
    rw [show wiAft ⟨key, side, sent, n0, left, false⟩ x = comeX x from rfl]
    obtain ⟨c, hc⟩ : ∃ c, c = comeR x := ⟨_, rfl⟩
    obtain ⟨s1, e1⟩ := c
    rw [← hc] at hsz ⊢
    simp only at hsz ⊢
    by_cases h0 : e1 = 0
    · subst h0; exact receive_ok lb wb key side sent n0 left x s1 hk hn0 hc.symm hsz hne w hL hW hT hl2 hw2
    by_cases h36 : e1 = 36
    · subst h36; exact receive_busy lb wb key side sent n0 left x s1 hk hn0 hc.symm hsz hne w hL hW hT hl2 hw2
    by_cases h28 : e1 = 28
    · subst h28; exact receive_cut lb wb key side sent n0 left x s1 hk hn0 hc.symm hsz hne w hL hW hT hl2 hw2
    rw [recvR_other rfl s1 ⟨h0, h36, h28⟩]
    exact receive_other lb wb key side sent n0 left x s1 e1 ⟨h0, h36, h28⟩ hc.symm hne w hL hW
theorem rreceive_fin (g o : Nat) (t : TypeId) (A C : List Value) (key : ByteArray) (side sent taken : Int) (left s0 : ByteArray) (e0 : Int) (w : World) (hR0 : RefAt w g o t A C ⟨key, side, sent, taken, left, true⟩) :
    Calls Tryd.prog 39 #[.pointer (some ⟨g, o, none⟩), .string s0, .int .i64 e0] w fun e w' => e = .returned (.tuple #[.string ⟨#[]⟩, .int .i64 28]) ∧ w = w' := by
  have y5 : w.cell? ⟨g, o + 5, none⟩ = some (.bool true) := hR0.cell 5 (by decide)
  clear hR0
  go_enter Tryd.func39, Tryd.ntmps39
  go_wp2_with fail
  go_ret2
  exact ⟨rfl, rfl⟩
theorem rreceive_other (g o : Nat) (t : TypeId) (A C : List Value) (key : ByteArray) (side sent taken : Int) (left s0 : ByteArray) (e0 : Int) (he : e0 ≠ 0 ∧ e0 ≠ 36 ∧ e0 ≠ 28) (w : World) (hR0 : RefAt w g o t A C ⟨key, side, sent, taken, left, false⟩) :
    Calls Tryd.prog 39 #[.pointer (some ⟨g, o, none⟩), .string s0, .int .i64 e0] w fun e w' => e = .returned (.tuple #[.string ⟨#[]⟩, .int .i64 e0]) ∧ w = w' := by
  have y5 : w.cell? ⟨g, o + 5, none⟩ = some (.bool false) := hR0.cell 5 (by decide)
  have b0 : (e0 != 0) = true := by rw [bne_iff_ne]; exact he.1
  have b1 : (e0 != 36) = true := by rw [bne_iff_ne]; exact he.2.1
  have b2 : (e0 != 28) = true := by rw [bne_iff_ne]; exact he.2.2
  clear hR0 he
  go_enter Tryd.func39, Tryd.ntmps39
  go_wp2_with fail
  go_ret2
  exact ⟨rfl, rfl⟩
/-- the reference's Receive, whatever has come -/
theorem rreceive_any (g o : Nat) (t : TypeId) (A C : List Value) (l : Lk) (n0 s0 : Nat) (hl : LkOk l n0 s0) (hn0 : n0 ≤ 1000000000) (s : ByteArray) (e0 : Int) (hsz : l.left.size + s.size ≤ 1000000000) (w : World) (hR : RefAt w g o t A C l) :
    Calls Tryd.prog 39 #[.pointer (some ⟨g, o, none⟩), .string s, .int .i64 e0] w fun e w' => e = .returned (.tuple #[.string (recvR l s e0).1.1, .int .i64 (recvR l s e0).1.2]) ∧ RefAt w' g o t A C (recvR l s e0).2 ∧ Two g g w w' := by
  obtain ⟨hk, ht, _⟩ := hl
  obtain ⟨key, side, sent, taken, left, fin⟩ := l
  simp only at hk ht hsz
  subst ht
  cases fin with
  | true =>
    rw [recvR_fin rfl]
    exact (rreceive_fin g o t A C key side sent n0 left s e0 w hR).mono fun e w' ⟨a, b⟩ => ⟨a, b ▸ hR, b ▸ Two.of (Below.refl _ _)⟩
  | false =>
    by_cases h0 : e0 = 0
    · subst h0; exact rreceive_ok g o t A C key side sent n0 left s hk hn0 hsz w hR
    by_cases h36 : e0 = 36
    · subst h36; exact rreceive_busy g o t A C key side sent n0 left s hk hn0 hsz w hR
    by_cases h28 : e0 = 28
    · subst h28; exact rreceive_cut g o t A C key side sent n0 left s hk hn0 hsz w hR
    rw [recvR_other rfl s ⟨h0, h36, h28⟩]
    exact (rreceive_other g o t A C key side sent n0 left s e0 ⟨h0, h36, h28⟩ w hR).mono fun e w' ⟨a, b⟩ => ⟨a, b ▸ hR, b ▸ Two.of (Below.refl _ _)⟩
end Go.Proofs.YtmblnacckboggaaDoor
