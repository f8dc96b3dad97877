/- The records, plainly: keys, bytes, seals, errors; what is opened of a record. -/
import Derived.Test.YtmblnacckboggaaDoorT2
namespace Go.Proofs.YtmblnacckboggaaDoor
/-- the key of a side for masks; for seals -/
def maskK (key : List UInt8) (side : Int) : List UInt8 := SH.mac key ([109, 97, 115, 107] ++ [if side = 2 then 50 else 49])
def sealK (key : List UInt8) (side : Int) : List UInt8 := SH.mac key ([115, 101, 97, 108] ++ [if side = 2 then 50 else 49])
def headL (n : Nat) : List UInt8 := [UInt8.ofNat (n / 256), UInt8.ofNat n]
def maskL (key d : List UInt8) (number : Nat) : List UInt8 := mk d (kst key number 0 d.length) d.length
theorem maskL_len (key d : List UInt8) (number : Nat) : (maskL key d number).length = d.length := mk_len _ _ _
theorem maskL_twice (key d : List UInt8) (number : Nat) : maskL key (maskL key d number) number = d := by
  unfold maskL
  rw [mk_len, mk_twice]
/-- the bytes of a record that its seal is of -/
def bodyL (key : List UInt8) (side : Int) (number : Nat) (d : List UInt8) : List UInt8 := headL d.length ++ maskL (maskK key side) d number
def sealL (key : List UInt8) (side : Int) (number : Nat) (s : List UInt8) : List UInt8 := SH.mac (sealK key side) (SH.bytes8 number ++ s)
def recL (key : List UInt8) (side : Int) (number : Nat) (d : List UInt8) : List UInt8 := bodyL key side number d ++ sealL key side number (bodyL key side number d)
theorem seal_len (key : List UInt8) (side : Int) (number : Nat) (s : List UInt8) : (sealL key side number s).length = 32 := sum_len _
theorem body_len (key : List UInt8) (side : Int) (number : Nat) (d : List UInt8) : (bodyL key side number d).length = 2 + d.length := by
  unfold bodyL
  rw [List.length_append, maskL_len]; rfl
theorem rec_len (key : List UInt8) (side : Int) (number : Nat) (d : List UInt8) : (recL key side number d).length = d.length + 34 := by
  unfold recL
  rw [List.length_append, body_len, seal_len]; omega
/-- what is wrong with a key, a side and a number -/
def badE (key : List UInt8) (side number : Int) : Int := if key.length ≠ 32 then 26 else if side ≠ 1 ∧ side ≠ 2 then 1 else if number < 0 then 11 else 0
def recR (key : List UInt8) (side number : Int) (d : List UInt8) : List UInt8 × Int :=
  if badE key side number ≠ 0 then ([], badE key side number) else if d.length = 0 then ([], 12) else if 1024 < d.length then ([], 3) else (recL key side number.toNat d, 0)
/-- the length that a record's head tells -/
def lenL (s : List UInt8) : Nat := (s.getD 0 0).toNat * 256 + (s.getD 1 0).toNat
def openR (key : List UInt8) (side number : Int) (s : List UInt8) : List UInt8 × Nat × Int :=
  if badE key side number ≠ 0 then ([], 0, badE key side number)
  else if s.length < 2 then ([], 0, 16)
  else if lenL s = 0 ∨ 1024 < lenL s then ([], 0, 2)
  else if s.length < 34 + lenL s then ([], 0, 16)
  else if sealL key side number.toNat (s.take (2 + lenL s)) ≠ (s.take (34 + lenL s)).drop (2 + lenL s) then ([], 0, 15)
  else (maskL (maskK key side) ((s.take (2 + lenL s)).drop 2) number.toNat, 34 + lenL s, 0)
theorem head_len (n : Nat) : (headL n).length = 2 := rfl
theorem lenL_head (n : Nat) (hn : n ≤ 1024) (r : List UInt8) : lenL (headL n ++ r) = n := by
  show (UInt8.ofNat (n / 256)).toNat * 256 + (UInt8.ofNat n).toNat = n
  rw [UInt8.toNat_ofNat', UInt8.toNat_ofNat']
  omega
theorem take_body (key : List UInt8) (side : Int) (number : Nat) (d t : List UInt8) : (recL key side number d ++ t).take (2 + d.length) = bodyL key side number d := by
  unfold recL
  rw [List.append_assoc, List.take_append_of_le_length (by rw [body_len]; exact Nat.le_refl _), List.take_of_length_le (by rw [body_len]; exact Nat.le_refl _)]
theorem take_rec (key : List UInt8) (side : Int) (number : Nat) (d t : List UInt8) : (recL key side number d ++ t).take (34 + d.length) = recL key side number d := by
  rw [List.take_append_of_le_length (by rw [rec_len]; omega), List.take_of_length_le (by rw [rec_len]; omega)]
/-- what is opened of a record, whatever follows -/
theorem open_rec {key : List UInt8} {side number : Int} (hb : badE key side number = 0) {d : List UInt8} (h0 : d.length ≠ 0) (h1 : d.length ≤ 1024) (t : List UInt8) : openR key side number (recL key side number.toNat d ++ t) = (d, d.length + 34, 0) := by
  have hl : lenL (recL key side number.toNat d ++ t) = d.length := by
    unfold recL bodyL
    rw [List.append_assoc, List.append_assoc]
    exact lenL_head _ h1 _
  unfold openR
  rw [hl, take_body, take_rec]
  rw [if_neg (by simp [hb]), if_neg (by rw [List.length_append, rec_len]; omega), if_neg (by omega), if_neg (by rw [List.length_append, rec_len]; omega)]
  have hd : (recL key side number.toNat d).drop (2 + d.length) = sealL key side number.toNat (bodyL key side number.toNat d) := by
    unfold recL
    rw [List.drop_append_of_le_length (by rw [body_len]; exact Nat.le_refl _), List.drop_of_length_le (by rw [body_len]; exact Nat.le_refl _), List.nil_append]
  rw [hd, if_neg (by simp)]
  have hb2 : (bodyL key side number.toNat d).drop 2 = maskL (maskK key side) d number.toNat := by
    unfold bodyL
    exact List.drop_left' (head_len _)
  rw [hb2, maskL_twice, Nat.add_comm 34]
end Go.Proofs.YtmblnacckboggaaDoor
