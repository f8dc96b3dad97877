/- SHA-256 on plain numbers: the words of the digest. Plain numbers alone. -/
namespace Go.Proofs.YtmblnacckboggaaDoor.SH
abbrev W : Nat := 4294967296
/-- a word rotated to the right -/
def rotr (x n : Nat) : Nat := (x <<< (32 - n)) % W ||| x >>> n
def s0 (x : Nat) : Nat := (rotr x 7 ^^^ rotr x 18) ^^^ x >>> 3
def s1 (y : Nat) : Nat := (rotr y 17 ^^^ rotr y 19) ^^^ y >>> 10
def b0 (a : Nat) : Nat := (rotr a 2 ^^^ rotr a 13) ^^^ rotr a 22
def b1 (e : Nat) : Nat := (rotr e 6 ^^^ rotr e 11) ^^^ rotr e 25
def ch (e f g : Nat) : Nat := (e &&& f) ^^^ ((4294967295 - e) &&& g)
def maj (a b c : Nat) : Nat := ((a &&& b) ^^^ (a &&& c)) ^^^ (b &&& c)
def roots : List Nat := [1779033703, 3144134277, 1013904242, 2773480762, 1359893119, 2600822924, 528734635, 1541459225]
def cubes : List Nat := [1116352408, 1899447441, 3049323471, 3921009573, 961987163, 1508970993, 2453635748, 2870763221, 3624381080, 310598401, 607225278, 1426881987, 1925078388, 2162078206, 2614888103, 3248222580, 3835390401, 4022224774, 264347078, 604807628, 770255983, 1249150122, 1555081692, 1996064986, 2554220882, 2821834349, 2952996808, 3210313671, 3336571891, 3584528711, 113926993, 338241895, 666307205, 773529912, 1294757372, 1396182291, 1695183700, 1986661051, 2177026350, 2456956037, 2730485921, 2820302411, 3259730800, 3345764771, 3516065817, 3600352804, 4094571909, 275423344, 430227734, 506948616, 659060556, 883997877, 958139571, 1322822218, 1537002063, 1747873779, 1955562222, 2024104815, 2227730452, 2361852424, 2428436474, 2756734187, 3204031479, 3329325298]
/-- the four bytes from a place on, as a word -/
def word (s : List UInt8) (t : Nat) : Nat := (((s.getD (4 * t) 0).toNat * 256 + (s.getD (4 * t + 1) 0).toNat) * 256 + (s.getD (4 * t + 2) 0).toNat) * 256 + (s.getD (4 * t + 3) 0).toNat
/-- the next word of the schedule -/
def nextW (ws : List Nat) (t : Nat) : Nat := (((s1 (ws.getD (t - 2) 0) + ws.getD (t - 7) 0) % W + s0 (ws.getD (t - 15) 0)) % W + ws.getD (t - 16) 0) % W
def sched (s : List UInt8) : Nat → List Nat
  | 0 => []
  | t + 1 => sched s t ++ [if t < 16 then word s t else nextW (sched s t) t]
/-- eight words -/
structure St where
  a : Nat
  b : Nat
  c : Nat
  d : Nat
  e : Nat
  f : Nat
  g : Nat
  h : Nat
def step (st : St) (k w : Nat) : St :=
  let one := ((((st.h + b1 st.e) % W + ch st.e st.f st.g) % W + k) % W + w) % W
  let two := (b0 st.a + maj st.a st.b st.c) % W
  ⟨(one + two) % W, st.a, st.b, st.c, (st.d + one) % W, st.e, st.f, st.g⟩
def rounds (ws : List Nat) (st : St) : Nat → St
  | 0 => st
  | t + 1 => step (rounds ws st t) (cubes.getD t 0) (ws.getD t 0)
def addS (x y : St) : St := ⟨(x.a + y.a) % W, (x.b + y.b) % W, (x.c + y.c) % W, (x.d + y.d) % W, (x.e + y.e) % W, (x.f + y.f) % W, (x.g + y.g) % W, (x.h + y.h) % W⟩
def block (st : St) (s : List UInt8) : St := addS st (rounds (sched s 64) st 64)
def root : St := ⟨1779033703, 3144134277, 1013904242, 2773480762, 1359893119, 2600822924, 528734635, 1541459225⟩
/-- the blocks of bytes, one after the other -/
def blocks (st : St) (s : List UInt8) : Nat → St
  | 0 => st
  | n + 1 => block (blocks st s n) ((s.drop (64 * n)).take 64)
def bytes4 (n : Nat) : List UInt8 := [UInt8.ofNat (n / 16777216), UInt8.ofNat (n / 65536), UInt8.ofNat (n / 256), UInt8.ofNat n]
def bytes8 (n : Nat) : List UInt8 := bytes4 (n / 4294967296) ++ bytes4 n
def out (x : St) : List UInt8 := bytes4 x.a ++ (bytes4 x.b ++ (bytes4 x.c ++ (bytes4 x.d ++ (bytes4 x.e ++ (bytes4 x.f ++ (bytes4 x.g ++ bytes4 x.h))))))
def padding (n : Nat) : List UInt8 := 128 :: (List.replicate ((119 - n % 64) % 64) 0 ++ bytes8 (8 * n))
def sum (s : List UInt8) : List UInt8 := out (blocks root (s ++ padding s.length) ((s ++ padding s.length).length / 64))
def keyOf (key : List UInt8) : List UInt8 := let k := if 64 < key.length then sum key else key
  k ++ List.replicate (64 - k.length) 0
def mac (key s : List UInt8) : List UInt8 := sum ((keyOf key).map (· ^^^ 0x5c) ++ sum ((keyOf key).map (· ^^^ 0x36) ++ s))
end Go.Proofs.YtmblnacckboggaaDoor.SH
