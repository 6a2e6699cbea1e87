/-
  SHA-256 and tagged digests over lists of bytes, in plain Lean.
  Conditions: none; these are definitions and lemmas.
-/
import Derived.Test.YteacnlikmagfcaaDoorEngI2
import Derived.KernelRfl
namespace Go.Proofs.YteacnlikmagfcaaDoor.PI
open Go

namespace Sha
def rotr (x : UInt32) (n : Nat) : UInt32 := x >>> UInt32.ofNat n ||| x <<< UInt32.ofNat (32 - n)

def word (b : List UInt8) (i : Nat) : UInt32 :=
  (b.getD (4 * i) 0).toUInt32 <<< UInt32.ofNat 24 ||| (b.getD (4 * i + 1) 0).toUInt32 <<< UInt32.ofNat 16 ||| (b.getD (4 * i + 2) 0).toUInt32 <<< UInt32.ofNat 8 ||| (b.getD (4 * i + 3) 0).toUInt32

def sig0 (x : UInt32) : UInt32 := rotr x 7 ^^^ rotr x 18 ^^^ x >>> UInt32.ofNat 3
def sig1 (x : UInt32) : UInt32 := rotr x 17 ^^^ rotr x 19 ^^^ x >>> UInt32.ofNat 10

/-- the words of the schedule: the first n of them -/
def sch (b : List UInt8) : Nat → List UInt32
  | 0 => []
  | n + 1 => let w := sch b n
    w ++ [if n < 16 then word b n else w.getD (n - 16) 0 + sig0 (w.getD (n - 15) 0) + w.getD (n - 7) 0 + sig1 (w.getD (n - 2) 0)]
theorem sch_length (b : List UInt8) : ∀ n, (sch b n).length = n
  | 0 => rfl
  | n + 1 => by simp [sch, sch_length b n]

structure St8 where
  a : UInt32
  b : UInt32
  c : UInt32
  d : UInt32
  e : UInt32
  f : UInt32
  g : UInt32
  h : UInt32

def St8.list (s : St8) : List UInt32 := [s.a, s.b, s.c, s.d, s.e, s.f, s.g, s.h]

def round (s : St8) (k w : UInt32) : St8 :=
  let t := s.h + (rotr s.e 6 ^^^ rotr s.e 11 ^^^ rotr s.e 25) + (s.e &&& s.f ^^^ ~~~s.e &&& s.g) + k + w
  let u := (rotr s.a 2 ^^^ rotr s.a 13 ^^^ rotr s.a 22) + (s.a &&& s.b ^^^ s.a &&& s.c ^^^ s.b &&& s.c)
  { a := t + u, b := s.a, c := s.b, d := s.c, e := s.d + t, f := s.e, g := s.f, h := s.g }

def K : List UInt32 := [
  0x428a2f98, 0x71374491, 0xb5c0fbcf, 0xe9b5dba5, 0x3956c25b, 0x59f111f1, 0x923f82a4, 0xab1c5ed5,
  0xd807aa98, 0x12835b01, 0x243185be, 0x550c7dc3, 0x72be5d74, 0x80deb1fe, 0x9bdc06a7, 0xc19bf174,
  0xe49b69c1, 0xefbe4786, 0x0fc19dc6, 0x240ca1cc, 0x2de92c6f, 0x4a7484aa, 0x5cb0a9dc, 0x76f988da,
  0x983e5152, 0xa831c66d, 0xb00327c8, 0xbf597fc7, 0xc6e00bf3, 0xd5a79147, 0x06ca6351, 0x14292967,
  0x27b70a85, 0x2e1b2138, 0x4d2c6dfc, 0x53380d13, 0x650a7354, 0x766a0abb, 0x81c2c92e, 0x92722c85,
  0xa2bfe8a1, 0xa81a664b, 0xc24b8b70, 0xc76c51a3, 0xd192e819, 0xd6990624, 0xf40e3585, 0x106aa070,
  0x19a4c116, 0x1e376c08, 0x2748774c, 0x34b0bcb5, 0x391c0cb3, 0x4ed8aa4a, 0x5b9cca4f, 0x682e6ff3,
  0x748f82ee, 0x78a5636f, 0x84c87814, 0x8cc70208, 0x90befffa, 0xa4506ceb, 0xbef9a3f7, 0xc67178f2]

def rounds (w : List UInt32) (s : St8) : Nat → St8
  | 0 => s
  | n + 1 => round (rounds w s n) (K.getD n 0) (w.getD n 0)

def St8.add (s t : St8) : St8 := { a := s.a + t.a, b := s.b + t.b, c := s.c + t.c, d := s.d + t.d, e := s.e + t.e, f := s.f + t.f, g := s.g + t.g, h := s.h + t.h }

/-- the state after a block of 64 bytes -/
def block (s : St8) (b : List UInt8) : St8 := s.add (rounds (sch b 64) s 64)

def H0 : St8 := ⟨0x6a09e667, 0xbb67ae85, 0x3c6ef372, 0xa54ff53a, 0x510e527f, 0x9b05688c, 0x1f83d9ab, 0x5be0cd19⟩

/-- the bytes of a length -/
def lenB (q : UInt64) : Nat → List UInt8
  | 0 => []
  | n + 1 => lenB q n ++ [(q >>> UInt64.ofNat (56 - 8 * n)).toUInt8]
def zeros (n : Nat) : Nat := (119 - n % 64) % 64
def padded (m : List UInt8) : List UInt8 := m ++ [128] ++ List.replicate (zeros m.length) 0 ++ lenB (UInt64.ofNat m.length * 8) 8

def blocks (s : St8) : Nat → List UInt8 → St8
  | 0, _ => s
  | n + 1, m => blocks (block s (m.take 64)) n (m.drop 64)

def outB (l : List UInt32) : Nat → List UInt8
  | 0 => []
  | n + 1 => outB l n ++ [(l.getD (n / 4) 0 >>> UInt32.ofNat (24 - 8 * (n % 4))).toUInt8]
theorem outB_length (l : List UInt32) : ∀ n, (outB l n).length = n
  | 0 => rfl
  | n + 1 => by simp [outB, outB_length l n]
theorem lenB_length (q : UInt64) : ∀ n, (lenB q n).length = n
  | 0 => rfl
  | n + 1 => by simp [lenB, lenB_length q n]
theorem St8.list_inj {s t : St8} (h : s.list = t.list) : s = t := by
  cases s; cases t
  simpa [St8.list] using h
theorem St8.list_iff {s t : St8} : s.list = t.list ↔ s = t := ⟨St8.list_inj, fun h => by rw [h]⟩
theorem St8.list_length (s : St8) : s.list.length = 8 := rfl
end Sha
theorem st8_iff {s t : Sha.St8} : s.list.map wD = t.list.map wD ↔ s = t := ⟨fun h => Sha.St8.list_inj (words_iff.1 h), fun h => by rw [h]⟩

theorem fillH0 : fillD ((zW 8).map wD) [(0, 1, .int .u32 1779033703), (1, 1, .int .u32 3144134277), (2, 1, .int .u32 1013904242), (3, 1, .int .u32 2773480762), (4, 1, .int .u32 1359893119), (5, 1, .int .u32 2600822924), (6, 1, .int .u32 528734635), (7, 1, .int .u32 1541459225)] = some (Sha.H0.list.map wD) := by kernel_rfl
theorem fillK : fillD ((zW 64).map wD) [(0, 1, .int .u32 1116352408), (1, 1, .int .u32 1899447441), (2, 1, .int .u32 3049323471), (3, 1, .int .u32 3921009573), (4, 1, .int .u32 961987163), (5, 1, .int .u32 1508970993), (6, 1, .int .u32 2453635748), (7, 1, .int .u32 2870763221), (8, 1, .int .u32 3624381080), (9, 1, .int .u32 310598401), (10, 1, .int .u32 607225278), (11, 1, .int .u32 1426881987), (12, 1, .int .u32 1925078388), (13, 1, .int .u32 2162078206), (14, 1, .int .u32 2614888103), (15, 1, .int .u32 3248222580), (16, 1, .int .u32 3835390401), (17, 1, .int .u32 4022224774), (18, 1, .int .u32 264347078), (19, 1, .int .u32 604807628), (20, 1, .int .u32 770255983), (21, 1, .int .u32 1249150122), (22, 1, .int .u32 1555081692), (23, 1, .int .u32 1996064986), (24, 1, .int .u32 2554220882), (25, 1, .int .u32 2821834349), (26, 1, .int .u32 2952996808), (27, 1, .int .u32 3210313671), (28, 1, .int .u32 3336571891), (29, 1, .int .u32 3584528711), (30, 1, .int .u32 113926993), (31, 1, .int .u32 338241895), (32, 1, .int .u32 666307205), (33, 1, .int .u32 773529912), (34, 1, .int .u32 1294757372), (35, 1, .int .u32 1396182291), (36, 1, .int .u32 1695183700), (37, 1, .int .u32 1986661051), (38, 1, .int .u32 2177026350), (39, 1, .int .u32 2456956037), (40, 1, .int .u32 2730485921), (41, 1, .int .u32 2820302411), (42, 1, .int .u32 3259730800), (43, 1, .int .u32 3345764771), (44, 1, .int .u32 3516065817), (45, 1, .int .u32 3600352804), (46, 1, .int .u32 4094571909), (47, 1, .int .u32 275423344), (48, 1, .int .u32 430227734), (49, 1, .int .u32 506948616), (50, 1, .int .u32 659060556), (51, 1, .int .u32 883997877), (52, 1, .int .u32 958139571), (53, 1, .int .u32 1322822218), (54, 1, .int .u32 1537002063), (55, 1, .int .u32 1747873779), (56, 1, .int .u32 1955562222), (57, 1, .int .u32 2024104815), (58, 1, .int .u32 2227730452), (59, 1, .int .u32 2361852424), (60, 1, .int .u32 2428436474), (61, 1, .int .u32 2756734187), (62, 1, .int .u32 3204031479), (63, 1, .int .u32 3329325298)] = some (Sha.K.map wD) := by kernel_rfl

def shaL (m : List UInt8) : Dig := ⟨Sha.outB (Sha.blocks Sha.H0 ((Sha.padded m).length / 64) (Sha.padded m)).list 32, Sha.outB_length _ 32⟩
/-- what is hashed under a tag -/
def hashedL (t b : List UInt8) : List UInt8 := UInt8.ofNat (t.take 255).length :: (t.take 255 ++ b)
def taggedL (t b : List UInt8) : Dig := shaL (hashedL t b)

end Go.Proofs.YteacnlikmagfcaaDoor.PI
