/- Plain law: SHA-256 as a function of bytes. -/
import Derived.Test.YtakebmpnbdlcoaaLib
set_option linter.unusedSimpArgs false
set_option linter.unusedVariables false
namespace Go.Proofs.Ytakebmpnbdlcoaa
def rotr (n x : Nat) : Nat := x / 2 ^ n ||| (x * 2 ^ (32 - n)) % 4294967296
structure S8 where
  a : Nat
  b : Nat
  c : Nat
  d : Nat
  e : Nat
  f : Nat
  g : Nat
  h : Nat
def lsig0 (x : Nat) : Nat := (rotr 7 x ^^^ rotr 18 x) ^^^ x / 8
def lsig1 (x : Nat) : Nat := (rotr 17 x ^^^ rotr 19 x) ^^^ x / 1024
def usig0 (x : Nat) : Nat := (rotr 2 x ^^^ rotr 13 x) ^^^ rotr 22 x
def usig1 (x : Nat) : Nat := (rotr 6 x ^^^ rotr 11 x) ^^^ rotr 25 x
def chs (e f g : Nat) : Nat := (e &&& f) ^^^ ((4294967295 - e) &&& g)
def maj (a b c : Nat) : Nat := ((a &&& b) ^^^ (a &&& c)) ^^^ (b &&& c)
def shaKs : List Nat := [
  0x428a2f98, 0x71374491, 0xb5c0fbcf, 0xe9b5dba5, 0x3956c25b, 0x59f111f1, 0x923f82a4, 0xab1c5ed5,
  0xd807aa98, 0x12835b01, 0x243185be, 0x550c7dc3, 0x72be5d74, 0x80deb1fe, 0x9bdc06a7, 0xc19bf174,
  0xe49b69c1, 0xefbe4786, 0x0fc19dc6, 0x240ca1cc, 0x2de92c6f, 0x4a7484aa, 0x5cb0a9dc, 0x76f988da,
  0x983e5152, 0xa831c66d, 0xb00327c8, 0xbf597fc7, 0xc6e00bf3, 0xd5a79147, 0x06ca6351, 0x14292967,
  0x27b70a85, 0x2e1b2138, 0x4d2c6dfc, 0x53380d13, 0x650a7354, 0x766a0abb, 0x81c2c92e, 0x92722c85,
  0xa2bfe8a1, 0xa81a664b, 0xc24b8b70, 0xc76c51a3, 0xd192e819, 0xd6990624, 0xf40e3585, 0x106aa070,
  0x19a4c116, 0x1e376c08, 0x2748774c, 0x34b0bcb5, 0x391c0cb3, 0x4ed8aa4a, 0x5b9cca4f, 0x682e6ff3,
  0x748f82ee, 0x78a5636f, 0x84c87814, 0x8cc70208, 0x90befffa, 0xa4506ceb, 0xbef9a3f7, 0xc67178f2]
def shaBegun : S8 := ⟨0x6a09e667, 0xbb67ae85, 0x3c6ef372, 0xa54ff53a, 0x510e527f, 0x9b05688c, 0x1f83d9ab, 0x5be0cd19⟩
/-- word j of a block -/
def w4 (l : List UInt8) (j : Nat) : Nat := (l.getD (4 * j) 0).toNat * 16777216 + (l.getD (4 * j + 1) 0).toNat * 65536 + (l.getD (4 * j + 2) 0).toNat * 256 + (l.getD (4 * j + 3) 0).toNat
def nextW (l : List Nat) (i : Nat) : Nat := (l.getD (i - 16) 0 + lsig0 (l.getD (i - 15) 0) + l.getD (i - 7) 0 + lsig1 (l.getD (i - 2) 0)) % 4294967296
/-- the first i words of a block's 64 -/
def sched (l : List UInt8) : Nat → List Nat
  | 0 => []
  | i + 1 => sched l i ++ [if i < 16 then w4 l i else nextW (sched l i) i]
def rnd (s : S8) (k w : Nat) : S8 :=
  ⟨(s.h + usig1 s.e + chs s.e s.f s.g + k + w + (usig0 s.a + maj s.a s.b s.c)) % 4294967296, s.a, s.b, s.c, (s.d + (s.h + usig1 s.e + chs s.e s.f s.g + k + w)) % 4294967296, s.e, s.f, s.g⟩
def rnds (ws : List Nat) (s : S8) : Nat → S8
  | 0 => s
  | i + 1 => rnd (rnds ws s i) (shaKs.getD i 0) (ws.getD i 0)
def addS (s t : S8) : S8 := ⟨(s.a + t.a) % 4294967296, (s.b + t.b) % 4294967296, (s.c + t.c) % 4294967296, (s.d + t.d) % 4294967296, (s.e + t.e) % 4294967296, (s.f + t.f) % 4294967296, (s.g + t.g) % 4294967296, (s.h + t.h) % 4294967296⟩
def comp (s : S8) (l : List UInt8) : S8 := addS (rnds (sched l 64) s 64) s
def run (s : S8) (l : List UInt8) : Nat → S8
  | 0 => s
  | n + 1 => comp (run s l n) ((l.drop (64 * n)).take 64)
def be8 (n : Nat) : List UInt8 := [UInt8.ofNat (n / 72057594037927936), UInt8.ofNat (n / 281474976710656), UInt8.ofNat (n / 1099511627776), UInt8.ofNat (n / 4294967296), UInt8.ofNat (n / 16777216), UInt8.ofNat (n / 65536), UInt8.ofNat (n / 256), UInt8.ofNat n]
def padZ (n : Nat) : Nat := (119 - n % 64) % 64
def pad (b : List UInt8) : List UInt8 := b ++ [128] ++ List.replicate (padZ b.length) 0 ++ be8 (8 * b.length)
def be4 (n : Nat) : List UInt8 := [UInt8.ofNat (n / 16777216), UInt8.ofNat (n / 65536), UInt8.ofNat (n / 256), UInt8.ofNat n]
def S8.list (s : S8) : List Nat := [s.a, s.b, s.c, s.d, s.e, s.f, s.g, s.h]
def S8.bytes (s : S8) : List UInt8 := s.list.flatMap be4
/-- the sum of bytes -/
def shaS (b : List UInt8) : List UInt8 := (run shaBegun (pad b) ((pad b).length / 64)).bytes
def dig (n : Nat) : UInt8 := if n < 10 then UInt8.ofNat (48 + n) else UInt8.ofNat (87 + n)
def hexS (h : List UInt8) : List UInt8 := h.flatMap fun x => [dig (x.toNat / 16), dig (x.toNat % 16)]
def twoS (a b : List UInt8) : List UInt8 := shaS ([1] ++ a ++ b)
theorem shaS_len (b : List UInt8) : (shaS b).length = 32 := by simp [shaS, S8.bytes, S8.list, be4]
theorem twoS_len (a b : List UInt8) : (twoS a b).length = 32 := shaS_len _
theorem pad_len (b : List UInt8) : (pad b).length % 64 = 0 := by simp [pad, be8, padZ]; omega
end Go.Proofs.Ytakebmpnbdlcoaa
