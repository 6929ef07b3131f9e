/- Plain maths: the digest as a function on lists. Nothing of a program. -/
import Derived.Test.YtlieingmahbmcaaNum
namespace Go.Rl

def rotr (x : UInt32) (n : Nat) : UInt32 := (x >>> UInt32.ofNat n) ||| (x <<< UInt32.ofNat (32 - n))
/-- The constants of the rounds. -/
def kc : List UInt32 := [0x428a2f98, 0x71374491, 0xb5c0fbcf, 0xe9b5dba5, 0x3956c25b, 0x59f111f1, 0x923f82a4, 0xab1c5ed5, 0xd807aa98, 0x12835b01, 0x243185be, 0x550c7dc3, 0x72be5d74, 0x80deb1fe, 0x9bdc06a7, 0xc19bf174, 0xe49b69c1, 0xefbe4786, 0x0fc19dc6, 0x240ca1cc, 0x2de92c6f, 0x4a7484aa, 0x5cb0a9dc, 0x76f988da, 0x983e5152, 0xa831c66d, 0xb00327c8, 0xbf597fc7, 0xc6e00bf3, 0xd5a79147, 0x06ca6351, 0x14292967, 0x27b70a85, 0x2e1b2138, 0x4d2c6dfc, 0x53380d13, 0x650a7354, 0x766a0abb, 0x81c2c92e, 0x92722c85, 0xa2bfe8a1, 0xa81a664b, 0xc24b8b70, 0xc76c51a3, 0xd192e819, 0xd6990624, 0xf40e3585, 0x106aa070, 0x19a4c116, 0x1e376c08, 0x2748774c, 0x34b0bcb5, 0x391c0cb3, 0x4ed8aa4a, 0x5b9cca4f, 0x682e6ff3, 0x748f82ee, 0x78a5636f, 0x84c87814, 0x8cc70208, 0x90befffa, 0xa4506ceb, 0xbef9a3f7, 0xc67178f2]
/-- The initial state. -/
def iv : List UInt32 := [0x6a09e667, 0xbb67ae85, 0x3c6ef372, 0xa54ff53a, 0x510e527f, 0x9b05688c, 0x1f83d9ab, 0x5be0cd19]
/-- A word of a block. -/
def word (b : List UInt8) (t : Nat) : UInt32 := ((((b.getD (4 * t) 0).toUInt32 <<< UInt32.ofNat 24) ||| ((b.getD (4 * t + 1) 0).toUInt32 <<< UInt32.ofNat 16)) ||| ((b.getD (4 * t + 2) 0).toUInt32 <<< UInt32.ofNat 8)) ||| (b.getD (4 * t + 3) 0).toUInt32
def nextW (l : List UInt32) : UInt32 :=
  let t := l.length
  let x := l.getD (t - 15) 0
  let y := l.getD (t - 2) 0
  l.getD (t - 16) 0 + (rotr x 7 ^^^ rotr x 18 ^^^ x >>> UInt32.ofNat 3) + l.getD (t - 7) 0 + (rotr y 17 ^^^ rotr y 19 ^^^ y >>> UInt32.ofNat 10)
/-- The first words. -/
def words (b : List UInt8) (k : Nat) : List UInt32 := (List.range k).map (word b)
def sched (b : List UInt8) : Nat → List UInt32
  | 0 => words b 16
  | k + 1 => sched b k ++ [nextW (sched b k)]
theorem sched_len (b : List UInt8) : ∀ k, (sched b k).length = 16 + k
  | 0 => by simp [sched, words]
  | k + 1 => by simp [sched, sched_len b k]; omega
/-- One round. -/
def t1 (s : List UInt32) (k w : UInt32) : UInt32 :=
  let e := s.getD 4 0
  s.getD 7 0 + (rotr e 6 ^^^ rotr e 11 ^^^ rotr e 25) + (e &&& s.getD 5 0 ^^^ ~~~e &&& s.getD 6 0) + k + w
def t2 (s : List UInt32) : UInt32 :=
  let a := s.getD 0 0
  (rotr a 2 ^^^ rotr a 13 ^^^ rotr a 22) + (a &&& s.getD 1 0 ^^^ a &&& s.getD 2 0 ^^^ s.getD 1 0 &&& s.getD 2 0)
def rnd (s : List UInt32) (k w : UInt32) : List UInt32 := [t1 s k w + t2 s, s.getD 0 0, s.getD 1 0, s.getD 2 0, s.getD 3 0 + t1 s k w, s.getD 4 0, s.getD 5 0, s.getD 6 0]
def rounds (b : List UInt8) (s : List UInt32) : Nat → List UInt32
  | 0 => s
  | i + 1 => rnd (rounds b s i) (kc.getD i 0) ((sched b 48).getD i 0)
theorem rounds_len (b : List UInt8) (s : List UInt32) (hs : s.length = 8) : ∀ i, (rounds b s i).length = 8
  | 0 => hs
  | _ + 1 => rfl
/-- The state behind a block. -/
def cmpr (s : List UInt32) (b : List UInt8) : List UInt32 := List.zipWith (· + ·) s (rounds b s 64)
theorem cmpr_len (s : List UInt32) (b : List UInt8) (hs : s.length = 8) : (cmpr s b).length = 8 := by
  simp [cmpr, hs, rounds_len b s hs]
/-- The state behind the first blocks. -/
def shN (m : List UInt8) : Nat → List UInt32
  | 0 => iv
  | k + 1 => cmpr (shN m k) ((m.drop (64 * k)).take 64)
theorem shN_len (m : List UInt8) : ∀ k, (shN m k).length = 8
  | 0 => rfl
  | k + 1 => cmpr_len _ _ (shN_len m k)
theorem shN_append (m x : List UInt8) : ∀ k, 64 * k ≤ m.length → shN (m ++ x) k = shN m k
  | 0, _ => rfl
  | k + 1, h => by
    have h0 : 64 * k ≤ m.length := by omega
    have h1 : 64 ≤ (m.drop (64 * k)).length := by simp; omega
    rw [shN, shN, shN_append m x k h0, List.drop_append_of_le_length h0, List.take_append_of_le_length h1]
def sh (m : List UInt8) : List UInt32 := shN m (m.length / 64)
theorem sh_len (m : List UInt8) : (sh m).length = 8 := shN_len m _
theorem sh_tail (p t : List UInt8) (hp : p.length % 64 = 0) (ht : t.length < 64) : sh (p ++ t) = sh p := by
  have : (p ++ t).length / 64 = p.length / 64 := by simp only [List.length_append]; omega
  unfold sh
  rw [this, shN_append p t _ (by omega)]
theorem sh_block (p b : List UInt8) (hp : p.length % 64 = 0) (hb : b.length = 64) : sh (p ++ b) = cmpr (sh p) b := by
  have h1 : (p ++ b).length / 64 = p.length / 64 + 1 := by simp only [List.length_append]; omega
  unfold sh
  rw [h1, shN, shN_append p b _ (by omega)]
  have h2 : 64 * (p.length / 64) = p.length := by omega
  rw [h2, List.drop_left, ← hb, List.take_length]
def be4 (x : UInt32) : List UInt8 := [(x >>> UInt32.ofNat 24).toUInt8, (x >>> UInt32.ofNat 16).toUInt8, (x >>> UInt32.ofNat 8).toUInt8, x.toUInt8]
def be8 (n : UInt64) : List UInt8 := (List.range 8).map fun i => (n >>> UInt64.ofNat (56 - 8 * i)).toUInt8
def padZ (n : Nat) : Nat := (119 - n % 64) % 64
def padded (m : List UInt8) : List UInt8 := m ++ [128] ++ List.replicate (padZ m.length) 0 ++ be8 (UInt64.ofNat m.length * 8)
theorem padded_len (m : List UInt8) : (padded m).length % 64 = 0 := by
  simp only [padded, padZ, be8, List.length_append, List.length_cons, List.length_nil, List.length_replicate, List.length_map, List.length_range]; omega
/-- The digest. -/
def dig (m : List UInt8) : List UInt8 := (sh (padded m)).flatMap be4
end Go.Rl
