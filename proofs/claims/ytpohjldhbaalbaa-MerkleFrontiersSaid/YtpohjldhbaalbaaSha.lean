/- The plain law of SHA-256 over lists of words and bytes, with no program in sight: words of 32 bits are UInt32, bytes UInt8. -/
import Derived.WalkKit
namespace Go.Proofs.Ytpohjldhbaalbaa
set_option linter.unusedVariables false
set_option linter.unusedSimpArgs false
set_option linter.unusedSectionVars false
open Go.RowKit

/-! ### the numbers in the slots -/
def n8 (x : UInt8) : Int := (x.toNat : Int)
def n32 (x : UInt32) : Int := (x.toNat : Int)
theorem n8_lo (x : UInt8) : 0 ≤ n8 x := by unfold n8; omega
theorem n8_hi (x : UInt8) : n8 x ≤ 255 := by unfold n8; have := x.toNat_lt; omega
theorem n32_lo (x : UInt32) : 0 ≤ n32 x := by unfold n32; omega
theorem n32_hi (x : UInt32) : n32 x ≤ 4294967295 := by unfold n32; have := x.toNat_lt; omega
theorem n32_inj {x y : UInt32} (h : n32 x = n32 y) : x = y := by unfold n32 at h; exact UInt32.toNat_inj.1 (by omega)
theorem n8_inj {x y : UInt8} (h : n8 x = n8 y) : x = y := by unfold n8 at h; exact UInt8.toNat_inj.1 (by omega)

/-! ### words -/
def add32 (a b : UInt32) : UInt32 := a + b
def xor32 (a b : UInt32) : UInt32 := a ^^^ b
def and32 (a b : UInt32) : UInt32 := a &&& b
def or32 (a b : UInt32) : UInt32 := a ||| b
def not32 (a : UInt32) : UInt32 := ~~~ a
def shr32 (a n : UInt32) : UInt32 := a >>> n
def rotr (x n : UInt32) : UInt32 := x >>> n ||| x <<< (32 - n)
/-- four bytes as a word -/
def be32 (a b c d : UInt8) : UInt32 := a.toUInt32 <<< 24 ||| b.toUInt32 <<< 16 ||| c.toUInt32 <<< 8 ||| d.toUInt32
def sg0 (x : UInt32) : UInt32 := xor32 (xor32 (rotr x 7) (rotr x 18)) (shr32 x 3)
def sg1 (x : UInt32) : UInt32 := xor32 (xor32 (rotr x 17) (rotr x 19)) (shr32 x 10)
def Sg0 (x : UInt32) : UInt32 := xor32 (xor32 (rotr x 2) (rotr x 13)) (rotr x 22)
def Sg1 (x : UInt32) : UInt32 := xor32 (xor32 (rotr x 6) (rotr x 11)) (rotr x 25)
def chW (e f g : UInt32) : UInt32 := xor32 (and32 e f) (and32 g (not32 e))
def majW (a b c : UInt32) : UInt32 := xor32 (xor32 (and32 a b) (and32 a c)) (and32 b c)

/-! ### the words of a block -/
def wordAt (p : List UInt8) (i : Nat) : UInt32 := be32 (p.getD (4 * i) 0) (p.getD (4 * i + 1) 0) (p.getD (4 * i + 2) 0) (p.getD (4 * i + 3) 0)
def nextW (ws : List UInt32) (i : Nat) : UInt32 := add32 (add32 (add32 (ws.getD (i - 16) 0) (sg0 (ws.getD (i - 15) 0))) (ws.getD (i - 7) 0)) (sg1 (ws.getD (i - 2) 0))
def schedStep (p : List UInt8) (ws : List UInt32) (i : Nat) : List UInt32 := ws.set i (if i < 16 then wordAt p i else nextW ws i)
def sched (p : List UInt8) : Nat → List UInt32
  | 0 => List.replicate 64 0
  | i + 1 => schedStep p (sched p i) i
theorem sched_length (p : List UInt8) (i : Nat) : (sched p i).length = 64 := by
  induction i with
  | zero => simp [sched]
  | succ i ih => simp [sched, schedStep, ih]

/-! ### a round -/
structure V8 where
  a : UInt32
  b : UInt32
  c : UInt32
  d : UInt32
  e : UInt32
  f : UInt32
  g : UInt32
  h : UInt32
def roundX (v : V8) (k w : UInt32) : UInt32 := add32 (add32 (add32 (add32 v.h (Sg1 v.e)) (chW v.e v.f v.g)) k) w
def roundY (v : V8) : UInt32 := add32 (Sg0 v.a) (majW v.a v.b v.c)
def roundOf (v : V8) (k w : UInt32) : V8 := ⟨add32 (roundX v k w) (roundY v), v.a, v.b, v.c, add32 v.d (roundX v k w), v.e, v.f, v.g⟩
def kList : List UInt32 := [
  0x428a2f98, 0x71374491, 0xb5c0fbcf, 0xe9b5dba5, 0x3956c25b, 0x59f111f1, 0x923f82a4, 0xab1c5ed5,
  0xd807aa98, 0x12835b01, 0x243185be, 0x550c7dc3, 0x72be5d74, 0x80deb1fe, 0x9bdc06a7, 0xc19bf174,
  0xe49b69c1, 0xefbe4786, 0x0fc19dc6, 0x240ca1cc, 0x2de92c6f, 0x4a7484aa, 0x5cb0a9dc, 0x76f988da,
  0x983e5152, 0xa831c66d, 0xb00327c8, 0xbf597fc7, 0xc6e00bf3, 0xd5a79147, 0x06ca6351, 0x14292967,
  0x27b70a85, 0x2e1b2138, 0x4d2c6dfc, 0x53380d13, 0x650a7354, 0x766a0abb, 0x81c2c92e, 0x92722c85,
  0xa2bfe8a1, 0xa81a664b, 0xc24b8b70, 0xc76c51a3, 0xd192e819, 0xd6990624, 0xf40e3585, 0x106aa070,
  0x19a4c116, 0x1e376c08, 0x2748774c, 0x34b0bcb5, 0x391c0cb3, 0x4ed8aa4a, 0x5b9cca4f, 0x682e6ff3,
  0x748f82ee, 0x78a5636f, 0x84c87814, 0x8cc70208, 0x90befffa, 0xa4506ceb, 0xbef9a3f7, 0xc67178f2]
def kAt (i : Nat) : UInt32 := kList.getD i 0
def roundsTo (ws : List UInt32) (v : V8) : Nat → V8
  | 0 => v
  | i + 1 => roundOf (roundsTo ws v i) (kAt i) (ws.getD i 0)
def addV (u v : V8) : V8 := ⟨add32 u.a v.a, add32 u.b v.b, add32 u.c v.c, add32 u.d v.d, add32 u.e v.e, add32 u.f v.f, add32 u.g v.g, add32 u.h v.h⟩
/-- the words behind a block -/
def compress (v : V8) (p : List UInt8) : V8 := addV v (roundsTo (sched p 64) v 64)
def begin0 : V8 := ⟨0x6a09e667, 0xbb67ae85, 0x3c6ef372, 0xa54ff53a, 0x510e527f, 0x9b05688c, 0x1f83d9ab, 0x5be0cd19⟩

/-! ### bytes that come in -/
def feed1 (s : V8 × List UInt8) (x : UInt8) : V8 × List UInt8 := if (s.2 ++ [x]).length = 64 then (compress s.1 (s.2 ++ [x]), []) else (s.1, s.2 ++ [x])
def feed (s : V8 × List UInt8) (p : List UInt8) : V8 × List UInt8 := p.foldl feed1 s
theorem feed_append (s : V8 × List UInt8) (p q : List UInt8) : feed s (p ++ q) = feed (feed s p) q := by simp [feed, List.foldl_append]
theorem feed_nil (s : V8 × List UInt8) : feed s [] = s := rfl
theorem feed_less (v : V8) : ∀ (p t : List UInt8), t.length + p.length < 64 → feed (v, t) p = (v, t ++ p)
  | [], t, _ => by simp [feed]
  | x :: p, t, h => by
    simp only [List.length_cons] at h
    show feed (feed1 (v, t) x) p = _
    rw [show feed1 (v, t) x = (v, t ++ [x]) from by simp only [feed1]; rw [if_neg (by simp; omega)]]
    rw [feed_less v p (t ++ [x]) (by simp; omega)]; simp
theorem feed_full (v : V8) (p t : List UInt8) (h : t.length + p.length = 64) (hp : 0 < p.length) : feed (v, t) p = (compress v (t ++ p), []) := by
  rcases List.eq_nil_or_concat p with rfl | ⟨q, x, rfl⟩
  · simp at hp
  · simp only [List.concat_eq_append, List.length_append, List.length_cons, List.length_nil] at h ⊢
    rw [feed_append, feed_less v q t (by omega)]
    show feed1 (v, t ++ q) x = _
    simp only [feed1]; rw [if_pos (by simp; omega)]; simp
theorem feed_tail_lt (s : V8 × List UInt8) (p : List UInt8) (h : s.2.length < 64) : (feed s p).2.length < 64 := by
  induction p generalizing s with
  | nil => exact h
  | cons x p ih =>
    refine ih (feed1 s x) ?_
    unfold feed1; split
    · simp
    · rename_i hne; simp at hne ⊢; omega
theorem feed_tail_len (s : V8 × List UInt8) (p : List UInt8) (h : s.2.length < 64) : (feed s p).2.length = (s.2.length + p.length) % 64 := by
  induction p generalizing s with
  | nil => simp [feed]; omega
  | cons x p ih =>
    have h1 : (feed1 s x).2.length < 64 := feed_tail_lt s [x] h
    show (feed (feed1 s x) p).2.length = _
    rw [ih _ h1]
    unfold feed1; split
    · rename_i he; simp at he ⊢; omega
    · simp; omega

/-! ### a number as bytes, the highest first -/
def beByte (n : Nat) (i : Nat) : UInt8 := UInt8.ofNat (n / 256 ^ i)
def beBytes (n : Nat) : Nat → List UInt8
  | 0 => []
  | k + 1 => beByte n k :: beBytes n k
theorem beBytes_length (n k : Nat) : (beBytes n k).length = k := by induction k with | zero => rfl | succ k ih => simp [beBytes, ih]
def zeros (n : Nat) : Nat := (119 - n % 64) % 64
/-- what comes in behind n bytes -/
def padOf (n : Nat) : List UInt8 := 128 :: (List.replicate (zeros n) 0 ++ beBytes (8 * n) 8)
def wordsOf (v : V8) : List UInt32 := [v.a, v.b, v.c, v.d, v.e, v.f, v.g, v.h]
def bytesOf (v : V8) : List UInt8 := (wordsOf v).flatMap fun x => beBytes x.toNat 4
/-- the sum, of a state behind n bytes -/
def closeOf (s : V8 × List UInt8) (n : Nat) : List UInt8 := bytesOf (feed s (padOf n)).1
def sha (p : List UInt8) : List UInt8 := closeOf (feed (begin0, []) p) p.length
theorem bytesOf_length (v : V8) : (bytesOf v).length = 32 := by simp [bytesOf, wordsOf, beBytes_length]
theorem sha_length (p : List UInt8) : (sha p).length = 32 := bytesOf_length _
end Go.Proofs.Ytpohjldhbaalbaa
