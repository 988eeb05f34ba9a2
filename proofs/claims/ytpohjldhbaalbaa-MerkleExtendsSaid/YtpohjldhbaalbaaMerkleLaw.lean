/- Leaves, nodes, roots and ways over lists of sums, with no program in sight. -/
import Derived.Test.YtpohjldhbaalbaaSha
import Derived.Lib.BitFns
namespace Go.Proofs.Ytpohjldhbaalbaa
set_option linter.unusedVariables false
set_option linter.unusedSimpArgs false
set_option linter.unusedSectionVars false

def leafL (p : List UInt8) : List UInt8 := sha (0 :: p)
def nodeB (l r : List UInt8) : List UInt8 := 1 :: (l ++ r)
def nodeL (l r : List UInt8) : List UInt8 := sha (nodeB l r)
theorem nodeL_length (l r : List UInt8) : (nodeL l r).length = 32 := sha_length _
/-- the greatest power of two below n -/
def half (n : Nat) : Nat := 2 ^ Nat.log2 (n - 1)
theorem half_pos (n : Nat) : 0 < half n := Nat.two_pow_pos _
theorem half_lt {n : Nat} (h : 2 ≤ n) : half n < n := by
  have := Nat.log2_self_le (n := n - 1) (by omega)
  unfold half; omega
theorem half_ge {n : Nat} (h : 2 ≤ n) : n ≤ 2 * half n := by
  have : n - 1 < 2 ^ (Nat.log2 (n - 1) + 1) := Nat.lt_log2_self
  unfold half
  rw [Nat.pow_succ] at this; omega
theorem half_unique {n j : Nat} (h1 : 2 ^ j < n) (h2 : n ≤ 2 * 2 ^ j) : half n = 2 ^ j := by
  unfold half
  congr 1
  have h : (n - 1) ≠ 0 := by have := Nat.two_pow_pos j; omega
  exact (Nat.log2_eq_iff h).2 ⟨by omega, by rw [Nat.pow_succ]; omega⟩
theorem bitLen_log2 : ∀ (k x : Nat), x < 2 ^ k → k ≤ 64 → x ≠ 0 → Lib.bitLen x = Nat.log2 x + 1
  | 0, x, h, _, h0 => by simp at h; exact absurd h h0
  | k + 1, x, h, hk, h0 => by
    have hx : x < 2 ^ 64 := Nat.lt_of_lt_of_le h (Nat.pow_le_pow_right (by omega) hk)
    rw [Lib.bitLen_half x h0 hx]
    by_cases h1 : x < 2
    · obtain rfl : x = 1 := by omega
      decide
    · rw [bitLen_log2 k (x / 2) (by rw [Nat.pow_succ] at h; omega) (by omega) (by omega), Nat.log2_def x, if_pos (by omega)]; omega
theorem half_bitLen {n : Nat} (h : 2 ≤ n) (h2 : n ≤ 18446744073709551615) : 2 ^ (Lib.bitLen (n - 1) - 1) = half n := by
  rw [bitLen_log2 64 (n - 1) (by omega) (by omega) (by omega)]; rfl
def rootL (L : List (List UInt8)) : List UInt8 :=
  if h : L.length < 2 then (if L.length = 0 then sha [] else L.getD 0 [])
  else nodeL (rootL (L.take (half L.length))) (rootL (L.drop (half L.length)))
termination_by L.length
decreasing_by
  · have := half_lt (n := L.length) (by omega); simp; omega
  · have := half_lt (n := L.length) (by omega); have := half_pos L.length; simp; omega
theorem rootL_nil : rootL [] = sha [] := by rw [rootL]; simp
theorem rootL_one (x : List UInt8) : rootL [x] = x := by rw [rootL]; simp
theorem rootL_two {L : List (List UInt8)} (h : 2 ≤ L.length) : rootL L = nodeL (rootL (L.take (half L.length))) (rootL (L.drop (half L.length))) := by
  rw [rootL, dif_neg (by omega)]
theorem rootL_length (L : List (List UInt8)) (h : ∀ x ∈ L, x.length = 32) : (rootL L).length = 32 := by
  by_cases h2 : 2 ≤ L.length
  · rw [rootL_two h2]; exact nodeL_length _ _
  · match L, h2 with
    | [], _ => rw [rootL_nil]; exact sha_length _
    | [x], _ => rw [rootL_one]; exact h x (by simp)
    | _ :: _ :: _, h2 => simp at h2
def pathL (L : List (List UInt8)) (i : Nat) : List (List UInt8) :=
  if h : L.length < 2 then []
  else if i < half L.length then pathL (L.take (half L.length)) i ++ [rootL (L.drop (half L.length))]
  else pathL (L.drop (half L.length)) (i - half L.length) ++ [rootL (L.take (half L.length))]
termination_by L.length
decreasing_by
  · have := half_lt (n := L.length) (by omega); simp; omega
  · have := half_lt (n := L.length) (by omega); have := half_pos L.length; simp; omega
theorem pathL_few {L : List (List UInt8)} (h : L.length < 2) (i : Nat) : pathL L i = [] := by rw [pathL, dif_pos h]
theorem pathL_left {L : List (List UInt8)} (h : 2 ≤ L.length) {i : Nat} (hi : i < half L.length) : pathL L i = pathL (L.take (half L.length)) i ++ [rootL (L.drop (half L.length))] := by
  rw [pathL, dif_neg (by omega), if_pos hi]
theorem pathL_right {L : List (List UInt8)} (h : 2 ≤ L.length) {i : Nat} (hi : ¬ i < half L.length) : pathL L i = pathL (L.drop (half L.length)) (i - half L.length) ++ [rootL (L.take (half L.length))] := by
  rw [pathL, dif_neg (by omega), if_neg hi]
end Go.Proofs.Ytpohjldhbaalbaa
