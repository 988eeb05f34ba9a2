/- Chains, digits and signatures over lists of bytes, with no program in sight. -/
import Derived.Test.YtfaekebglijebaaSha
namespace Go.Proofs.Ytfaekebglijebaa

def stepB (key : Nat) (c s : UInt8) (x : List UInt8) : List UInt8 := 2 :: (beBytes key 4 ++ ([c, s] ++ x))
def stepL (key : Nat) (c s : UInt8) (x : List UInt8) : List UInt8 := sha (stepB key c s x)
def secretL (seed : List UInt8) (key : Nat) (c : UInt8) : List UInt8 := sha (4 :: (seed ++ (beBytes key 4 ++ [c])))
theorem stepL_length (key : Nat) (c s : UInt8) (x : List UInt8) : (stepL key c s x).length = 32 := sha_length _
theorem secretL_length (seed : List UInt8) (key : Nat) (c : UInt8) : (secretL seed key c).length = 32 := sha_length _
/-- n steps up, from a height on -/
def climbL (key : Nat) (c : UInt8) : Nat → Nat → List UInt8 → List UInt8
  | 0, _, x => x
  | n + 1, at_, x => climbL key c n (at_ + 1) (stepL key c (UInt8.ofNat at_) x)
theorem climbL_add (key : Nat) (c : UInt8) : ∀ (n m at_ : Nat) (x : List UInt8), climbL key c (n + m) at_ x = climbL key c m (at_ + n) (climbL key c n at_ x)
  | 0, m, at_, x => by simp [climbL]
  | n + 1, m, at_, x => by
    rw [show n + 1 + m = (n + m) + 1 by omega]
    simp only [climbL]
    rw [climbL_add key c n m (at_ + 1), show at_ + 1 + n = at_ + (n + 1) by omega]
theorem climbL_snoc (key : Nat) (c : UInt8) (n at_ : Nat) (x : List UInt8) : climbL key c (n + 1) at_ x = stepL key c (UInt8.ofNat (at_ + n)) (climbL key c n at_ x) := by
  rw [climbL_add key c n 1]; rfl
theorem climbL_length (key : Nat) (c : UInt8) : ∀ (n at_ : Nat) (x : List UInt8), x.length = 32 → (climbL key c n at_ x).length = 32
  | 0, _, _, h => h
  | n + 1, at_, x, _ => climbL_length key c n (at_ + 1) _ (stepL_length _ _ _ _)

/-! ### digits -/
def nib (m : List UInt8) (i : Nat) : Nat := if i % 2 = 0 then (m.getD (i / 2) 0).toNat / 16 else (m.getD (i / 2) 0).toNat % 16
theorem nib_lt (m : List UInt8) (i : Nat) : nib m i < 16 := by
  unfold nib
  have := (m.getD (i / 2) 0).toNat_lt
  split <;> omega
def leftL (m : List UInt8) : Nat → Nat
  | 0 => 0
  | k + 1 => leftL m k + (15 - nib m k)
theorem leftL_le (m : List UInt8) : ∀ k, leftL m k ≤ 15 * k
  | 0 => by simp [leftL]
  | k + 1 => by have := leftL_le m k; simp only [leftL]; omega
def digN67 (m : List UInt8) (i : Nat) : Nat := if i < 64 then nib m i else if i = 64 then leftL m 64 / 256 else if i = 65 then leftL m 64 / 16 % 16 else leftL m 64 % 16
theorem digN67_lt (m : List UInt8) (i : Nat) : digN67 m i < 16 := by
  unfold digN67
  have := nib_lt m i
  have := leftL_le m 64
  (repeat' split) <;> omega
/-- the heights to which a sum's signature goes -/
def digitsL (m : List UInt8) : List UInt8 := (List.range 67).map fun i => UInt8.ofNat (digN67 m i)
theorem digitsL_length (m : List UInt8) : (digitsL m).length = 67 := by simp [digitsL]
theorem digitsL_get (m : List UInt8) (i : Nat) (h : i < 67) : (digitsL m).getD i 0 = UInt8.ofNat (digN67 m i) := by
  simp [digitsL, List.getD_eq_getElem?_getD, List.getElem?_map, h]
theorem digit_toNat (m : List UInt8) (i : Nat) : (UInt8.ofNat (digN67 m i)).toNat = digN67 m i := by
  rw [UInt8.toNat_ofNat']; have := digN67_lt m i; omega

theorem leftL_mono (a b : List UInt8) : ∀ k, (∀ i, i < k → nib b i ≤ nib a i) → leftL a k ≤ leftL b k
  | 0, _ => by simp [leftL]
  | k + 1, h => by
    have h1 := leftL_mono a b k (fun i hi => h i (by omega))
    have h2 := h k (by omega)
    simp only [leftL]; omega
theorem leftL_lt (a b : List UInt8) : ∀ k, (∀ i, i < k → nib b i ≤ nib a i) → (∃ i, i < k ∧ nib b i < nib a i) → leftL a k < leftL b k
  | 0, _, ⟨i, hi, _⟩ => by omega
  | k + 1, h, ⟨i, hi, hlt⟩ => by
    have ha := nib_lt a k
    simp only [leftL]
    by_cases hik : i = k
    · subst hik
      have := leftL_mono a b i (fun j hj => h j (by omega))
      omega
    · have h1 := leftL_lt a b k (fun j hj => h j (by omega)) ⟨i, by omega, hlt⟩
      have h2 := h k (by omega)
      omega
theorem nib_inj (a b : List UInt8) (ha : a.length = 32) (hb : b.length = 32) (h : ∀ i, i < 64 → nib a i = nib b i) : a = b := by
  refine List.ext_getElem (by rw [ha, hb]) fun k h1 h2 => ?_
  have e0 := h (2 * k) (by omega)
  have e1 := h (2 * k + 1) (by omega)
  unfold nib at e0 e1
  rw [if_pos (by omega), if_pos (by omega), show 2 * k / 2 = k by omega] at e0
  rw [if_neg (by omega), if_neg (by omega), show (2 * k + 1) / 2 = k by omega] at e1
  simp only [List.getD_eq_getElem?_getD, List.getElem?_eq_getElem h1, List.getElem?_eq_getElem h2, Option.getD_some] at e0 e1
  exact UInt8.toNat_inj.1 (by omega)
theorem digits_lower (a b : List UInt8) (ha : a.length = 32) (hb : b.length = 32) (h : a ≠ b) : ∃ i, i < 67 ∧ digN67 a i < digN67 b i := by
  refine Classical.byContradiction fun hno => ?_
  have hall : ∀ i, i < 67 → digN67 b i ≤ digN67 a i := fun i hi => Nat.not_lt.1 fun hlt => hno ⟨i, hi, hlt⟩
  have hn : ∀ i, i < 64 → nib b i ≤ nib a i := fun i hi => by
    have := hall i (by omega)
    unfold digN67 at this
    rwa [if_pos hi, if_pos hi] at this
  have hex : ∃ i, i < 64 ∧ nib b i < nib a i := by
    refine Classical.byContradiction fun hno2 => h (nib_inj a b ha hb fun i hi => ?_)
    have h1 := hn i hi
    have h2 : ¬ nib b i < nib a i := fun hlt => hno2 ⟨i, hi, hlt⟩
    omega
  have hl := leftL_lt a b 64 hn hex
  have b64 := hall 64 (by omega)
  have b65 := hall 65 (by omega)
  have b66 := hall 66 (by omega)
  unfold digN67 at b64 b65 b66
  simp at b64 b65 b66
  omega
theorem digits_self (a : List UInt8) (i : Nat) : ¬ digN67 a i < digN67 a i := by omega
end Go.Proofs.Ytfaekebglijebaa
