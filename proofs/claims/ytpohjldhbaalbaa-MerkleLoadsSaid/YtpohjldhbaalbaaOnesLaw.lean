/- How many 1s a number of 64 bits has, as math/bits counts them. No program in sight. -/
import Derived.Test.YtpohjldhbaalbaaFrontLaw
namespace Go.Proofs.Ytpohjldhbaalbaa
set_option linter.unusedVariables false
set_option linter.unusedSimpArgs false
set_option linter.unusedSectionVars false

theorem and_split (k a b c d : Nat) (hb : b < 2 ^ k) (hd : d < 2 ^ k) : (2 ^ k * a + b) &&& (2 ^ k * c + d) = 2 ^ k * (a &&& c) + (b &&& d) := by
  have hp := Nat.two_pow_pos k
  have h1 : ((2 ^ k * a + b) &&& (2 ^ k * c + d)) / 2 ^ k = a &&& c := by
    rw [Nat.and_div_two_pow, Nat.mul_add_div hp, Nat.mul_add_div hp, Nat.div_eq_of_lt hb, Nat.div_eq_of_lt hd, Nat.add_zero, Nat.add_zero]
  have h2 : ((2 ^ k * a + b) &&& (2 ^ k * c + d)) % 2 ^ k = b &&& d := by
    rw [Nat.and_mod_two_pow, Nat.mul_add_mod, Nat.mul_add_mod, Nat.mod_eq_of_lt hb, Nat.mod_eq_of_lt hd]
  have := Nat.div_add_mod ((2 ^ k * a + b) &&& (2 ^ k * c + d)) (2 ^ k)
  rw [h1, h2] at this
  exact this.symm
/-- the sum of n digits -/
def dsum (B : Nat) : Nat → Nat → Nat
  | 0, _ => 0
  | n + 1, x => x % B + dsum B n (x / B)
theorem ones_dsum : ∀ (n x : Nat), x < 2 ^ n → onesL x = dsum 2 n x
  | 0, x, h => by obtain rfl : x = 0 := by simpa using h
                  rw [onesL_zero]; rfl
  | n + 1, x, h => by
    rw [onesL_two, dsum, ones_dsum n (x / 2) (by rw [Nat.pow_succ] at h; omega)]
def m1 : Nat → Nat | 0 => 0 | n + 1 => 4 * m1 n + 1
def m2 : Nat → Nat | 0 => 0 | n + 1 => 16 * m2 n + 3
def m3 : Nat → Nat | 0 => 0 | n + 1 => 256 * m3 n + 15
def s1 : Nat → Nat → Nat | 0, _ => 0 | n + 1, x => 4 * s1 n (x / 4) + (x / 2 % 2 + x % 2)
def s2 : Nat → Nat → Nat | 0, _ => 0 | n + 1, x => 16 * s2 n (x / 16) + (x / 4 % 4 + x % 4)
def s3 : Nat → Nat → Nat | 0, _ => 0 | n + 1, x => 256 * s3 n (x / 256) + (x / 16 % 16 + x % 16)
theorem step1 : ∀ (n x : Nat), (x / 2 &&& m1 n) + (x &&& m1 n) = s1 n x
  | 0, x => by simp [m1, s1]
  | n + 1, x => by
    have ih := step1 n (x / 4)
    have e1 : x / 2 = 2 ^ 2 * (x / 4 / 2) + (x / 2 % 4) := by omega
    have e2 : x = 2 ^ 2 * (x / 4) + x % 4 := by omega
    have a1 : (x / 2 &&& m1 (n + 1)) = 4 * (x / 4 / 2 &&& m1 n) + (x / 2 % 4 &&& 1) := by
      conv => lhs; rw [e1]
      exact and_split 2 _ _ (m1 n) 1 (by omega) (by omega)
    have a2 : (x &&& m1 (n + 1)) = 4 * (x / 4 &&& m1 n) + (x % 4 &&& 1) := by
      conv => lhs; rw [e2]
      exact and_split 2 _ _ (m1 n) 1 (by omega) (by omega)
    rw [a1, a2, s1, ← ih, Nat.and_one_is_mod, Nat.and_one_is_mod]; omega
theorem step2 : ∀ (n x : Nat), (x / 4 &&& m2 n) + (x &&& m2 n) = s2 n x
  | 0, x => by simp [m2, s2]
  | n + 1, x => by
    have ih := step2 n (x / 16)
    have e1 : x / 4 = 2 ^ 4 * (x / 16 / 4) + (x / 4 % 16) := by omega
    have e2 : x = 2 ^ 4 * (x / 16) + x % 16 := by omega
    have a1 : (x / 4 &&& m2 (n + 1)) = 16 * (x / 16 / 4 &&& m2 n) + (x / 4 % 16 &&& 3) := by
      conv => lhs; rw [e1]
      exact and_split 4 _ _ (m2 n) 3 (by omega) (by omega)
    have a2 : (x &&& m2 (n + 1)) = 16 * (x / 16 &&& m2 n) + (x % 16 &&& 3) := by
      conv => lhs; rw [e2]
      exact and_split 4 _ _ (m2 n) 3 (by omega) (by omega)
    have h3 : ∀ y : Nat, y &&& 3 = y % 4 := fun y => Nat.and_two_pow_sub_one_eq_mod y 2
    rw [a1, a2, s2, ← ih, h3, h3]; omega
theorem digs2 : ∀ (n x j : Nat), s2 n x / 16 ^ j % 16 ≤ 6
  | 0, x, j => by simp [s2]
  | n + 1, x, 0 => by simp only [s2, Nat.pow_zero, Nat.div_one]; omega
  | n + 1, x, j + 1 => by
    have ih := digs2 n (x / 16) j
    rw [s2, Nat.pow_succ, Nat.mul_comm (16 ^ j), ← Nat.div_div_eq_div_mul, show (16 * s2 n (x / 16) + (x / 4 % 4 + x % 4)) / 16 = s2 n (x / 16) by omega]; exact ih
theorem step3 : ∀ (n x : Nat), (∀ j, x / 16 ^ j % 16 ≤ 6) → (x / 16 + x) &&& m3 n = s3 n x
  | 0, x, _ => by simp [m3, s3]
  | n + 1, x, h => by
    have ih := step3 n (x / 256) (fun j => by have := h (j + 2); rw [Nat.pow_add, Nat.mul_comm, ← Nat.div_div_eq_div_mul] at this; exact this)
    have h0 : x % 16 ≤ 6 := by simpa using h 0
    have h1 : x / 16 % 16 ≤ 6 := by simpa using h 1
    have h2 : x / 256 % 16 ≤ 6 := by simpa using h 2
    have e1 : x / 16 + x = 2 ^ 8 * (x / 256 / 16 + x / 256) + (16 * (x / 256 % 16) + x % 256 / 16 + x % 256) := by omega
    have a1 : (x / 16 + x) &&& m3 (n + 1) = 256 * ((x / 256 / 16 + x / 256) &&& m3 n) + ((16 * (x / 256 % 16) + x % 256 / 16 + x % 256) &&& 15) := by
      conv => lhs; rw [e1]
      exact and_split 8 _ _ (m3 n) 15 (by omega) (by omega)
    have h3 : ∀ y : Nat, y &&& 15 = y % 16 := fun y => Nat.and_two_pow_sub_one_eq_mod y 4
    rw [a1, s3, ih, h3]; omega
set_option maxHeartbeats 400000 in
theorem d1 : ∀ (n x : Nat), dsum 4 n (s1 n x) = dsum 2 (2 * n) x
  | 0, x => rfl
  | n + 1, x => by
    have ih := d1 n (x / 4)
    rw [show 2 * (n + 1) = 2 * n + 1 + 1 by omega, dsum, dsum, dsum, s1, show (4 * s1 n (x / 4) + (x / 2 % 2 + x % 2)) / 4 = s1 n (x / 4) by omega, ih]
    first | rw [show x / 2 / 2 = x / 4 by omega] | rw [show x / 4 / 4 = x / 16 by omega] | rw [show x / 16 / 16 = x / 256 by omega]
    omega
theorem d2 : ∀ (n x : Nat), dsum 16 n (s2 n x) = dsum 4 (2 * n) x
  | 0, x => rfl
  | n + 1, x => by
    have ih := d2 n (x / 16)
    rw [show 2 * (n + 1) = 2 * n + 1 + 1 by omega, dsum, dsum, dsum, s2, show (16 * s2 n (x / 16) + (x / 4 % 4 + x % 4)) / 16 = s2 n (x / 16) by omega, ih]
    first | rw [show x / 2 / 2 = x / 4 by omega] | rw [show x / 4 / 4 = x / 16 by omega] | rw [show x / 16 / 16 = x / 256 by omega]
    omega
theorem d3 : ∀ (n x : Nat), dsum 256 n (s3 n x) = dsum 16 (2 * n) x
  | 0, x => rfl
  | n + 1, x => by
    have ih := d3 n (x / 256)
    rw [show 2 * (n + 1) = 2 * n + 1 + 1 by omega, dsum, dsum, dsum, s3, show (256 * s3 n (x / 256) + (x / 16 % 16 + x % 16)) / 256 = s3 n (x / 256) by omega, ih]
    first | rw [show x / 2 / 2 = x / 4 by omega] | rw [show x / 4 / 4 = x / 16 by omega] | rw [show x / 16 / 16 = x / 256 by omega]
    omega
theorem digs3 : ∀ (n x : Nat), (∀ j, x / 16 ^ j % 16 ≤ 6) → ∀ j, s3 n x / 256 ^ j % 256 ≤ 12
  | 0, x, _, j => by simp [s3]
  | n + 1, x, h, 0 => by
    have h0 : x % 16 ≤ 6 := by simpa using h 0
    have h1 : x / 16 % 16 ≤ 6 := by simpa using h 1
    simp only [s3, Nat.pow_zero, Nat.div_one]; omega
  | n + 1, x, h, j + 1 => by
    have ih := digs3 n (x / 256) (fun j => by have := h (j + 2); rw [Nat.pow_add, Nat.mul_comm, ← Nat.div_div_eq_div_mul] at this; exact this) j
    rw [s3, Nat.pow_succ, Nat.mul_comm (256 ^ j), ← Nat.div_div_eq_div_mul, show (256 * s3 n (x / 256) + (x / 16 % 16 + x % 16)) / 256 = s3 n (x / 256) by omega]; exact ih
theorem s3_lt : ∀ (n x : Nat), s3 n x < 256 ^ n
  | 0, x => by simp [s3]
  | n + 1, x => by have := s3_lt n (x / 256); rw [s3, Nat.pow_succ]; omega
/-- the last steps: the digits are added up -/
def num : List Nat → Nat
  | [] => 0
  | a :: l => a + 256 * num l
def addL : List Nat → List Nat → List Nat
  | [], m => m
  | l, [] => l
  | a :: l, b :: m => (a + b) :: addL l m
theorem num_add : ∀ (l m : List Nat), num (addL l m) = num l + num m
  | [], m => by simp [addL, num]
  | a :: l, [] => by simp [addL, num]
  | a :: l, b :: m => by simp only [addL, num, num_add l m]; omega
theorem num_div (a : Nat) (l : List Nat) (h : a ≤ 255) : num (a :: l) / 256 = num l := by simp only [num]; omega
theorem num_lt : ∀ (l : List Nat), (∀ a ∈ l, a ≤ 255) → num l < 256 ^ l.length
  | [], _ => by simp [num]
  | a :: l, h => by
    have h1 := num_lt l (fun b hb => h b (by simp [hb]))
    have h2 := h a (by simp)
    simp only [num, List.length_cons, Nat.pow_succ]; omega
theorem num_lt2 : ∀ (l : List Nat), (∀ a ∈ l, a ≤ 127) → 2 * num l < 256 ^ l.length
  | [], _ => by simp [num]
  | a :: l, h => by
    have h1 := num_lt2 l (fun b hb => h b (by simp [hb]))
    have h2 := h a (by simp)
    simp only [num, List.length_cons, Nat.pow_succ]; omega
theorem div256 (x : Nat) : x / 65536 = x / 256 / 256 := by omega
theorem div256' (x : Nat) : x / 4294967296 = x / 256 / 256 / 256 / 256 := by omega
theorem step4 (c0 c1 c2 c3 c4 c5 c6 c7 c x1 x2 : Nat) (g0 : c0 ≤ 12) (g1 : c1 ≤ 12) (g2 : c2 ≤ 12) (g3 : c3 ≤ 12) (g4 : c4 ≤ 12) (g5 : c5 ≤ 12) (g6 : c6 ≤ 12) (g7 : c7 ≤ 12)
    (hd : c = num [c0, c1, c2, c3, c4, c5, c6, c7])
    (h1 : x1 = c + c / 256) (h2 : x2 = x1 + x1 / 65536) :
    x1 < 18446744073709551616 ∧ x2 < 18446744073709551616 ∧ 2 * (x2 + x2 / 4294967296) < 18446744073709551616 ∧ (x2 + x2 / 4294967296) % 128 = c0 + c1 + c2 + c3 + c4 + c5 + c6 + c7 := by
  have a0 : c / 256 = num [c1, c2, c3, c4, c5, c6, c7] := by rw [hd]; exact num_div _ _ (by omega)
  rw [a0, hd, ← num_add] at h1
  clear a0 hd
  have a1 : x1 / 65536 = num [c2 + c3, c3 + c4, c4 + c5, c5 + c6, c6 + c7, c7] := by
    rw [div256, h1]; simp only [addL]; rw [num_div _ _ (by omega), num_div _ _ (by omega)]
  rw [a1] at h2
  have l1 : x1 < 256 ^ 8 := by
    rw [h1]; refine num_lt _ ?_
    simp only [addL, List.mem_cons, List.not_mem_nil, or_false]
    rintro a (rfl | rfl | rfl | rfl | rfl | rfl | rfl | rfl) <;> omega
  rw [h1, ← num_add] at h2
  clear a1 h1
  have a2 : x2 / 4294967296 = num [c4 + c5 + (c6 + c7), c5 + c6 + c7, c6 + c7, c7] := by
    rw [div256', h2]; simp only [addL]; rw [num_div _ _ (by omega), num_div _ _ (by omega), num_div _ _ (by omega), num_div _ _ (by omega)]
  have l2 : x2 < 256 ^ 8 := by
    rw [h2]; refine num_lt _ ?_
    simp only [addL, List.mem_cons, List.not_mem_nil, or_false]
    rintro a (rfl | rfl | rfl | rfl | rfl | rfl | rfl | rfl) <;> omega
  have l3 : 2 * (x2 + x2 / 4294967296) < 256 ^ 8 := by
    rw [a2, h2, ← num_add]; refine num_lt2 _ ?_
    simp only [addL, List.mem_cons, List.not_mem_nil, or_false]
    rintro a (rfl | rfl | rfl | rfl | rfl | rfl | rfl | rfl) <;> omega
  have l4 : (x2 + x2 / 4294967296) % 128 = c0 + c1 + c2 + c3 + c4 + c5 + c6 + c7 := by
    rw [a2, h2, ← num_add]; simp only [addL]
    rw [num]
    generalize num _ = z
    omega
  exact ⟨l1, l2, l3, l4⟩
theorem byte_of (c j : Nat) (h : ∀ j, c / 256 ^ j % 256 ≤ 12) : c / 256 ^ j % 256 ≤ 12 := h j
theorem bytes8 (c : Nat) (hc : c < 256 ^ 8) (h : ∀ j, c / 256 ^ j % 256 ≤ 12) : ∃ c0 c1 c2 c3 c4 c5 c6 c7, c0 ≤ 12 ∧ c1 ≤ 12 ∧ c2 ≤ 12 ∧ c3 ≤ 12 ∧ c4 ≤ 12 ∧ c5 ≤ 12 ∧ c6 ≤ 12 ∧ c7 ≤ 12 ∧
    c = num [c0, c1, c2, c3, c4, c5, c6, c7] ∧ dsum 256 8 c = c0 + c1 + c2 + c3 + c4 + c5 + c6 + c7 := by
  have key : ∀ (n c : Nat), c < 256 ^ (n + 1) → (∀ j, c / 256 ^ j % 256 ≤ 12) → ∃ a d, a ≤ 12 ∧ d < 256 ^ n ∧ (∀ j, d / 256 ^ j % 256 ≤ 12) ∧ c = a + 256 * d ∧ dsum 256 (n + 1) c = a + dsum 256 n d := by
    intro n c hc h
    refine ⟨c % 256, c / 256, by simpa using h 0, ?_, fun j => ?_, by omega, rfl⟩
    · rw [Nat.pow_succ] at hc; exact Nat.div_lt_of_lt_mul (by rw [Nat.mul_comm]; exact hc)
    · have := h (j + 1); rw [Nat.pow_succ, Nat.mul_comm, ← Nat.div_div_eq_div_mul] at this; exact this
  obtain ⟨c0, d1, g0, l1, h1, e1, s1⟩ := key 7 c hc h
  obtain ⟨c1, d2, g1, l2, h2, e2, s2⟩ := key 6 d1 l1 h1
  obtain ⟨c2, d3, g2, l3, h3, e3, s3⟩ := key 5 d2 l2 h2
  obtain ⟨c3, d4, g3, l4, h4, e4, s4⟩ := key 4 d3 l3 h3
  obtain ⟨c4, d5, g4, l5, h5, e5, s5⟩ := key 3 d4 l4 h4
  obtain ⟨c5, d6, g5, l6, h6, e6, s6⟩ := key 2 d5 l5 h5
  obtain ⟨c6, d7, g6, l7, h7, e7, s7⟩ := key 1 d6 l6 h6
  obtain ⟨c7, d8, g7, l8, h8, e8, s8⟩ := key 0 d7 l7 h7
  have hd8 : d8 = 0 := by rw [Nat.pow_zero] at l8; omega
  subst hd8
  have z : dsum 256 0 0 = 0 := rfl
  refine ⟨c0, c1, c2, c3, c4, c5, c6, c7, g0, g1, g2, g3, g4, g5, g6, g7, ?_, ?_⟩
  · rw [e1, e2, e3, e4, e5, e6, e7, e8]; rfl
  · rw [s1, s2, s3, s4, s5, s6, s7, s8, z]; omega
theorem m1_32 : m1 32 = 0x5555555555555555 := by decide +kernel
theorem m2_16 : m2 16 = 0x3333333333333333 := by decide +kernel
theorem m3_8 : m3 8 = 0x0f0f0f0f0f0f0f0f := by decide +kernel
def swarC (x : Nat) : Nat := s3 8 (s2 16 (s1 32 x))
theorem swar_end (x : Nat) (hx : x < 2 ^ 64) : dsum 256 8 (swarC x) = onesL x := by
  unfold swarC
  rw [d3 8, d2 16, d1 32, ones_dsum 64 x hx]
theorem s1_lt : ∀ (n x : Nat), s1 n x < 4 ^ n
  | 0, x => by simp [s1]
  | n + 1, x => by have := s1_lt n (x / 4); rw [s1, Nat.pow_succ]; omega
theorem s2_lt : ∀ (n x : Nat), s2 n x < 16 ^ n
  | 0, x => by simp [s2]
  | n + 1, x => by have := s2_lt n (x / 16); rw [s2, Nat.pow_succ]; omega
theorem and127 (x : Nat) : x &&& 127 = x % 128 := Nat.and_two_pow_sub_one_eq_mod x 7
theorem swar (x : Nat) (hx : x < 2 ^ 64) : ∃ a1 a2 y b1 b2 z u c x1 x2 x3 : Nat, (x / 2 &&& 6148914691236517205) = a1 ∧ (x &&& 6148914691236517205) = a2 ∧ a1 + a2 = y ∧ y < 2 ^ 64 ∧ (y / 4 &&& 3689348814741910323) = b1 ∧ (y &&& 3689348814741910323) = b2 ∧ b1 + b2 = z ∧ z < 2 ^ 64 ∧
    z / 16 + z = u ∧ u < 2 ^ 64 ∧ (u &&& 1085102592571150095) = c ∧ c + c / 256 = x1 ∧ x1 < 2 ^ 64 ∧ x1 + x1 / 65536 = x2 ∧ x2 < 2 ^ 64 ∧ x2 + x2 / 4294967296 = x3 ∧ x3 < 2 ^ 63 ∧ (x3 &&& 127) = onesL x := by
  have h1 := step1 32 x
  have h2 := step2 16 (s1 32 x)
  have d2' := digs2 16 (s1 32 x)
  have h3 := step3 8 (s2 16 (s1 32 x)) d2'
  have b1 := s1_lt 32 x
  have b2 := s2_lt 16 (s1 32 x)
  have b3 := s3_lt 8 (s2 16 (s1 32 x))
  obtain ⟨c0, c1, c2, c3, c4, c5, c6, c7, g0, g1, g2, g3, g4, g5, g6, g7, hd, hs⟩ := bytes8 _ b3 (digs3 8 _ d2')
  have h4 := step4 c0 c1 c2 c3 c4 c5 c6 c7 _ _ _ g0 g1 g2 g3 g4 g5 g6 g7 hd rfl rfl
  have he := swar_end x hx
  unfold swarC at he
  rw [m1_32] at h1
  rw [m2_16] at h2
  rw [m3_8] at h3
  rw [← hs, he] at h4
  have hb3 : s2 16 (s1 32 x) / 16 + s2 16 (s1 32 x) < 2 ^ 64 := by
    have t := d2' 15
    have e : (256 : Nat) ^ 8 = 16 ^ 16 := by decide
    have e16 : (16 : Nat) ^ 16 = 18446744073709551616 := by decide
    have e15 : (16 : Nat) ^ 15 = 1152921504606846976 := by decide
    rw [e16] at b2
    rw [e15] at t
    have e64 : (2 : Nat) ^ 64 = 18446744073709551616 := by decide
    rw [e64]
    omega
  have p1 : (4 : Nat) ^ 32 = 2 ^ 64 := by decide
  have p2 : (16 : Nat) ^ 16 = 2 ^ 64 := by decide
  have e64 : (2 : Nat) ^ 64 = 18446744073709551616 := by decide
  have e63 : (2 : Nat) ^ 63 = 9223372036854775808 := by decide
  refine ⟨_, _, _, _, _, _, _, _, _, _, _, rfl, rfl, h1, by rw [← p1]; exact b1, rfl, rfl, h2, by rw [← p2]; exact b2, rfl, hb3, h3, rfl, by rw [e64]; exact h4.1, rfl, by rw [e64]; exact h4.2.1, rfl, by rw [e63]; have := h4.2.2.1; omega, by rw [and127]; exact h4.2.2.2⟩
theorem onesL_le : ∀ (n x : Nat), x < 2 ^ n → onesL x ≤ n
  | 0, x, h => by obtain rfl : x = 0 := by simpa using h
                  rw [onesL_zero]; exact Nat.le_refl _
  | n + 1, x, h => by have := onesL_le n (x / 2) (by rw [Nat.pow_succ] at h; omega); rw [onesL_two]; omega
end Go.Proofs.Ytpohjldhbaalbaa
