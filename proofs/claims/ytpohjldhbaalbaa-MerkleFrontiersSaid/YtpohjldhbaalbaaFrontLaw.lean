/- Frontiers: the tops of a list, one leaf more, their root. No program in sight. -/
import Derived.Test.YtpohjldhbaalbaaClimbLaw
namespace Go.Proofs.Ytpohjldhbaalbaa
set_option linter.unusedVariables false
set_option linter.unusedSimpArgs false
set_option linter.unusedSectionVars false

/-- the tops of a list of less than 2^i leaves -/
def topsAt : Nat → Way → Way
  | 0, _ => []
  | i + 1, L => if 2 ^ i ≤ L.length then rootL (L.take (2 ^ i)) :: topsAt i (L.drop (2 ^ i)) else topsAt i L
theorem topsAt_nil : ∀ i, topsAt i [] = []
  | 0 => rfl
  | i + 1 => by
    have := Nat.two_pow_pos i
    rw [topsAt, if_neg (by simp), topsAt_nil i]
theorem topsAt_full (i : Nat) (L : Way) (h : L.length = 2 ^ i) : topsAt (i + 1) L = [rootL L] := by
  rw [topsAt, if_pos (by omega), List.take_of_length_le (by omega), List.drop_of_length_le (by omega), topsAt_nil]
theorem topsAt_up (i : Nat) (L : Way) (h : L.length < 2 ^ i) : topsAt (i + 1) L = topsAt i L := by
  rw [topsAt, if_neg (by omega)]
/-- one leaf more: n leaves so far -/
def carryL (T : Way) (n : Nat) (d : List UInt8) : Way :=
  if h : n % 2 = 1 then carryL T.dropLast (n / 2) (nodeL (sideL' T) d) else T ++ [d]
termination_by n
decreasing_by omega
  where sideL' (T : Way) : List UInt8 := T.getD (T.length - 1) []
theorem carryL_odd (T : Way) (n : Nat) (d : List UInt8) (h : n % 2 = 1) : carryL T n d = carryL T.dropLast (n / 2) (nodeL (T.getD (T.length - 1) []) d) := by
  rw [carryL, dif_pos h]; rfl
theorem carryL_even (T : Way) (n : Nat) (d : List UInt8) (h : n % 2 = 0) : carryL T n d = T ++ [d] := by
  rw [carryL, dif_neg (by omega)]
theorem rootL_join (i : Nat) (A C : Way) (x : List UInt8) (hA : A.length = 2 ^ i) (hC : C.length + 1 = 2 ^ i) : nodeL (rootL A) (rootL (C ++ [x])) = rootL (A ++ (C ++ [x])) := by
  have hp := Nat.two_pow_pos i
  have hl : (A ++ (C ++ [x])).length = 2 ^ i + 2 ^ i := by simp; omega
  have hh : half (A ++ (C ++ [x])).length = 2 ^ i := half_unique (by omega) (by omega)
  rw [rootL_two (by omega : 2 ≤ (A ++ (C ++ [x])).length), hh, ← hA, List.take_left, List.drop_left]
theorem carry_tops : ∀ (i : Nat) (B P : Way) (q : Nat) (x : List UInt8), B.length < 2 ^ i →
    (B.length + 1 = 2 ^ i → carryL (P ++ topsAt i B) (q * 2 ^ i + B.length) x = carryL P q (rootL (B ++ [x]))) ∧
    (B.length + 1 < 2 ^ i → carryL (P ++ topsAt i B) (q * 2 ^ i + B.length) x = P ++ topsAt i (B ++ [x]))
  | 0, B, P, q, x, h => by
    have hB : B = [] := List.eq_nil_of_length_eq_zero (by simpa using h)
    subst hB
    refine ⟨fun _ => ?_, fun h => by simp at h⟩
    simp [topsAt, rootL_one]
  | i + 1, B, P, q, x, h => by
    have hp := Nat.two_pow_pos i
    have e2 : 2 ^ (i + 1) = 2 * 2 ^ i := by rw [Nat.pow_succ]; omega
    by_cases hlt : B.length < 2 ^ i
    · have ih := carry_tops i B P (2 * q) x hlt
      have en : q * 2 ^ (i + 1) + B.length = 2 * q * 2 ^ i + B.length := by rw [e2, Nat.mul_comm 2 q, Nat.mul_assoc]
      refine ⟨fun h1 => by omega, fun h1 => ?_⟩
      rw [topsAt_up i B hlt, en]
      by_cases h2 : B.length + 1 = 2 ^ i
      · rw [ih.1 h2, carryL_even _ _ _ (by omega), topsAt_full i (B ++ [x]) (by simp; omega)]
      · rw [ih.2 (by omega), topsAt_up i (B ++ [x]) (by simp; omega)]
    · have hT : topsAt (i + 1) B = rootL (B.take (2 ^ i)) :: topsAt i (B.drop (2 ^ i)) := by rw [topsAt, if_pos (by omega)]
      have hC : (B.drop (2 ^ i)).length = B.length - 2 ^ i := by simp
      have ih := carry_tops i (B.drop (2 ^ i)) (P ++ [rootL (B.take (2 ^ i))]) (2 * q + 1) x (by omega)
      have en : q * 2 ^ (i + 1) + B.length = (2 * q + 1) * 2 ^ i + (B.drop (2 ^ i)).length := by
        rw [e2, hC, Nat.add_mul, Nat.mul_comm 2 q, Nat.mul_assoc]; omega
      have hBx : B.take (2 ^ i) ++ (B.drop (2 ^ i) ++ [x]) = B ++ [x] := by rw [← List.append_assoc, List.take_append_drop]
      have hdx : (B ++ [x]).drop (2 ^ i) = B.drop (2 ^ i) ++ [x] := by rw [List.drop_append_of_le_length (by omega)]
      have htx : (B ++ [x]).take (2 ^ i) = B.take (2 ^ i) := by rw [List.take_append_of_le_length (by omega)]
      have hap : P ++ rootL (B.take (2 ^ i)) :: topsAt i (B.drop (2 ^ i)) = (P ++ [rootL (B.take (2 ^ i))]) ++ topsAt i (B.drop (2 ^ i)) := by simp
      rw [hT, hap, en]
      refine ⟨fun h1 => ?_, fun h1 => ?_⟩
      · rw [ih.1 (by omega), carryL_odd _ _ _ (by omega), List.dropLast_concat, show (2 * q + 1) / 2 = q by omega]
        congr 1
        rw [show (P ++ [rootL (B.take (2 ^ i))]).length - 1 = P.length by simp]
        rw [show (P ++ [rootL (B.take (2 ^ i))]).getD P.length [] = rootL (B.take (2 ^ i)) by simp]
        rw [rootL_join i _ _ x (by simp; omega) (by omega), hBx]
      · rw [ih.2 (by omega), topsAt, if_pos (by simp; omega), htx, hdx]; simp
/-- the root of tops -/
def foldR : Way → List UInt8
  | [] => sha []
  | [d] => d
  | a :: b :: r => nodeL a (foldR (b :: r))
theorem topsAt_ne : ∀ (i : Nat) (L : Way), L.length < 2 ^ i → 0 < L.length → topsAt i L ≠ []
  | 0, L, h, h0 => by rw [Nat.pow_zero] at h; omega
  | i + 1, L, h, h0 => by
    rw [topsAt]
    by_cases hc : 2 ^ i ≤ L.length
    · rw [if_pos hc]; simp
    · rw [if_neg hc]; exact topsAt_ne i L (by omega) h0
theorem foldR_tops : ∀ (i : Nat) (L : Way), L.length < 2 ^ i → foldR (topsAt i L) = rootL L
  | 0, L, h => by
    have hB : L = [] := List.eq_nil_of_length_eq_zero (by simpa using h)
    subst hB
    rw [rootL_nil]; rfl
  | i + 1, L, h => by
    have e2 : 2 ^ (i + 1) = 2 * 2 ^ i := by rw [Nat.pow_succ]; omega
    have hp := Nat.two_pow_pos i
    by_cases hc : 2 ^ i ≤ L.length
    · by_cases he : L.length = 2 ^ i
      · rw [topsAt_full i L he]; rfl
      · rw [topsAt, if_pos hc]
        have hd : (L.drop (2 ^ i)).length = L.length - 2 ^ i := by simp
        have ih := foldR_tops i (L.drop (2 ^ i)) (by omega)
        have hne := topsAt_ne i (L.drop (2 ^ i)) (by omega) (by omega)
        have hh : half L.length = 2 ^ i := half_unique (by omega) (by omega)
        have hr := rootL_two (L := L) (by omega)
        rw [hh, ← ih] at hr
        rw [hr]
        match hm : topsAt i (L.drop (2 ^ i)), hne with
        | b :: r, _ => rfl
    · rw [topsAt_up i L (by omega)]; exact foldR_tops i L (by omega)
def topsL (L : Way) : Way := topsAt 63 L
theorem tops_more (L : Way) (x : List UInt8) (h : L.length + 1 < 2 ^ 63) : carryL (topsL L) L.length x = topsL (L ++ [x]) := by
  have := (carry_tops 63 L [] 0 x (by omega)).2 h
  rw [List.nil_append, List.nil_append, Nat.zero_mul, Nat.zero_add] at this
  exact this
theorem tops_root (L : Way) (h : L.length < 2 ^ 63) : foldR (topsL L) = rootL L := foldR_tops 63 L h
/-- how many 1s -/
def onesL (n : Nat) : Nat := if h : n = 0 then 0 else n % 2 + onesL (n / 2)
termination_by n
decreasing_by omega
theorem onesL_zero : onesL 0 = 0 := by rw [onesL]; simp
theorem onesL_pos {n : Nat} (h : n ≠ 0) : onesL n = n % 2 + onesL (n / 2) := by rw [onesL, dif_neg h]
theorem onesL_two (n : Nat) : onesL n = n % 2 + onesL (n / 2) := by
  by_cases h : n = 0
  · subst h; rw [onesL_zero]
  · exact onesL_pos h
theorem tops_ones : ∀ (i : Nat) (L : Way), L.length < 2 ^ i → (topsAt i L).length = onesL L.length := by
  have key : ∀ (i n : Nat), n < 2 ^ i → onesL (2 ^ i + n) = 1 + onesL n := by
    intro i
    induction i with
    | zero => intro n h; obtain rfl : n = 0 := by simpa using h
              rw [onesL_zero, onesL_two]; simp [onesL_zero]
    | succ i ih =>
      intro n h
      have e2 : 2 ^ (i + 1) = 2 * 2 ^ i := by rw [Nat.pow_succ]; omega
      rw [onesL_two, onesL_two n, show (2 ^ (i + 1) + n) / 2 = 2 ^ i + n / 2 by omega, ih (n / 2) (by omega)]; omega
  intro i
  induction i with
  | zero => intro L h; have h0 : L.length = 0 := by simpa using h
            rw [h0, onesL_zero]; rfl
  | succ i ih =>
    intro L h
    have e2 : 2 ^ (i + 1) = 2 * 2 ^ i := by rw [Nat.pow_succ]; omega
    by_cases hc : 2 ^ i ≤ L.length
    · rw [topsAt, if_pos hc, List.length_cons, ih _ (by simp; omega)]
      have := key i (L.length - 2 ^ i) (by omega)
      rw [show 2 ^ i + (L.length - 2 ^ i) = L.length by omega] at this
      simp at this ⊢
      omega
    · rw [topsAt_up i L (by omega)]; exact ih L (by omega)
theorem A32_rootTops : ∀ (i : Nat) (L : Way), (∀ x ∈ L, x.length = 32) → ∀ x ∈ topsAt i L, x.length = 32
  | 0, L, h, x, hx => by cases hx
  | i + 1, L, h, x, hx => by
    rw [topsAt] at hx
    by_cases hc : 2 ^ i ≤ L.length
    · rw [if_pos hc] at hx
      rcases List.mem_cons.1 hx with rfl | hx
      · exact rootL_length _ fun y hy => h y (List.mem_of_mem_take hy)
      · exact A32_rootTops i _ (fun y hy => h y (List.mem_of_mem_drop hy)) x hx
    · rw [if_neg hc] at hx; exact A32_rootTops i L h x hx
theorem carryL_32 : ∀ (n : Nat) (T : Way) (d : List UInt8), (∀ x ∈ T, x.length = 32) → d.length = 32 → ∀ x ∈ carryL T n d, x.length = 32 := by
  intro n
  induction n using Nat.strongRecOn with
  | _ n ih =>
    intro T d hT hd x hx
    by_cases h : n % 2 = 1
    · rw [carryL_odd _ _ _ h] at hx
      exact ih (n / 2) (by omega) _ _ (fun y hy => hT y (List.dropLast_subset _ hy)) (nodeL_length _ _) x hx
    · rw [carryL_even _ _ _ (by omega)] at hx
      rcases List.mem_append.1 hx with hx | hx
      · exact hT x hx
      · rw [List.mem_singleton.1 hx]; exact hd
theorem foldR_32 : ∀ (T : Way), (∀ x ∈ T, x.length = 32) → (foldR T).length = 32
  | [], _ => sha_length _
  | [d], h => h d (by simp)
  | a :: b :: r, h => nodeL_length _ _
end Go.Proofs.Ytpohjldhbaalbaa
