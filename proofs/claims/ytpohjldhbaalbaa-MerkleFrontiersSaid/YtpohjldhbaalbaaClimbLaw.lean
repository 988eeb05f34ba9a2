/- A way climbed from the bottom up, and from the top down: the same. No program in sight. -/
import Derived.Test.YtpohjldhbaalbaaMerkleLaw
namespace Go.Proofs.Ytpohjldhbaalbaa
set_option linter.unusedVariables false
set_option linter.unusedSimpArgs false
set_option linter.unusedSectionVars false

abbrev Way := List (List UInt8)
def climbR (last i : Nat) (d : List UInt8) (way : Way) : Option (List UInt8 × Way) :=
  if h : last = 0 then some (d, way)
  else if i % 2 = 1 ∨ i < last then
    match way with
    | [] => none
    | x :: r => climbR (last / 2) (i / 2) (if i % 2 = 1 then nodeL x d else nodeL d x) r
  else climbR (last / 2) (i / 2) d way
termination_by last
decreasing_by all_goals omega
theorem climbR_zero (i : Nat) (d : List UInt8) (way : Way) : climbR 0 i d way = some (d, way) := by rw [climbR.eq_def]; simp
theorem climbR_none {last i : Nat} (d : List UInt8) (h : last ≠ 0) (hc : i % 2 = 1 ∨ i < last) : climbR last i d [] = none := by rw [climbR.eq_def, dif_neg h, if_pos hc]
theorem climbR_take {last i : Nat} (d x : List UInt8) (r : Way) (h : last ≠ 0) (hc : i % 2 = 1 ∨ i < last) : climbR last i d (x :: r) = climbR (last / 2) (i / 2) (if i % 2 = 1 then nodeL x d else nodeL d x) r := by
  rw [climbR.eq_def, dif_neg h, if_pos hc]
theorem climbR_pass {last i : Nat} (d : List UInt8) (way : Way) (h : last ≠ 0) (hc : ¬ (i % 2 = 1 ∨ i < last)) : climbR last i d way = climbR (last / 2) (i / 2) d way := by
  rw [climbR.eq_def, dif_neg h, if_neg hc]
/-- one step more, on the right or on the left -/
def onR (o : Option (List UInt8 × Way)) : Option (List UInt8 × Way) :=
  match o with
  | some (d, x :: r) => some (nodeL d x, r)
  | _ => none
def onL (o : Option (List UInt8 × Way)) : Option (List UInt8 × Way) :=
  match o with
  | some (d, x :: r) => some (nodeL x d, r)
  | _ => none
theorem climb_left : ∀ (j last i : Nat) (d : List UInt8) (way : Way), i < 2 ^ j → 2 ^ j ≤ last → last < 2 ^ (j + 1) → climbR last i d way = onR (climbR (2 ^ j - 1) i d way)
  | 0, last, i, d, way, h1, h2, h3 => by
    obtain rfl : i = 0 := by simpa using h1
    obtain rfl : last = 1 := by simp at h2 h3; omega
    rw [show 2 ^ 0 - 1 = 0 from rfl, climbR_zero]
    cases way with
    | nil => rw [climbR_none d (by omega) (by omega)]; rfl
    | cons x r => rw [climbR_take d x r (by omega) (by omega), climbR_zero]; rfl
  | j + 1, last, i, d, way, h1, h2, h3 => by
    have hp := Nat.two_pow_pos j
    have e1 : 2 ^ (j + 1) = 2 * 2 ^ j := by rw [Nat.pow_succ]; omega
    have e2 : 2 ^ (j + 1 + 1) = 4 * 2 ^ j := by rw [Nat.pow_succ, e1]; omega
    rw [e1] at h1 h2
    rw [e2] at h3
    have hin : i % 2 = 1 ∨ i < 2 ^ (j + 1) - 1 := by rw [e1]; omega
    cases way with
    | nil => rw [climbR_none d (by omega) (by omega), climbR_none d (by rw [e1]; omega) hin]; rfl
    | cons x r =>
      rw [climbR_take d x r (by omega) (by omega), climbR_take d x r (by rw [e1]; omega) hin, show (2 ^ (j + 1) - 1) / 2 = 2 ^ j - 1 by rw [e1]; omega]
      exact climb_left j (last / 2) (i / 2) _ r (by omega) (by omega) (by rw [e1]; omega)
theorem climb_right : ∀ (j last i : Nat) (d : List UInt8) (way : Way), i ≤ last → last < 2 ^ j → climbR (2 ^ j + last) (2 ^ j + i) d way = onL (climbR last i d way)
  | 0, last, i, d, way, h1, h2 => by
    obtain rfl : last = 0 := by simpa using h2
    obtain rfl : i = 0 := by omega
    rw [climbR_zero]
    cases way with
    | nil => rw [climbR_none d (by simp) (by simp)]; rfl
    | cons x r => rw [climbR_take d x r (by simp) (by simp), show (2 ^ 0 + 0) / 2 = 0 from rfl, climbR_zero]; rfl
  | j + 1, last, i, d, way, h1, h2 => by
    have hp := Nat.two_pow_pos j
    have e1 : 2 ^ (j + 1) = 2 * 2 ^ j := by rw [Nat.pow_succ]; omega
    rw [e1] at h2 ⊢
    have hl : (2 * 2 ^ j + last) / 2 = 2 ^ j + last / 2 := by omega
    have hi : (2 * 2 ^ j + i) / 2 = 2 ^ j + i / 2 := by omega
    have hm : (2 * 2 ^ j + i) % 2 = i % 2 := by omega
    have ih := fun d way => climb_right j (last / 2) (i / 2) d way (by omega) (by omega)
    by_cases h0 : last = 0
    · subst h0
      obtain rfl : i = 0 := by omega
      rw [climbR_pass d way (by omega) (by omega), hl, ih d way, show 0 / 2 = 0 from rfl]
    · by_cases hc : i % 2 = 1 ∨ i < last
      · cases way with
        | nil => rw [climbR_none d (by omega) (by omega), climbR_none d h0 hc]; rfl
        | cons x r => rw [climbR_take d x r (by omega) (by omega), climbR_take d x r h0 hc, hl, hi, hm, ih]
      · rw [climbR_pass d way (by omega) (by omega), climbR_pass d way h0 hc, hl, hi, ih]

/-- from the top down -/
def upO (n i : Nat) (d : List UInt8) (way : Way) : Option (List UInt8 × Way) :=
  if h : n < 2 then some (d, way)
  else if i < half n then onR (upO (half n) i d way)
  else onL (upO (n - half n) (i - half n) d way)
termination_by n
decreasing_by
  · exact half_lt (by omega)
  · have := half_pos n; omega
theorem upO_one {n : Nat} (h : n < 2) (i : Nat) (d : List UInt8) (way : Way) : upO n i d way = some (d, way) := by rw [upO, dif_pos h]
theorem upO_left {n i : Nat} (h : 2 ≤ n) (hi : i < half n) (d : List UInt8) (way : Way) : upO n i d way = onR (upO (half n) i d way) := by rw [upO, dif_neg (by omega), if_pos hi]
theorem upO_right {n i : Nat} (h : 2 ≤ n) (hi : ¬ i < half n) (d : List UInt8) (way : Way) : upO n i d way = onL (upO (n - half n) (i - half n) d way) := by rw [upO, dif_neg (by omega), if_neg hi]
theorem climb_up : ∀ (m n i : Nat) (d : List UInt8) (way : Way), n ≤ m → i < n → climbR (n - 1) i d way = upO n i d way := by
  intro m
  induction m with
  | zero => intro n i d way hm hi; omega
  | succ m ih =>
    intro n i d way hm hi
    rcases Nat.lt_or_ge n 2 with h2 | h2
    · obtain rfl : n = 1 := by omega
      rw [upO_one h2, climbR_zero]
    · have hlt := half_lt h2
      have hge := half_ge h2
      have hp := half_pos n
      have hj : half n = 2 ^ Nat.log2 (n - 1) := rfl
      by_cases hh : i < half n
      · rw [upO_left h2 hh, ← ih (half n) i d way (by omega) hh]
        rw [hj] at hh hlt hge ⊢
        exact climb_left _ _ _ _ _ hh (by omega) (by rw [Nat.pow_succ]; omega)
      · rw [upO_right h2 hh, ← ih (n - half n) (i - half n) d way (by omega) (by omega)]
        have e1 : n - 1 = half n + (n - half n - 1) := by omega
        have e2 : i = half n + (i - half n) := by omega
        conv => lhs; rw [e1, e2]
        rw [hj] at hge hh hlt ⊢
        exact climb_right _ _ _ _ _ (by omega) (by omega)
theorem up_path : ∀ (m : Nat) (L : Way) (i : Nat) (rest : Way), L.length ≤ m → i < L.length → upO L.length i (L.getD i []) (pathL L i ++ rest) = some (rootL L, rest) := by
  intro m
  induction m with
  | zero => intro L i rest hm hi; omega
  | succ m ih =>
    intro L i rest hm hi
    rcases Nat.lt_or_ge L.length 2 with h2 | h2
    · rw [upO_one h2, pathL_few h2]
      match L, hi, h2 with
      | [x], hi, _ =>
        obtain rfl : i = 0 := by simpa using hi
        rw [rootL_one]; rfl
    · have hlt := half_lt h2
      have hp := half_pos L.length
      have l1 : (L.take (half L.length)).length = half L.length := by simp; omega
      have l2 : (L.drop (half L.length)).length = L.length - half L.length := by simp
      by_cases hh : i < half L.length
      · rw [upO_left h2 hh, pathL_left h2 hh, List.append_assoc]
        have := ih (L.take (half L.length)) i ([rootL (L.drop (half L.length))] ++ rest) (by omega) (by omega)
        rw [l1, show (L.take (half L.length)).getD i [] = L.getD i [] by simp [List.getD_eq_getElem?_getD, List.getElem?_take, hh]] at this
        rw [this, rootL_two h2]; rfl
      · rw [upO_right h2 hh, pathL_right h2 hh, List.append_assoc]
        have := ih (L.drop (half L.length)) (i - half L.length) ([rootL (L.take (half L.length))] ++ rest) (by omega) (by omega)
        rw [l2, show (L.drop (half L.length)).getD (i - half L.length) [] = L.getD i [] by simp [List.getD_eq_getElem?_getD, List.getElem?_drop, show half L.length + (i - half L.length) = i by omega]] at this
        rw [this, rootL_two h2]; rfl
/-- does a way lead from a leaf to a root? -/
def checkL (root : List UInt8) (n i : Nat) (leaf : List UInt8) (way : Way) : Bool := decide (upO n i leaf way = some (root, []))
theorem check_path {L : Way} {i : Nat} (hi : i < L.length) : checkL (rootL L) L.length i (L.getD i []) (pathL L i) = true := by
  have := up_path _ L i [] (Nat.le_refl _) hi
  rw [List.append_nil] at this
  unfold checkL
  exact decide_eq_true this
def W32 (o : Option (List UInt8 × Way)) : Prop := ∀ d r, o = some (d, r) → d.length = 32
theorem upO_len : ∀ (m n i : Nat) (d : List UInt8) (way : Way), n ≤ m → d.length = 32 → ∀ x r, upO n i d way = some (x, r) → x.length = 32 ∧ ∃ k, k ≤ way.length ∧ r = way.drop k := by
  intro m
  induction m with
  | zero => intro n i d way hm hd x r h; rw [upO_one (by omega)] at h; cases h; exact ⟨hd, 0, by omega, rfl⟩
  | succ m ih =>
    intro n i d way hm hd x r h
    rcases Nat.lt_or_ge n 2 with h2 | h2
    · rw [upO_one h2] at h; cases h; exact ⟨hd, 0, by omega, rfl⟩
    · have hlt := half_lt h2
      have hp := half_pos n
      have key : ∀ o : Option (List UInt8 × Way), (∀ x r, o = some (x, r) → x.length = 32 ∧ ∃ k, k ≤ way.length ∧ r = way.drop k) → ∀ x r, (onR o = some (x, r) ∨ onL o = some (x, r)) → x.length = 32 ∧ ∃ k, k ≤ way.length ∧ r = way.drop k := by
        intro o ho x r h
        match o, ho with
        | none, _ => rcases h with h | h <;> cases h
        | some (y, []), _ => rcases h with h | h <;> cases h
        | some (y, z :: s), ho =>
          obtain ⟨_, k, hk, hs⟩ := ho y (z :: s) rfl
          have hlen : k < way.length := by
            have := congrArg List.length hs
            simp at this; omega
          have hs' : s = way.drop (k + 1) := by
            have : way.drop (k + 1) = (way.drop k).drop 1 := by rw [List.drop_drop]
            rw [this, ← hs]; rfl
          rcases h with h | h <;> (injection h with h; injection h with h1 h2; subst h1; subst h2; exact ⟨nodeL_length _ _, k + 1, by omega, hs'⟩)
      by_cases hh : i < half n
      · rw [upO_left h2 hh] at h
        exact key _ (fun x r h => ih _ _ _ _ (by omega) hd x r h) x r (.inl h)
      · rw [upO_right h2 hh] at h
        exact key _ (fun x r h => ih _ _ _ _ (by omega) hd x r h) x r (.inr h)
end Go.Proofs.Ytpohjldhbaalbaa
