/- What a proof tells of two lists. No program in sight. -/
import Derived.Test.YtpohjldhbaalbaaClimbLaw
namespace Go.Proofs.Ytpohjldhbaalbaa
set_option linter.unusedVariables false
set_option linter.unusedSimpArgs false
set_option linter.unusedSectionVars false

abbrev Gro := Option (List UInt8 × List UInt8 × Way)
def onG (o : Gro) : Gro :=
  match o with
  | some (a, b, x :: r) => some (a, nodeL b x, r)
  | _ => none
def onH (o : Gro) : Gro :=
  match o with
  | some (a, b, x :: r) => some (nodeL x a, nodeL x b, r)
  | _ => none
def growO (old : List UInt8) (m n : Nat) (whole : Bool) (way : Way) : Gro :=
  if h : n < 2 ∨ m = n then
    (if whole then some (old, old, way) else match way with | [] => none | x :: r => some (x, x, r))
  else if m ≤ half n then onG (growO old m (half n) whole way)
  else onH (growO old (m - half n) (n - half n) false way)
termination_by n
decreasing_by
  · exact half_lt (by omega)
  · have := half_pos n; omega
def growBase (old : List UInt8) (whole : Bool) (way : Way) : Gro := if whole then some (old, old, way) else match way with | [] => none | x :: r => some (x, x, r)
theorem growO_base {m n : Nat} (h : n < 2 ∨ m = n) (old : List UInt8) (whole : Bool) (way : Way) : growO old m n whole way = growBase old whole way := by rw [growO.eq_def, dif_pos h]; rfl
theorem growO_left {m n : Nat} (h : ¬ (n < 2 ∨ m = n)) (hm : m ≤ half n) (old : List UInt8) (whole : Bool) (way : Way) : growO old m n whole way = onG (growO old m (half n) whole way) := by rw [growO.eq_def, dif_neg h, if_pos hm]
theorem growO_right {m n : Nat} (h : ¬ (n < 2 ∨ m = n)) (hm : ¬ m ≤ half n) (old : List UInt8) (whole : Bool) (way : Way) : growO old m n whole way = onH (growO old (m - half n) (n - half n) false way) := by rw [growO.eq_def, dif_neg h, if_neg hm]
theorem growO_len : ∀ (k m n : Nat) (old : List UInt8) (whole : Bool) (way : Way), n ≤ k → old.length = 32 → (∀ x ∈ way, x.length = 32) → ∀ a b r, growO old m n whole way = some (a, b, r) → a.length = 32 ∧ b.length = 32 ∧ ∃ j, j ≤ way.length ∧ r = way.drop j := by
  have base : ∀ (old : List UInt8) (whole : Bool) (way : Way), old.length = 32 → (∀ x ∈ way, x.length = 32) → ∀ a b r, growBase old whole way = some (a, b, r) → a.length = 32 ∧ b.length = 32 ∧ ∃ j, j ≤ way.length ∧ r = way.drop j := by
    intro old whole way ho hw a b r h
    unfold growBase at h
    cases whole with
    | true => simp at h; obtain ⟨rfl, rfl, rfl⟩ := h; exact ⟨ho, ho, 0, by omega, rfl⟩
    | false =>
      cases way with
      | nil => simp at h
      | cons x s =>
        simp at h
        obtain ⟨rfl, rfl, rfl⟩ := h
        exact ⟨hw x (by simp), hw x (by simp), 1, by simp, rfl⟩
  intro k
  induction k with
  | zero => intro m n old whole way hk ho hw a b r h; rw [growO_base (by omega)] at h; exact base old whole way ho hw a b r h
  | succ k ih =>
    intro m n old whole way hk ho hw a b r h
    by_cases hb : n < 2 ∨ m = n
    · rw [growO_base hb] at h; exact base old whole way ho hw a b r h
    · have hlt := half_lt (n := n) (by omega)
      have hp := half_pos n
      have key : ∀ o : Gro, (∀ a b r, o = some (a, b, r) → a.length = 32 ∧ b.length = 32 ∧ ∃ j, j ≤ way.length ∧ r = way.drop j) → ∀ a b r, (onG o = some (a, b, r) ∨ onH o = some (a, b, r)) → a.length = 32 ∧ b.length = 32 ∧ ∃ j, j ≤ way.length ∧ r = way.drop j := by
        intro o ho a b r h
        match o, ho with
        | none, _ => rcases h with h | h <;> cases h
        | some (y, y', []), _ => rcases h with h | h <;> cases h
        | some (y, y', z :: s), ho =>
          obtain ⟨h1, h2, j, hj, hs⟩ := ho y y' (z :: s) rfl
          have hlen : j < way.length := by
            have := congrArg List.length hs
            simp at this; omega
          have hs' : s = way.drop (j + 1) := by
            have : way.drop (j + 1) = (way.drop j).drop 1 := by rw [List.drop_drop]
            rw [this, ← hs]; rfl
          rcases h with h | h
          · injection h with h; injection h with e1 e2; injection e2 with e2 e3; subst e1; subst e2; subst e3; exact ⟨h1, nodeL_length _ _, j + 1, by omega, hs'⟩
          · injection h with h; injection h with e1 e2; injection e2 with e2 e3; subst e1; subst e2; subst e3; exact ⟨nodeL_length _ _, nodeL_length _ _, j + 1, by omega, hs'⟩
      by_cases hm : m ≤ half n
      · rw [growO_left hb hm] at h
        exact key _ (fun a b r h => ih _ _ _ _ _ (by omega) ho hw a b r h) a b r (.inl h)
      · rw [growO_right hb hm] at h
        exact key _ (fun a b r h => ih _ _ _ _ _ (by omega) ho hw a b r h) a b r (.inr h)
/-- does a proof show that a list goes on? m from 1 on -/
def extL (old : List UInt8) (m : Nat) (root : List UInt8) (n : Nat) (way : Way) : Bool :=
  if m = 0 then decide (way = []) && decide (old = sha []) && (decide (0 < n) || decide (root = sha []))
  else decide (growO old m n true way = some (old, root, []))
/-- the proof itself -/
def partL (L : Way) (m : Nat) (whole : Bool) : Way :=
  if h : L.length < 2 ∨ m = L.length then (if whole then [] else [rootL L])
  else if m ≤ half L.length then partL (L.take (half L.length)) m whole ++ [rootL (L.drop (half L.length))]
  else partL (L.drop (half L.length)) (m - half L.length) false ++ [rootL (L.take (half L.length))]
termination_by L.length
decreasing_by
  · have := half_lt (n := L.length) (by omega); simp; omega
  · have := half_lt (n := L.length) (by omega); have := half_pos L.length; simp; omega
theorem partL_base {L : Way} {m : Nat} (h : L.length < 2 ∨ m = L.length) (whole : Bool) : partL L m whole = if whole then [] else [rootL L] := by rw [partL.eq_def, dif_pos h]
theorem partL_left {L : Way} {m : Nat} (h : ¬ (L.length < 2 ∨ m = L.length)) (hm : m ≤ half L.length) (whole : Bool) : partL L m whole = partL (L.take (half L.length)) m whole ++ [rootL (L.drop (half L.length))] := by rw [partL.eq_def, dif_neg h, if_pos hm]
theorem partL_right {L : Way} {m : Nat} (h : ¬ (L.length < 2 ∨ m = L.length)) (hm : ¬ m ≤ half L.length) (whole : Bool) : partL L m whole = partL (L.drop (half L.length)) (m - half L.length) false ++ [rootL (L.take (half L.length))] := by rw [partL.eq_def, dif_neg h, if_neg hm]
theorem rootL_take {L : Way} {m : Nat} (h2 : 2 ≤ L.length) (hm : half L.length < m) (hm2 : m ≤ L.length) : rootL (L.take m) = nodeL (rootL (L.take (half L.length))) (rootL ((L.drop (half L.length)).take (m - half L.length))) := by
  have hlt := half_lt h2
  have hge := half_ge h2
  have hp := half_pos L.length
  have hl : (L.take m).length = m := by simp; omega
  have hj : half L.length = 2 ^ Nat.log2 (L.length - 1) := rfl
  have hh : half m = half L.length := by rw [hj]; exact half_unique (by rw [← hj]; exact hm) (by rw [← hj]; omega)
  rw [rootL_two (by rw [hl]; omega), hl, hh]
  congr 2
  · rw [List.take_take, Nat.min_eq_left (by omega)]
  · rw [List.drop_take]
theorem grow_part : ∀ (k : Nat) (L : Way) (m : Nat) (rest : Way) (old : List UInt8) (whole : Bool), L.length ≤ k → 1 ≤ m → m ≤ L.length → (whole = true → old = rootL (L.take m)) → growO old m L.length whole (partL L m whole ++ rest) = some (rootL (L.take m), rootL L, rest) := by
  have base : ∀ (L : Way) (m : Nat) (rest : Way) (old : List UInt8) (whole : Bool), 1 ≤ m → m ≤ L.length → (L.length < 2 ∨ m = L.length) → (whole = true → old = rootL (L.take m)) → growO old m L.length whole (partL L m whole ++ rest) = some (rootL (L.take m), rootL L, rest) := by
    intro L m rest old whole h1 h2 hb ho
    have hm : m = L.length := by omega
    have ht : L.take m = L := List.take_of_length_le (by omega)
    rw [growO_base hb, partL_base hb, ht]
    rw [ht] at ho
    unfold growBase
    cases whole with
    | true => simp [ho rfl]
    | false => simp
  intro k
  induction k with
  | zero => intro L m rest old whole hk h1 h2 ho; exact base L m rest old whole h1 h2 (by omega) ho
  | succ k ih =>
    intro L m rest old whole hk h1 h2 ho
    by_cases hb : L.length < 2 ∨ m = L.length
    · exact base L m rest old whole h1 h2 hb ho
    · have h22 : 2 ≤ L.length := by omega
      have hlt := half_lt h22
      have hp := half_pos L.length
      have l1 : (L.take (half L.length)).length = half L.length := by simp; omega
      have l2 : (L.drop (half L.length)).length = L.length - half L.length := by simp
      by_cases hm : m ≤ half L.length
      · have ht : (L.take (half L.length)).take m = L.take m := by rw [List.take_take, Nat.min_eq_left hm]
        have := ih (L.take (half L.length)) m ([rootL (L.drop (half L.length))] ++ rest) old whole (by omega) h1 (by omega) (by rw [ht]; exact ho)
        rw [l1, ht] at this
        rw [growO_left hb hm, partL_left hb hm, List.append_assoc, this, rootL_two h22]; rfl
      · have := ih (L.drop (half L.length)) (m - half L.length) ([rootL (L.take (half L.length))] ++ rest) old false (by omega) (by omega) (by omega) (fun h => by cases h)
        rw [l2] at this
        rw [growO_right hb hm, partL_right hb hm, List.append_assoc, this, rootL_two h22, rootL_take h22 (by omega) h2]; rfl
end Go.Proofs.Ytpohjldhbaalbaa
