/- What a way that leads to the root from another leaf shows. No program in sight. -/
import Derived.Test.YtpohjldhbaalbaaClimbLaw
namespace Go.Proofs.Ytpohjldhbaalbaa
set_option linter.unusedVariables false
set_option linter.unusedSimpArgs false
set_option linter.unusedSectionVars false

def apartB (a b : List UInt8) : Bool := decide (sha a = sha b ∧ a ≠ b)
theorem nodeB_inj {a b c d : List UInt8} (h : a.length = c.length) (e : nodeB a b = nodeB c d) : a = c ∧ b = d := by
  unfold nodeB at e
  injection e with _ e
  exact List.append_inj e h
/-- what was taken, and what was left -/
theorem upO_split : ∀ (m n i : Nat) (d : List UInt8) (way : Way) (x : List UInt8) (r : Way), n ≤ m → upO n i d way = some (x, r) → ∃ w', way = w' ++ r ∧ ∀ s, upO n i d (w' ++ s) = some (x, s) := by
  intro m
  induction m with
  | zero => intro n i d way x r hm h; rw [upO_one (by omega)] at h; cases h; exact ⟨[], rfl, fun s => by rw [upO_one (by omega)]; rfl⟩
  | succ m ih =>
    intro n i d way x r hm h
    rcases Nat.lt_or_ge n 2 with h2 | h2
    · rw [upO_one h2] at h; cases h; exact ⟨[], rfl, fun s => by rw [upO_one h2]; rfl⟩
    · have hlt := half_lt h2
      have hp := half_pos n
      by_cases hh : i < half n
      · rw [upO_left h2 hh] at h
        match ho : upO (half n) i d way with
        | none => rw [ho] at h; cases h
        | some (y, []) => rw [ho] at h; cases h
        | some (y, z :: t) =>
          rw [ho] at h
          injection h with h; injection h with h1 h2'
          subst h1; subst h2'
          obtain ⟨w', e1, e2⟩ := ih (half n) i d way y (z :: t) (by omega) ho
          refine ⟨w' ++ [z], by rw [e1, List.append_assoc]; rfl, fun s => ?_⟩
          rw [upO_left h2 hh, List.append_assoc, e2]; rfl
      · rw [upO_right h2 hh] at h
        match ho : upO (n - half n) (i - half n) d way with
        | none => rw [ho] at h; cases h
        | some (y, []) => rw [ho] at h; cases h
        | some (y, z :: t) =>
          rw [ho] at h
          injection h with h; injection h with h1 h2'
          subst h1; subst h2'
          obtain ⟨w', e1, e2⟩ := ih (n - half n) (i - half n) d way y (z :: t) (by omega) ho
          refine ⟨w' ++ [z], by rw [e1, List.append_assoc]; rfl, fun s => ?_⟩
          rw [upO_right h2 hh, List.append_assoc, e2]; rfl
def sideL (way : Way) : List UInt8 := way.getD (way.length - 1) []
def findsL (L : Way) (i : Nat) (leaf : List UInt8) (way : Way) : Bool :=
  if h : L.length < 2 ∨ way.length = 0 then false
  else if i < half L.length then
    match upO (half L.length) i leaf (way.take (way.length - 1)) with
    | none => false
    | some (d, _) => if d ≠ rootL (L.take (half L.length)) ∨ sideL way ≠ rootL (L.drop (half L.length)) then apartB (nodeB d (sideL way)) (nodeB (rootL (L.take (half L.length))) (rootL (L.drop (half L.length)))) else findsL (L.take (half L.length)) i leaf (way.take (way.length - 1))
  else
    match upO (L.length - half L.length) (i - half L.length) leaf (way.take (way.length - 1)) with
    | none => false
    | some (d, _) => if d ≠ rootL (L.drop (half L.length)) ∨ sideL way ≠ rootL (L.take (half L.length)) then apartB (nodeB (sideL way) d) (nodeB (rootL (L.take (half L.length))) (rootL (L.drop (half L.length)))) else findsL (L.drop (half L.length)) (i - half L.length) leaf (way.take (way.length - 1))
termination_by L.length
decreasing_by
  · have := half_lt (n := L.length) (by omega); simp; omega
  · have := half_lt (n := L.length) (by omega); have := half_pos L.length; simp; omega
theorem findsL_few {L : Way} {way : Way} (h : L.length < 2 ∨ way.length = 0) (i : Nat) (leaf : List UInt8) : findsL L i leaf way = false := by rw [findsL.eq_def, dif_pos h]
theorem findsL_left {L : Way} {way : Way} {i : Nat} (leaf : List UInt8) (h : 2 ≤ L.length) (hw : 0 < way.length) (hi : i < half L.length) : findsL L i leaf way =
    match upO (half L.length) i leaf (way.take (way.length - 1)) with
    | none => false
    | some (d, _) => if d ≠ rootL (L.take (half L.length)) ∨ sideL way ≠ rootL (L.drop (half L.length)) then apartB (nodeB d (sideL way)) (nodeB (rootL (L.take (half L.length))) (rootL (L.drop (half L.length)))) else findsL (L.take (half L.length)) i leaf (way.take (way.length - 1)) := by
  rw [findsL.eq_def, dif_neg (by omega), if_pos hi]
theorem findsL_right {L : Way} {way : Way} {i : Nat} (leaf : List UInt8) (h : 2 ≤ L.length) (hw : 0 < way.length) (hi : ¬ i < half L.length) : findsL L i leaf way =
    match upO (L.length - half L.length) (i - half L.length) leaf (way.take (way.length - 1)) with
    | none => false
    | some (d, _) => if d ≠ rootL (L.drop (half L.length)) ∨ sideL way ≠ rootL (L.take (half L.length)) then apartB (nodeB (sideL way) d) (nodeB (rootL (L.take (half L.length))) (rootL (L.drop (half L.length)))) else findsL (L.drop (half L.length)) (i - half L.length) leaf (way.take (way.length - 1)) := by
  rw [findsL.eq_def, dif_neg (by omega), if_neg hi]
theorem side_snoc (w : Way) (z : List UInt8) : sideL (w ++ [z]) = z ∧ (w ++ [z]).take ((w ++ [z]).length - 1) = w := by
  constructor
  · unfold sideL; simp [List.getD_eq_getElem?_getD]
  · simp
theorem apart_of {a b c d : List UInt8} (hl : a.length = c.length) (hs : nodeL a b = nodeL c d) (hne : a ≠ c ∨ b ≠ d) : apartB (nodeB a b) (nodeB c d) = true := by
  unfold apartB
  refine decide_eq_true ⟨hs, fun e => ?_⟩
  have := nodeB_inj hl e
  rcases hne with h | h
  · exact h this.1
  · exact h this.2
theorem finds_other : ∀ (m : Nat) (L : Way) (i : Nat) (leaf : List UInt8) (way : Way), L.length ≤ m → (∀ x ∈ L, x.length = 32) → (∀ x ∈ way, x.length = 32) → leaf.length = 32 → i < L.length → upO L.length i leaf way = some (rootL L, []) → leaf ≠ L.getD i [] → findsL L i leaf way = true := by
  intro m
  induction m with
  | zero => intro L i leaf way hm hL hW hl hi; omega
  | succ m ih =>
    intro L i leaf way hm hL hW hl hi h hne
    rcases Nat.lt_or_ge L.length 2 with h2 | h2
    · rw [upO_one h2] at h
      injection h with h; injection h with h1 h3
      match L, hi, h2 with
      | [x], hi, _ =>
        obtain rfl : i = 0 := by simpa using hi
        rw [rootL_one] at h1
        exact absurd h1 hne
    · have hlt := half_lt h2
      have hp := half_pos L.length
      have l1 : (L.take (half L.length)).length = half L.length := by simp; omega
      have l2 : (L.drop (half L.length)).length = L.length - half L.length := by simp
      have hLt : ∀ x ∈ L.take (half L.length), x.length = 32 := fun x hx => hL x (List.mem_of_mem_take hx)
      have hLd : ∀ x ∈ L.drop (half L.length), x.length = 32 := fun x hx => hL x (List.mem_of_mem_drop hx)
      rw [rootL_two h2] at h
      by_cases hh : i < half L.length
      · rw [upO_left h2 hh] at h
        match ho : upO (half L.length) i leaf way with
        | none => rw [ho] at h; cases h
        | some (y, []) => rw [ho] at h; cases h
        | some (y, z :: t) =>
          rw [ho] at h
          injection h with h; injection h with h1 h3
          subst h3
          have hyl := (upO_len _ _ _ _ _ (Nat.le_refl _) hl y [z] ho).1
          obtain ⟨w', e1, e2⟩ := upO_split _ _ _ _ _ _ _ (Nat.le_refl _) ho
          have e3 := e2 []
          rw [List.append_nil] at e3
          subst e1
          rw [findsL_left leaf h2 (by simp) hh, (side_snoc w' z).1, (side_snoc w' z).2, e3]
          show (if y ≠ rootL (L.take (half L.length)) ∨ z ≠ rootL (L.drop (half L.length)) then _ else _) = true
          by_cases hd : y ≠ rootL (L.take (half L.length)) ∨ z ≠ rootL (L.drop (half L.length))
          · rw [if_pos hd]
            exact apart_of (by rw [hyl, rootL_length _ hLt]) h1 hd
          · rw [if_neg hd]
            have hy : y = rootL (L.take (half L.length)) := Classical.byContradiction fun e => hd (.inl e)
            refine ih (L.take (half L.length)) i leaf w' (by omega) hLt (fun x hx => hW x (by simp [hx])) hl (by omega) (by rw [l1, e3, hy]) ?_
            rw [show (L.take (half L.length)).getD i [] = L.getD i [] by simp [List.getD_eq_getElem?_getD, List.getElem?_take, hh]]
            exact hne
      · rw [upO_right h2 hh] at h
        match ho : upO (L.length - half L.length) (i - half L.length) leaf way with
        | none => rw [ho] at h; cases h
        | some (y, []) => rw [ho] at h; cases h
        | some (y, z :: t) =>
          rw [ho] at h
          injection h with h; injection h with h1 h3
          subst h3
          have hyl := (upO_len _ _ _ _ _ (Nat.le_refl _) hl y [z] ho).1
          obtain ⟨w', e1, e2⟩ := upO_split _ _ _ _ _ _ _ (Nat.le_refl _) ho
          have e3 := e2 []
          rw [List.append_nil] at e3
          subst e1
          have hzl : z.length = 32 := hW z (by simp)
          rw [findsL_right leaf h2 (by simp) hh, (side_snoc w' z).1, (side_snoc w' z).2, e3]
          show (if y ≠ rootL (L.drop (half L.length)) ∨ z ≠ rootL (L.take (half L.length)) then _ else _) = true
          by_cases hd : y ≠ rootL (L.drop (half L.length)) ∨ z ≠ rootL (L.take (half L.length))
          · rw [if_pos hd]
            exact apart_of (by rw [hzl, rootL_length _ hLt]) h1 hd.symm
          · rw [if_neg hd]
            have hy : y = rootL (L.drop (half L.length)) := Classical.byContradiction fun e => hd (.inl e)
            refine ih (L.drop (half L.length)) (i - half L.length) leaf w' (by omega) hLd (fun x hx => hW x (by simp [hx])) hl (by omega) (by rw [l2, e3, hy]) ?_
            rw [show (L.drop (half L.length)).getD (i - half L.length) [] = L.getD i [] by simp [List.getD_eq_getElem?_getD, List.getElem?_drop, show half L.length + (i - half L.length) = i by omega]]
            exact hne
end Go.Proofs.Ytpohjldhbaalbaa
