/- What a proof that is taken shows of two lists. No program in sight. -/
import Derived.Test.YtpohjldhbaalbaaFindsLaw
import Derived.Test.YtpohjldhbaalbaaGrowLaw
namespace Go.Proofs.Ytpohjldhbaalbaa
set_option linter.unusedVariables false
set_option linter.unusedSimpArgs false
set_option linter.unusedSectionVars false

abbrev A32s (L : Way) : Prop := ∀ x ∈ L, x.length = 32
theorem A32s.take {L : Way} (h : A32s L) (k : Nat) : A32s (L.take k) := fun x hx => h x (List.mem_of_mem_take hx)
theorem A32s.drop {L : Way} (h : A32s L) (k : Nat) : A32s (L.drop k) := fun x hx => h x (List.mem_of_mem_drop hx)
/-- the four roots -/
def pairOf (L : Way) (k : Nat) : List UInt8 := nodeB (rootL (L.take k)) (rootL (L.drop k))
def differL (A B : Way) : Bool :=
  if h : A.length ≠ B.length ∨ A.length < 2 then false
  else if rootL (A.take (half A.length)) ≠ rootL (B.take (half A.length)) ∨ rootL (A.drop (half A.length)) ≠ rootL (B.drop (half A.length)) then apartB (pairOf A (half A.length)) (pairOf B (half A.length))
  else if A.take (half A.length) ≠ B.take (half A.length) then differL (A.take (half A.length)) (B.take (half A.length))
  else differL (A.drop (half A.length)) (B.drop (half A.length))
termination_by A.length
decreasing_by
  · have := half_lt (n := A.length) (by omega); simp; omega
  · have := half_lt (n := A.length) (by omega); have := half_pos A.length; simp; omega
theorem differL_few {A B : Way} (h : A.length ≠ B.length ∨ A.length < 2) : differL A B = false := by rw [differL.eq_def, dif_pos h]
theorem differL_two {A B : Way} (h1 : A.length = B.length) (h2 : 2 ≤ A.length) : differL A B =
    (if rootL (A.take (half A.length)) ≠ rootL (B.take (half A.length)) ∨ rootL (A.drop (half A.length)) ≠ rootL (B.drop (half A.length)) then apartB (pairOf A (half A.length)) (pairOf B (half A.length))
     else if A.take (half A.length) ≠ B.take (half A.length) then differL (A.take (half A.length)) (B.take (half A.length))
     else differL (A.drop (half A.length)) (B.drop (half A.length))) := by rw [differL.eq_def, dif_neg (by omega)]
theorem differ_other : ∀ (m : Nat) (A B : Way), A.length ≤ m → A.length = B.length → A32s A → A32s B → rootL A = rootL B → A ≠ B → differL A B = true := by
  intro m
  induction m with
  | zero =>
    intro A B hm hl _ _ _ hne
    have hA : A = [] := List.eq_nil_of_length_eq_zero (by omega)
    have hB : B = [] := List.eq_nil_of_length_eq_zero (by omega)
    exact absurd (by rw [hA, hB]) hne
  | succ m ih =>
    intro A B hm hl hA hB hr hne
    rcases Nat.lt_or_ge A.length 2 with h2 | h2
    · match A, B, hl, h2 with
      | [], [], _, _ => exact absurd rfl hne
      | [x], [y], _, _ => rw [rootL_one, rootL_one] at hr; exact absurd (by rw [hr]) hne
      | _ :: _ :: _, _, _, h2 => simp only [List.length_cons] at h2; omega
    · have hlt := half_lt h2
      have hp := half_pos A.length
      rw [differL_two hl h2]
      by_cases hd : rootL (A.take (half A.length)) ≠ rootL (B.take (half A.length)) ∨ rootL (A.drop (half A.length)) ≠ rootL (B.drop (half A.length))
      · rw [if_pos hd]
        rw [rootL_two h2, rootL_two (L := B) (by omega), ← hl] at hr
        exact apart_of (by rw [rootL_length _ (hA.take _), rootL_length _ (hB.take _)]) hr hd
      · rw [if_neg hd]
        have e1 : rootL (A.take (half A.length)) = rootL (B.take (half A.length)) := Classical.byContradiction fun e => hd (.inl e)
        have e2 : rootL (A.drop (half A.length)) = rootL (B.drop (half A.length)) := Classical.byContradiction fun e => hd (.inr e)
        by_cases ht : A.take (half A.length) ≠ B.take (half A.length)
        · rw [if_pos ht]
          exact ih _ _ (by simp; omega) (by simp; omega) (hA.take _) (hB.take _) e1 ht
        · rw [if_neg ht]
          have ht' : A.take (half A.length) = B.take (half A.length) := Classical.byContradiction fun e => ht e
          refine ih _ _ (by simp; omega) (by simp; omega) (hA.drop _) (hB.drop _) e2 fun e => hne ?_
          rw [← List.take_append_drop (half A.length) A, ← List.take_append_drop (half A.length) B, ht', e]
theorem growO_old : ∀ (k m n : Nat) (old old' : List UInt8) (way : Way), n ≤ k → growO old m n false way = growO old' m n false way := by
  intro k
  induction k with
  | zero => intro m n old old' way hk; rw [growO_base (by omega), growO_base (by omega)]; rfl
  | succ k ih =>
    intro m n old old' way hk
    by_cases hb : n < 2 ∨ m = n
    · rw [growO_base hb, growO_base hb]; rfl
    · have hlt := half_lt (n := n) (by omega)
      have hp := half_pos n
      by_cases hm : m ≤ half n
      · rw [growO_left hb hm, growO_left hb hm, ih m (half n) old old' way (by omega)]
      · rw [growO_right hb hm, growO_right hb hm, ih _ _ old old' way (by omega)]
/-- what was taken, and what was left -/
theorem growO_split : ∀ (k m n : Nat) (old : List UInt8) (whole : Bool) (way : Way) (a b : List UInt8) (r : Way), n ≤ k → growO old m n whole way = some (a, b, r) → ∃ w', way = w' ++ r ∧ ∀ s, growO old m n whole (w' ++ s) = some (a, b, s) := by
  have base : ∀ (m n : Nat) (old : List UInt8) (whole : Bool) (way : Way) (a b : List UInt8) (r : Way), (n < 2 ∨ m = n) → growO old m n whole way = some (a, b, r) → ∃ w', way = w' ++ r ∧ ∀ s, growO old m n whole (w' ++ s) = some (a, b, s) := by
    intro m n old whole way a b r hb h
    rw [growO_base hb] at h
    unfold growBase at h
    cases whole with
    | true =>
      simp at h
      obtain ⟨rfl, rfl, rfl⟩ := h
      exact ⟨[], rfl, fun s => by rw [growO_base hb]; rfl⟩
    | false =>
      cases way with
      | nil => simp at h
      | cons x t =>
        simp at h
        obtain ⟨rfl, rfl, rfl⟩ := h
        exact ⟨[x], rfl, fun s => by rw [growO_base hb]; rfl⟩
  intro k
  induction k with
  | zero => intro m n old whole way a b r hk h; exact base m n old whole way a b r (by omega) h
  | succ k ih =>
    intro m n old whole way a b r hk h
    by_cases hb : n < 2 ∨ m = n
    · exact base m n old whole way a b r hb h
    · have hlt := half_lt (n := n) (by omega)
      have hp := half_pos n
      by_cases hm : m ≤ half n
      · rw [growO_left hb hm] at h
        match ho : growO old m (half n) whole way with
        | none => rw [ho] at h; cases h
        | some (y, y', []) => rw [ho] at h; cases h
        | some (y, y', z :: t) =>
          rw [ho] at h
          injection h with h; injection h with h1 h2; injection h2 with h2 h3
          subst h1; subst h2; subst h3
          obtain ⟨w', e1, e2⟩ := ih _ _ _ _ _ _ _ _ (by omega) ho
          refine ⟨w' ++ [z], by rw [e1, List.append_assoc]; rfl, fun s => ?_⟩
          rw [growO_left hb hm, List.append_assoc, e2]; rfl
      · rw [growO_right hb hm] at h
        match ho : growO old (m - half n) (n - half n) false way with
        | none => rw [ho] at h; cases h
        | some (y, y', []) => rw [ho] at h; cases h
        | some (y, y', z :: t) =>
          rw [ho] at h
          injection h with h; injection h with h1 h2; injection h2 with h2 h3
          subst h1; subst h2; subst h3
          obtain ⟨w', e1, e2⟩ := ih _ _ _ _ _ _ _ _ (by omega) ho
          refine ⟨w' ++ [z], by rw [e1, List.append_assoc]; rfl, fun s => ?_⟩
          rw [growO_right hb hm, List.append_assoc, e2]; rfl
/-- the zero sum -/
def zero32 : List UInt8 := List.replicate 32 0
def straysL (A B : Way) (whole : Bool) (way : Way) : Bool :=
  if h : A.length = B.length then differL A B
  else if hw : B.length < 2 ∨ way.length = 0 then false
  else if A.length ≤ half B.length then
    match growO (rootL A) A.length (half B.length) whole (way.take (way.length - 1)) with
    | none => false
    | some (_, y, _) => if y ≠ rootL (B.take (half B.length)) ∨ sideL way ≠ rootL (B.drop (half B.length)) then apartB (nodeB y (sideL way)) (pairOf B (half B.length))
      else straysL A (B.take (half B.length)) whole (way.take (way.length - 1))
  else
    match growO zero32 (A.length - half B.length) (B.length - half B.length) false (way.take (way.length - 1)) with
    | none => false
    | some (x, y, _) => if sideL way ≠ rootL (B.take (half B.length)) ∨ y ≠ rootL (B.drop (half B.length)) then apartB (nodeB (sideL way) y) (pairOf B (half B.length))
      else if sideL way ≠ rootL (A.take (half B.length)) ∨ x ≠ rootL (A.drop (half B.length)) then apartB (nodeB (sideL way) x) (pairOf A (half B.length))
      else if A.take (half B.length) ≠ B.take (half B.length) then differL (A.take (half B.length)) (B.take (half B.length))
      else straysL (A.drop (half B.length)) (B.drop (half B.length)) false (way.take (way.length - 1))
termination_by B.length
decreasing_by
  · have := half_lt (n := B.length) (by omega); simp; omega
  · have := half_lt (n := B.length) (by omega); have := half_pos B.length; simp; omega
theorem straysL_same {A B : Way} (h : A.length = B.length) (whole : Bool) (way : Way) : straysL A B whole way = differL A B := by rw [straysL.eq_def, dif_pos h]
theorem straysL_few {A B : Way} (h : A.length ≠ B.length) {way : Way} (hw : B.length < 2 ∨ way.length = 0) (whole : Bool) : straysL A B whole way = false := by rw [straysL.eq_def, dif_neg h, dif_pos hw]
theorem straysL_left {A B : Way} (h : A.length ≠ B.length) {way : Way} (hb : 2 ≤ B.length) (hw : 0 < way.length) (hm : A.length ≤ half B.length) (whole : Bool) : straysL A B whole way =
    match growO (rootL A) A.length (half B.length) whole (way.take (way.length - 1)) with
    | none => false
    | some (_, y, _) => if y ≠ rootL (B.take (half B.length)) ∨ sideL way ≠ rootL (B.drop (half B.length)) then apartB (nodeB y (sideL way)) (pairOf B (half B.length))
      else straysL A (B.take (half B.length)) whole (way.take (way.length - 1)) := by rw [straysL.eq_def, dif_neg h, dif_neg (by omega), if_pos hm]
theorem straysL_right {A B : Way} (h : A.length ≠ B.length) {way : Way} (hb : 2 ≤ B.length) (hw : 0 < way.length) (hm : ¬ A.length ≤ half B.length) (whole : Bool) : straysL A B whole way =
    match growO zero32 (A.length - half B.length) (B.length - half B.length) false (way.take (way.length - 1)) with
    | none => false
    | some (x, y, _) => if sideL way ≠ rootL (B.take (half B.length)) ∨ y ≠ rootL (B.drop (half B.length)) then apartB (nodeB (sideL way) y) (pairOf B (half B.length))
      else if sideL way ≠ rootL (A.take (half B.length)) ∨ x ≠ rootL (A.drop (half B.length)) then apartB (nodeB (sideL way) x) (pairOf A (half B.length))
      else if A.take (half B.length) ≠ B.take (half B.length) then differL (A.take (half B.length)) (B.take (half B.length))
      else straysL (A.drop (half B.length)) (B.drop (half B.length)) false (way.take (way.length - 1)) := by rw [straysL.eq_def, dif_neg h, dif_neg (by omega), if_neg hm]
theorem strays_other : ∀ (k : Nat) (A B : Way) (whole : Bool) (way : Way) (old : List UInt8), B.length ≤ k → 1 ≤ A.length → A.length ≤ B.length → A32s A → A32s B → A32s way → (whole = true → old = rootL A) → growO old A.length B.length whole way = some (rootL A, rootL B, []) → A ≠ B.take A.length → straysL A B whole way = true := by
  have base : ∀ (A B : Way) (whole : Bool) (way : Way) (old : List UInt8), A.length = B.length → A32s A → A32s B → (whole = true → old = rootL A) → growO old A.length B.length whole way = some (rootL A, rootL B, []) → A ≠ B.take A.length → straysL A B whole way = true := by
    intro A B whole way old hl hA hB ho h hne
    rw [straysL_same hl]
    have hne' : A ≠ B := by rw [hl, List.take_of_length_le (Nat.le_refl _)] at hne; exact hne
    refine differ_other _ A B (Nat.le_refl _) hl hA hB ?_ hne'
    rw [growO_base (.inr hl)] at h
    unfold growBase at h
    cases whole with
    | true => simp at h; exact h.1.symm.trans h.2.1
    | false =>
      cases way with
      | nil => simp at h
      | cons x t => simp at h; exact h.1.symm.trans h.2.1
  intro k
  induction k with
  | zero => intro A B whole way old hk h1 h2; omega
  | succ k ih =>
    intro A B whole way old hk h1 h2 hA hB hW ho h hne
    by_cases hl : A.length = B.length
    · exact base A B whole way old hl hA hB ho h hne
    · have hb2 : 2 ≤ B.length := by omega
      have hb : ¬ (B.length < 2 ∨ A.length = B.length) := by omega
      have hlt := half_lt hb2
      have hge := half_ge hb2
      have hp := half_pos B.length
      have l1 : (B.take (half B.length)).length = half B.length := by simp; omega
      have l2 : (B.drop (half B.length)).length = B.length - half B.length := by simp
      by_cases hm : A.length ≤ half B.length
      · rw [growO_left hb hm] at h
        match hoo : growO old A.length (half B.length) whole way with
        | none => rw [hoo] at h; cases h
        | some (y, y', []) => rw [hoo] at h; cases h
        | some (a, b, z :: t) =>
          rw [hoo] at h
          injection h with h; injection h with e1 e2; injection e2 with e2 e3
          subst e3
          obtain ⟨w', f1, f2⟩ := growO_split _ _ _ _ _ _ _ _ _ (Nat.le_refl _) hoo
          have f3 := f2 []
          rw [List.append_nil] at f3
          subst f1
          have hzl : z.length = 32 := hW z (by simp)
          have hbl : b.length = 32 := by
            cases whole with
            | true => exact (growO_len _ _ _ _ _ _ (Nat.le_refl _) (by rw [ho rfl]; exact rootL_length _ hA) (fun x hx => hW x (by simp [hx])) _ _ _ f3).2.1
            | false => rw [growO_old _ _ _ old (rootL A) _ (Nat.le_refl _)] at f3; exact (growO_len _ _ _ _ _ _ (Nat.le_refl _) (rootL_length _ hA) (fun x hx => hW x (by simp [hx])) _ _ _ f3).2.1
          have f4 : growO (rootL A) A.length (half B.length) whole w' = some (a, b, []) := by
            cases whole with
            | true => rw [← ho rfl]; exact f3
            | false => rw [growO_old _ _ _ (rootL A) old _ (Nat.le_refl _)]; exact f3
          rw [straysL_left hl hb2 (by simp) hm, (side_snoc w' z).1, (side_snoc w' z).2, f4]
          show (if b ≠ rootL (B.take (half B.length)) ∨ z ≠ rootL (B.drop (half B.length)) then _ else _) = true
          by_cases hd : b ≠ rootL (B.take (half B.length)) ∨ z ≠ rootL (B.drop (half B.length))
          · rw [if_pos hd]
            rw [rootL_two hb2] at e2
            exact apart_of (by rw [hbl, rootL_length _ (hB.take _)]) e2 hd
          · rw [if_neg hd]
            have hbe : b = rootL (B.take (half B.length)) := Classical.byContradiction fun e => hd (.inl e)
            refine ih A (B.take (half B.length)) whole w' old (by omega) h1 (by omega) hA (hB.take _) (fun x hx => hW x (by simp [hx])) ho (by rw [l1, f3, e1, hbe]) ?_
            rw [List.take_take, Nat.min_eq_left hm]
            exact hne
      · rw [growO_right hb hm] at h
        match hoo : growO old (A.length - half B.length) (B.length - half B.length) false way with
        | none => rw [hoo] at h; cases h
        | some (y, y', []) => rw [hoo] at h; cases h
        | some (a, b, z :: t) =>
          rw [hoo] at h
          injection h with h; injection h with e1 e2; injection e2 with e2 e3
          subst e3
          obtain ⟨w', f1, f2⟩ := growO_split _ _ _ _ _ _ _ _ _ (Nat.le_refl _) hoo
          have f3 := f2 []
          rw [List.append_nil] at f3
          subst f1
          have hzl : z.length = 32 := hW z (by simp)
          have f4 : growO zero32 (A.length - half B.length) (B.length - half B.length) false w' = some (a, b, []) := by
            rw [growO_old _ _ _ zero32 old _ (Nat.le_refl _)]; exact f3
          have hj : half B.length = 2 ^ Nat.log2 (B.length - 1) := rfl
          have hh : half A.length = half B.length := by rw [hj]; exact half_unique (by rw [← hj]; omega) (by rw [← hj]; omega)
          have hrA : rootL A = nodeL (rootL (A.take (half B.length))) (rootL (A.drop (half B.length))) := by rw [rootL_two (by omega), hh]
          rw [straysL_right hl hb2 (by simp) hm, (side_snoc w' z).1, (side_snoc w' z).2, f4]
          show (if z ≠ rootL (B.take (half B.length)) ∨ b ≠ rootL (B.drop (half B.length)) then _ else _) = true
          by_cases hd : z ≠ rootL (B.take (half B.length)) ∨ b ≠ rootL (B.drop (half B.length))
          · rw [if_pos hd]
            rw [rootL_two hb2] at e2
            exact apart_of (by rw [hzl, rootL_length _ (hB.take _)]) e2 hd
          · rw [if_neg hd]
            have hz1 : z = rootL (B.take (half B.length)) := Classical.byContradiction fun e => hd (.inl e)
            have hb1 : b = rootL (B.drop (half B.length)) := Classical.byContradiction fun e => hd (.inr e)
            by_cases hd2 : z ≠ rootL (A.take (half B.length)) ∨ a ≠ rootL (A.drop (half B.length))
            · rw [if_pos hd2]
              rw [hrA] at e1
              exact apart_of (by rw [hzl, rootL_length _ (hA.take _)]) e1 hd2
            · rw [if_neg hd2]
              have hz2 : z = rootL (A.take (half B.length)) := Classical.byContradiction fun e => hd2 (.inl e)
              have ha2 : a = rootL (A.drop (half B.length)) := Classical.byContradiction fun e => hd2 (.inr e)
              by_cases ht : A.take (half B.length) ≠ B.take (half B.length)
              · rw [if_pos ht]
                exact differ_other _ _ _ (Nat.le_refl _) (by simp; omega) (hA.take _) (hB.take _) (hz2.symm.trans hz1) ht
              · rw [if_neg ht]
                have ht' : A.take (half B.length) = B.take (half B.length) := Classical.byContradiction fun e => ht e
                refine ih _ _ false w' zero32 (by omega) (by simp; omega) (by simp; omega) (hA.drop _) (hB.drop _) (fun x hx => hW x (by simp [hx])) (fun h => by cases h) ?_ fun e => hne ?_
                · rw [show (A.drop (half B.length)).length = A.length - half B.length by simp, l2, f4, ha2, hb1]
                · have e' : A.drop (half B.length) = (B.drop (half B.length)).take (A.length - half B.length) := by
                    rw [show (A.drop (half B.length)).length = A.length - half B.length by simp] at e; exact e
                  have q1 : A = B.take (half B.length) ++ (B.drop (half B.length)).take (A.length - half B.length) := by
                    rw [← ht', ← e']; exact (List.take_append_drop _ _).symm
                  have q2 : B.take (half B.length + (A.length - half B.length)) = B.take (half B.length) ++ (B.drop (half B.length)).take (A.length - half B.length) := List.take_add
                  rw [show half B.length + (A.length - half B.length) = A.length by omega] at q2
                  exact q1.trans q2.symm
end Go.Proofs.Ytpohjldhbaalbaa
