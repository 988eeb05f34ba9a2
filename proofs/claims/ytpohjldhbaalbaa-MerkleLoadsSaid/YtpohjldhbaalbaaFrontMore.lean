/- More words for memory: two lists of entries joined, turned. -/
import Derived.Test.YtpohjldhbaalbaaFront3
import Derived.Test.YtpohjldhbaalbaaAwake3
import Derived.Test.YtpohjldhbaalbaaWf
namespace Go.Proofs.Ytpohjldhbaalbaa
set_option linter.unusedVariables false
set_option linter.unusedSimpArgs false
set_option linter.unusedSectionVars false
open Go.RowKit
set_option linter.unusedVariables false

section
variable {w0 w1 w2 w : World} {L1 L2 L : List Ent} {a b c d e : Ent}
theorem Own.join (h1 : Own w0 w1 L1) (h2 : Own w1 w2 L2) : Own w0 w2 (L2 ++ L1) := by
  refine ⟨grownBy_trans h1.grown h2.grown, fun x hx => ?_, List.pairwise_append.2 ⟨h2.apart, h1.apart, fun x hx y hy => ?_⟩⟩
  · rcases List.mem_append.1 hx with hx | hx
    · have := h2.good x hx
      exact ⟨this.1, this.2.1, fun k hk => Nat.le_trans h1.grown.size (this.2.2 k hk)⟩
    · exact (h1.call h2.grown).good x hx
  · cases hb : x.blk with
    | none => exact .inl rfl
    | some k =>
      refine .inr fun he => ?_
      have q1 := (h2.good x hx).2.2 k hb
      have q2 := (h1.good y hy).1.2 w1 (h1.good y hy).2.1 k he.symm
      omega
theorem Own.perm {L' : List Ent} (h : Own w0 w L) (hp : L.Perm L') : Own w0 w L' :=
  ⟨h.grown, fun x hx => h.good x (hp.mem_iff.2 hx), (hp.pairwise_iff (fun {x y} hxy => apart_symm x y hxy)).1 h.apart⟩
theorem Own.lower {base : Nat} {t : TypeId} {v : Value} {l : List (List UInt8)} (h : Own w0 w L) (i : Nat) (he : L[i]? = some (rowsE base t v l)) : Own w0 w (L.set i (rowsE w0.heap.size t v l)) := by
  refine h.turn he (rowsE_good _ _ _ _) ?_ rfl
  obtain ⟨hall, hl, ho⟩ := h.rows i he
  refine ⟨hall, hl, ?_⟩
  rcases ho with ho | ⟨g, cap, cur, hv, hb, x⟩
  · exact .inl ho
  · exact .inr ⟨g, cap, cur, hv, h.le i he (k := g) (by show v.ownBlock = some g; rw [hv]; rfl), x⟩
end
theorem carry_ones : ∀ (n : Nat) (T : Way) (d : List UInt8), T.length = onesL n → (carryL T n d).length = onesL (n + 1) := by
  intro n
  induction n using Nat.strongRecOn with
  | _ n ih =>
    intro T d hT
    by_cases h : n % 2 = 1
    · rw [carryL_odd _ _ _ h, ih (n / 2) (by omega) _ _ (by rw [List.length_dropLast, hT, onesL_two]; omega)]
      rw [onesL_two (n + 1), show (n + 1) / 2 = n / 2 + 1 by omega]; omega
    · rw [carryL_even _ _ _ (by omega), List.length_append, hT, onesL_two n, onesL_two (n + 1), show (n + 1) / 2 = n / 2 by omega]
      simp; omega
theorem built_d0 : Try.prog.built 27 [] = some (c8 zeros32).toArray := by kernel_rfl
end Go.Proofs.Ytpohjldhbaalbaa
