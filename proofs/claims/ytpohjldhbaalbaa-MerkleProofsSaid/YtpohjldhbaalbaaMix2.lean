/- Regions that draw: operations under a guard that is met. -/
import Derived.Test.YtpohjldhbaalbaaMix
import Derived.Test.YtpohjldhbaalbaaOwn
namespace Go.Proofs.Ytpohjldhbaalbaa
set_option linter.unusedVariables false
set_option linter.unusedSimpArgs false
set_option linter.unusedSectionVars false
section
variable {P : Program} {ops : Array Oper} {C : World → Prop} {keeps : Nat → Bool}
theorem wpMix_pureW {Kn : Act → World → Prop} {i : Nat} {r : List (Nat × Bool)} {a : Act} {w : World} {o : Oper} (v : Value) (ho : ops[i]? = some o) (hg : Region.wanted o (yielded ops a.tmps) = true)
    (hr : ∀ W, C W → (execOp a.eval o).run P W = .ok (.value v) W) (h : wpMix P ops C keeps Kn r (a.put o.dst v) w) : wpMix P ops C keeps Kn ((i, true) :: r) a w :=
  ⟨o, v, ho, .inl ⟨hg, hr⟩, h⟩
theorem wpMix_loudW {Kn : Act → World → Prop} {i : Nat} {r : List (Nat × Bool)} {a : Act} {w : World} (o : Oper) (ho : ops[i]? = some o) (hg : Region.wanted o (yielded ops a.tmps) = true)
    (h : wpList P ops (OnlyNormal (MixNext P ops C keeps i Kn r)) [o] a w) : wpMix P ops C keeps Kn ((i, false) :: r) a w := by
  show wpOp P ops (OnlyNormal Kn) i (fun a' w' => (keeps i = true → C w') ∧ wpMix P ops C keeps Kn r a' w') a w
  unfold wpOp
  simp only [ho, wpList] at h ⊢
  simp only [hg, if_true] at h ⊢
  rcases h with h | ⟨_, a, w, hx⟩
  · left
    exact wp_onlyNormal (fun a w h => h) h
  · exact hx.elim
end
end Go.Proofs.Ytpohjldhbaalbaa
