/- Arguments opened: a slice with no address has no room. No program in sight. -/
import Derived.Test.YtpohjldhbaalbaaOpen
namespace Go.Proofs.Ytpohjldhbaalbaa
set_option linter.unusedVariables false
set_option linter.unusedSimpArgs false
set_option linter.unusedSectionVars false
open Go.RowKit
section
variable {P : Program} {H : Type} {enc : TypeId × Value → H} {W : World}
theorem nil_slice {t e : TypeId} (ht : P.underlying t = some (.slice e)) {A : Option Addr} {len cap : Nat} {d : DataW H} {pl : List MemPlace}
    (h : DataW.Trod enc P W 0 (fun _ => true) true t (.slice A len cap) d pl) : A = none → cap = 0 := by
  obtain ⟨fuel, hf⟩ := h
  rcases Go.Deep.open_slice ht hf with ⟨hcs, hx⟩ | ⟨a, len', cap', m, n, D, Pl, hcs, _, hl, hm, hmm, hx, hel⟩
  · simp [Value.cells] at hcs
    exact fun _ => hcs.2.2
  · simp [Value.cells] at hcs
    intro hA
    rw [hcs.1] at hA
    cases hA
end
end Go.Proofs.Ytpohjldhbaalbaa
