/- Slices of integers and of bools that came in. -/
import Derived.Test.YtpohjldhbaalbaaMem
namespace Go.Proofs.Ytpohjldhbaalbaa
set_option linter.unusedVariables false
set_option linter.unusedSimpArgs false
set_option linter.unusedSectionVars false
/-- A slice of integers that reads as zs. -/
def Ints (k : IntKind) (w : World) (A : Option Addr) (zs : List Int) : Prop := 0 < zs.length → ∃ b off, A = some ⟨b, off, none⟩ ∧ b < w.heap.size ∧ ∀ i, i < zs.length → w.cell? ⟨b, off + i, none⟩ = some (.int k (zs.getD i 0))
/-- A slice of bools that reads as bs. -/
def Bools (w : World) (A : Option Addr) (bs : List Bool) : Prop := 0 < bs.length → ∃ b off, A = some ⟨b, off, none⟩ ∧ b < w.heap.size ∧ ∀ i, i < bs.length → w.cell? ⟨b, off + i, none⟩ = some (.bool (bs.getD i false))
theorem Ints.keep {k : IntKind} {w w' : World} {A : Option Addr} {zs : List Int} (h : Ints k w A zs) (hg : w.grownBy w' none) : Ints k w' A zs := fun h0 => by
  obtain ⟨b, off, hA, hb, hc⟩ := h h0
  exact ⟨b, off, hA, Nat.lt_of_lt_of_le hb hg.size, fun i hi => hg.cell (hc i hi) (by simp)⟩
theorem Bools.keep {w w' : World} {A : Option Addr} {bs : List Bool} (h : Bools w A bs) (hg : w.grownBy w' none) : Bools w' A bs := fun h0 => by
  obtain ⟨b, off, hA, hb, hc⟩ := h h0
  exact ⟨b, off, hA, Nat.lt_of_lt_of_le hb hg.size, fun i hi => hg.cell (hc i hi) (by simp)⟩
end Go.Proofs.Ytpohjldhbaalbaa
