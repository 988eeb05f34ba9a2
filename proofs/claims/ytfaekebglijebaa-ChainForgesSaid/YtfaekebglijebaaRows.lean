/-
  No cell of these rows narrows 'for every input' (looked for: loops, veiled, ifaces, maps, wideKeys, modest, calm, conditions, laid).
  DERIVED. THE GIVEN ROWS OF THIS SEAT. 7 by the template 'for every input the law returns true; each argument reads behind the call as it read before'; 0 by the template 'total and deterministic' (their statements: YtfaekebglijebaaTotals.lean).
  GIVEN WITH THE SEED: the statements are not yours to turn. If you find one false, say at which input.
  Laid BY PROGRAM, IN A SANDBOX (cutbox-rows.mjs): the forced cells as the released guide's own fill.sh prints them over the translation 775c25c7e2593a6f… (all of the seat's roots in one cut). By AI agents, Wed Nov 11 2026. No macro, syntax, notation, axiom, sorry.
-/
import Derived.Test.YtfaekebglijebaaChecked
import GoSem.Claim
import GoSem.ClaimJoined
import GoSem.ClaimMapViews
import Derived.JoinedTies
import Derived.KernelRfl
namespace Go.Proofs.Ytfaekebglijebaa
/- THE CELL 'sum', in the pinned program and in every row, IS THE sha256 OF THE DUMP (.gsa) THAT YtfaekebglijebaaProg.lean LOADS. Nothing in Lean hashes anything: it is a label: what it is worth is what the hold of that sum in a sandbox is worth. -/
noncomputable def Try.pinned : Pinned := { name := "ytfaekebglijebaa", sum := "775c25c7e2593a6f84b47e7337ac1861b36dc886526112c7a1d378dd3f2643b7", checked := Try.checked }
namespace Rows
def none {H : Type} : Left H := { results := [], args := [] }

/-- 'hallmarklaw04.ChainClimbs': WHATEVER THE INPUT: true; the input reads as it did. -/
def chainClimbsSpec : ChangeSpec := { name := "chainClimbs", fn := fun _ => fun
  | [d1, d2, d3, d4, d5] => { results := [.lit (.bool true)], args := [d1, d2, d3, d4, d5] }
  | _ => none }
def chainClimbsRow : OpenClaim := { program := "ytfaekebglijebaa", sum := "775c25c7e2593a6f84b47e7337ac1861b36dc886526112c7a1d378dd3f2643b7", func := "hallmark/hallmarklaw04.ChainClimbs", spec := "chainClimbs", apart := false }
def ChainClimbsSaid : Prop := chainClimbsRow.holds Try.pinned (OpenSpec.ofChange chainClimbsSpec)

/-- ITS FALSE NEIGHBOUR: 'it returns false'. Refute it at one input. -/
def chainClimbsWrong : ChangeSpec := { name := "chainClimbs", fn := fun _ => fun
  | [d1, d2, d3, d4, d5] => { results := [.lit (.bool false)], args := [d1, d2, d3, d4, d5] }
  | _ => none }
def ChainClimbsWrongFalsely : Prop := chainClimbsRow.holds Try.pinned (OpenSpec.ofChange chainClimbsWrong)

/-- 'hallmarklaw04.ChainDigits': WHATEVER THE INPUT: true; the input reads as it did. -/
def chainDigitsSpec : ChangeSpec := { name := "chainDigits", fn := fun _ => fun
  | [d] => { results := [.lit (.bool true)], args := [d] }
  | _ => none }
def chainDigitsRow : OpenClaim := { program := "ytfaekebglijebaa", sum := "775c25c7e2593a6f84b47e7337ac1861b36dc886526112c7a1d378dd3f2643b7", func := "hallmark/hallmarklaw04.ChainDigits", spec := "chainDigits", apart := false }
def ChainDigitsSaid : Prop := chainDigitsRow.holds Try.pinned (OpenSpec.ofChange chainDigitsSpec)

/-- ITS FALSE NEIGHBOUR: 'it returns false'. Refute it at one input. -/
def chainDigitsWrong : ChangeSpec := { name := "chainDigits", fn := fun _ => fun
  | [d] => { results := [.lit (.bool false)], args := [d] }
  | _ => none }
def ChainDigitsWrongFalsely : Prop := chainDigitsRow.holds Try.pinned (OpenSpec.ofChange chainDigitsWrong)

/-- 'hallmarklaw04.ChainCrosses': WHATEVER THE INPUT: true; the input reads as it did. -/
def chainCrossesSpec : ChangeSpec := { name := "chainCrosses", fn := fun _ => fun
  | [d1, d2] => { results := [.lit (.bool true)], args := [d1, d2] }
  | _ => none }
def chainCrossesRow : OpenClaim := { program := "ytfaekebglijebaa", sum := "775c25c7e2593a6f84b47e7337ac1861b36dc886526112c7a1d378dd3f2643b7", func := "hallmark/hallmarklaw04.ChainCrosses", spec := "chainCrosses", apart := false }
def ChainCrossesSaid : Prop := chainCrossesRow.holds Try.pinned (OpenSpec.ofChange chainCrossesSpec)

/-- ITS FALSE NEIGHBOUR: 'it returns false'. Refute it at one input. -/
def chainCrossesWrong : ChangeSpec := { name := "chainCrosses", fn := fun _ => fun
  | [d1, d2] => { results := [.lit (.bool false)], args := [d1, d2] }
  | _ => none }
def ChainCrossesWrongFalsely : Prop := chainCrossesRow.holds Try.pinned (OpenSpec.ofChange chainCrossesWrong)

/-- 'hallmarklaw04.ChainSteps': WHATEVER THE INPUT: true; the input reads as it did. -/
def chainStepsSpec : ChangeSpec := { name := "chainSteps", fn := fun _ => fun
  | [d1, d2, d3, d4] => { results := [.lit (.bool true)], args := [d1, d2, d3, d4] }
  | _ => none }
def chainStepsRow : OpenClaim := { program := "ytfaekebglijebaa", sum := "775c25c7e2593a6f84b47e7337ac1861b36dc886526112c7a1d378dd3f2643b7", func := "hallmark/hallmarklaw04.ChainSteps", spec := "chainSteps", apart := false }
def ChainStepsSaid : Prop := chainStepsRow.holds Try.pinned (OpenSpec.ofChange chainStepsSpec)

/-- ITS FALSE NEIGHBOUR: 'it returns false'. Refute it at one input. -/
def chainStepsWrong : ChangeSpec := { name := "chainSteps", fn := fun _ => fun
  | [d1, d2, d3, d4] => { results := [.lit (.bool false)], args := [d1, d2, d3, d4] }
  | _ => none }
def ChainStepsWrongFalsely : Prop := chainStepsRow.holds Try.pinned (OpenSpec.ofChange chainStepsWrong)

/-- 'hallmarklaw04.ChainRecovers': WHATEVER THE INPUT: true; the input reads as it did. -/
def chainRecoversSpec : ChangeSpec := { name := "chainRecovers", fn := fun _ => fun
  | [d1, d2, d3] => { results := [.lit (.bool true)], args := [d1, d2, d3] }
  | _ => none }
def chainRecoversRow : OpenClaim := { program := "ytfaekebglijebaa", sum := "775c25c7e2593a6f84b47e7337ac1861b36dc886526112c7a1d378dd3f2643b7", func := "hallmark/hallmarklaw04.ChainRecovers", spec := "chainRecovers", apart := false }
def ChainRecoversSaid : Prop := chainRecoversRow.holds Try.pinned (OpenSpec.ofChange chainRecoversSpec)

/-- ITS FALSE NEIGHBOUR: 'it returns false'. Refute it at one input. -/
def chainRecoversWrong : ChangeSpec := { name := "chainRecovers", fn := fun _ => fun
  | [d1, d2, d3] => { results := [.lit (.bool false)], args := [d1, d2, d3] }
  | _ => none }
def ChainRecoversWrongFalsely : Prop := chainRecoversRow.holds Try.pinned (OpenSpec.ofChange chainRecoversWrong)

/-- 'hallmarklaw04.ChainForges': WHATEVER THE INPUT: true; the input reads as it did. -/
def chainForgesSpec : ChangeSpec := { name := "chainForges", fn := fun _ => fun
  | [d1, d2, d3, d4, d5] => { results := [.lit (.bool true)], args := [d1, d2, d3, d4, d5] }
  | _ => none }
def chainForgesRow : OpenClaim := { program := "ytfaekebglijebaa", sum := "775c25c7e2593a6f84b47e7337ac1861b36dc886526112c7a1d378dd3f2643b7", func := "hallmark/hallmarklaw04.ChainForges", spec := "chainForges", apart := false }
def ChainForgesSaid : Prop := chainForgesRow.holds Try.pinned (OpenSpec.ofChange chainForgesSpec)

/-- ITS FALSE NEIGHBOUR: 'it returns false'. Refute it at one input. -/
def chainForgesWrong : ChangeSpec := { name := "chainForges", fn := fun _ => fun
  | [d1, d2, d3, d4, d5] => { results := [.lit (.bool false)], args := [d1, d2, d3, d4, d5] }
  | _ => none }
def ChainForgesWrongFalsely : Prop := chainForgesRow.holds Try.pinned (OpenSpec.ofChange chainForgesWrong)

/-- 'hallmarklaw04.ChainSigns': WHATEVER THE INPUT: true; the input reads as it did. -/
def chainSignsSpec : ChangeSpec := { name := "chainSigns", fn := fun _ => fun
  | [d1, d2, d3] => { results := [.lit (.bool true)], args := [d1, d2, d3] }
  | _ => none }
def chainSignsRow : OpenClaim := { program := "ytfaekebglijebaa", sum := "775c25c7e2593a6f84b47e7337ac1861b36dc886526112c7a1d378dd3f2643b7", func := "hallmark/hallmarklaw04.ChainSigns", spec := "chainSigns", apart := false }
def ChainSignsSaid : Prop := chainSignsRow.holds Try.pinned (OpenSpec.ofChange chainSignsSpec)

/-- ITS FALSE NEIGHBOUR: 'it returns false'. Refute it at one input. -/
def chainSignsWrong : ChangeSpec := { name := "chainSigns", fn := fun _ => fun
  | [d1, d2, d3] => { results := [.lit (.bool false)], args := [d1, d2, d3] }
  | _ => none }
def ChainSignsWrongFalsely : Prop := chainSignsRow.holds Try.pinned (OpenSpec.ofChange chainSignsWrong)

/- THE SECOND FORM. 'bulk': how many values and letters a reading holds, each counted each time it is reached (what is shared counts as often as it is met; a slice's spare places count too). A statement '..UptoSaid' is the law's where the arguments, and the package variables that the reading takes, are together of bulk at most 1048576: NARROWER than '..Said'. Prove '..Said' where nothing that the law and all that it calls make is longer than what came in: it says more and counts as full. Else prove '..UptoSaid'. A law counts once. -/
mutual
def uptoBulk {H : Type} : DataW H → Nat
  | .lit (.string bytes) => bytes.length + 1
  | .lit _ => 1
  | .nil => 1
  | .ptr d => uptoBulk d + 1
  | .slice elems spare => uptoBulkAll elems + uptoBulkAll spare + 1
  | .agg parts => uptoBulkAll parts + 1
  | .iface _ d => uptoBulk d + 1
  | .map entries => uptoBulkEntries entries + 1
  | .held _ => 1
def uptoBulkAll {H : Type} : List (DataW H) → Nat
  | [] => 0
  | d :: r => uptoBulk d + uptoBulkAll r
def uptoBulkEntries {H : Type} : List (Lit × DataW H) → Nat
  | [] => 0
  | x :: r => uptoBulkEntry x + uptoBulkEntries r
def uptoBulkEntry {H : Type} : Lit × DataW H → Nat
  | (.string bytes, d) => bytes.length + uptoBulk d + 1
  | (_, d) => uptoBulk d + 1
 end
def uptoSmall : (H : Type) → List (DataW H) → Bool := fun _ ds => decide (uptoBulkAll ds ≤ 1048576)
def OpenSpec.upto (s : _root_.Go.ChangeSpec) : _root_.Go.OpenSpec := { _root_.Go.OpenSpec.ofChange s with cond := some uptoSmall }

/-- 'hallmarklaw04.ChainClimbs', WHERE WHAT IT READS IS OF BULK AT MOST 1048576: true; the input reads as it did. -/
def chainClimbsUptoRow : OpenClaim := { program := "ytfaekebglijebaa", sum := "775c25c7e2593a6f84b47e7337ac1861b36dc886526112c7a1d378dd3f2643b7", func := "hallmark/hallmarklaw04.ChainClimbs", spec := "chainClimbs", apart := false, narrowed := true }
def ChainClimbsUptoSaid : Prop := chainClimbsUptoRow.holds Try.pinned (OpenSpec.upto chainClimbsSpec)

/-- 'hallmarklaw04.ChainDigits', WHERE WHAT IT READS IS OF BULK AT MOST 1048576: true; the input reads as it did. -/
def chainDigitsUptoRow : OpenClaim := { program := "ytfaekebglijebaa", sum := "775c25c7e2593a6f84b47e7337ac1861b36dc886526112c7a1d378dd3f2643b7", func := "hallmark/hallmarklaw04.ChainDigits", spec := "chainDigits", apart := false, narrowed := true }
def ChainDigitsUptoSaid : Prop := chainDigitsUptoRow.holds Try.pinned (OpenSpec.upto chainDigitsSpec)

/-- 'hallmarklaw04.ChainCrosses', WHERE WHAT IT READS IS OF BULK AT MOST 1048576: true; the input reads as it did. -/
def chainCrossesUptoRow : OpenClaim := { program := "ytfaekebglijebaa", sum := "775c25c7e2593a6f84b47e7337ac1861b36dc886526112c7a1d378dd3f2643b7", func := "hallmark/hallmarklaw04.ChainCrosses", spec := "chainCrosses", apart := false, narrowed := true }
def ChainCrossesUptoSaid : Prop := chainCrossesUptoRow.holds Try.pinned (OpenSpec.upto chainCrossesSpec)

/-- 'hallmarklaw04.ChainSteps', WHERE WHAT IT READS IS OF BULK AT MOST 1048576: true; the input reads as it did. -/
def chainStepsUptoRow : OpenClaim := { program := "ytfaekebglijebaa", sum := "775c25c7e2593a6f84b47e7337ac1861b36dc886526112c7a1d378dd3f2643b7", func := "hallmark/hallmarklaw04.ChainSteps", spec := "chainSteps", apart := false, narrowed := true }
def ChainStepsUptoSaid : Prop := chainStepsUptoRow.holds Try.pinned (OpenSpec.upto chainStepsSpec)

/-- 'hallmarklaw04.ChainRecovers', WHERE WHAT IT READS IS OF BULK AT MOST 1048576: true; the input reads as it did. -/
def chainRecoversUptoRow : OpenClaim := { program := "ytfaekebglijebaa", sum := "775c25c7e2593a6f84b47e7337ac1861b36dc886526112c7a1d378dd3f2643b7", func := "hallmark/hallmarklaw04.ChainRecovers", spec := "chainRecovers", apart := false, narrowed := true }
def ChainRecoversUptoSaid : Prop := chainRecoversUptoRow.holds Try.pinned (OpenSpec.upto chainRecoversSpec)

/-- 'hallmarklaw04.ChainForges', WHERE WHAT IT READS IS OF BULK AT MOST 1048576: true; the input reads as it did. -/
def chainForgesUptoRow : OpenClaim := { program := "ytfaekebglijebaa", sum := "775c25c7e2593a6f84b47e7337ac1861b36dc886526112c7a1d378dd3f2643b7", func := "hallmark/hallmarklaw04.ChainForges", spec := "chainForges", apart := false, narrowed := true }
def ChainForgesUptoSaid : Prop := chainForgesUptoRow.holds Try.pinned (OpenSpec.upto chainForgesSpec)

/-- 'hallmarklaw04.ChainSigns', WHERE WHAT IT READS IS OF BULK AT MOST 1048576: true; the input reads as it did. -/
def chainSignsUptoRow : OpenClaim := { program := "ytfaekebglijebaa", sum := "775c25c7e2593a6f84b47e7337ac1861b36dc886526112c7a1d378dd3f2643b7", func := "hallmark/hallmarklaw04.ChainSigns", spec := "chainSigns", apart := false, narrowed := true }
def ChainSignsUptoSaid : Prop := chainSignsUptoRow.holds Try.pinned (OpenSpec.upto chainSignsSpec)

end Rows
end Go.Proofs.Ytfaekebglijebaa
