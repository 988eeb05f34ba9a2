/-
  No cell of these rows narrows 'for every input' (looked for: loops, veiled, ifaces, maps, wideKeys, modest, calm, conditions, laid).
  DERIVED. THE GIVEN ROWS OF THIS SEAT. 8 by the template 'for every input the law returns true; each argument reads behind the call as it read before'; 0 by the template 'total and deterministic' (their statements: YtgagpbbmlpbjpaaTotals.lean).
  GIVEN WITH THE SEED: the statements are not yours to turn. If you find one false, say at which input.
  Laid BY PROGRAM, IN A SANDBOX (cutbox-rows.mjs): the forced cells as the released guide's own fill.sh prints them over the translation 1ef1c0e51f01e838… (all of the seat's roots in one cut). By AI agents, Wed Nov 11 2026. No macro, syntax, notation, axiom, sorry.
-/
import Derived.Test.YtgagpbbmlpbjpaaChecked
import GoSem.Claim
import GoSem.ClaimJoined
import GoSem.ClaimMapViews
import Derived.JoinedTies
import Derived.KernelRfl
namespace Go.Proofs.Ytgagpbbmlpbjpaa
/- THE CELL 'sum', in the pinned program and in every row, IS THE sha256 OF THE DUMP (.gsa) THAT YtgagpbbmlpbjpaaProg.lean LOADS. Nothing in Lean hashes anything: it is a label: what it is worth is what the hold of that sum in a sandbox is worth. -/
noncomputable def Try.pinned : Pinned := { name := "ytgagpbbmlpbjpaa", sum := "1ef1c0e51f01e83844b0832eb6126be6e2588c4fc3665c74c9c8d6048fd7f6ad", checked := Try.checked }
namespace Rows
def none {H : Type} : Left H := { results := [], args := [] }

/-- 'hallmarklaw02.DigestSums': WHATEVER THE INPUT: true; the input reads as it did. -/
def digestSumsSpec : ChangeSpec := { name := "digestSums", fn := fun _ => fun
  | [d] => { results := [.lit (.bool true)], args := [d] }
  | _ => none }
def digestSumsRow : OpenClaim := { program := "ytgagpbbmlpbjpaa", sum := "1ef1c0e51f01e83844b0832eb6126be6e2588c4fc3665c74c9c8d6048fd7f6ad", func := "hallmark/hallmarklaw02.DigestSums", spec := "digestSums", apart := false }
def DigestSumsSaid : Prop := digestSumsRow.holds Try.pinned (OpenSpec.ofChange digestSumsSpec)

/-- ITS FALSE NEIGHBOUR: 'it returns false'. Refute it at one input. -/
def digestSumsWrong : ChangeSpec := { name := "digestSums", fn := fun _ => fun
  | [d] => { results := [.lit (.bool false)], args := [d] }
  | _ => none }
def DigestSumsWrongFalsely : Prop := digestSumsRow.holds Try.pinned (OpenSpec.ofChange digestSumsWrong)

/-- 'hallmarklaw02.DigestPads': WHATEVER THE INPUT: true; the input reads as it did. -/
def digestPadsSpec : ChangeSpec := { name := "digestPads", fn := fun _ => fun
  | [d1, d2] => { results := [.lit (.bool true)], args := [d1, d2] }
  | _ => none }
def digestPadsRow : OpenClaim := { program := "ytgagpbbmlpbjpaa", sum := "1ef1c0e51f01e83844b0832eb6126be6e2588c4fc3665c74c9c8d6048fd7f6ad", func := "hallmark/hallmarklaw02.DigestPads", spec := "digestPads", apart := false }
def DigestPadsSaid : Prop := digestPadsRow.holds Try.pinned (OpenSpec.ofChange digestPadsSpec)

/-- ITS FALSE NEIGHBOUR: 'it returns false'. Refute it at one input. -/
def digestPadsWrong : ChangeSpec := { name := "digestPads", fn := fun _ => fun
  | [d1, d2] => { results := [.lit (.bool false)], args := [d1, d2] }
  | _ => none }
def DigestPadsWrongFalsely : Prop := digestPadsRow.holds Try.pinned (OpenSpec.ofChange digestPadsWrong)

/-- 'hallmarklaw02.DigestOrders': WHATEVER THE INPUT: true; the input reads as it did. -/
def digestOrdersSpec : ChangeSpec := { name := "digestOrders", fn := fun _ => fun
  | [d1, d2, d3] => { results := [.lit (.bool true)], args := [d1, d2, d3] }
  | _ => none }
def digestOrdersRow : OpenClaim := { program := "ytgagpbbmlpbjpaa", sum := "1ef1c0e51f01e83844b0832eb6126be6e2588c4fc3665c74c9c8d6048fd7f6ad", func := "hallmark/hallmarklaw02.DigestOrders", spec := "digestOrders", apart := false }
def DigestOrdersSaid : Prop := digestOrdersRow.holds Try.pinned (OpenSpec.ofChange digestOrdersSpec)

/-- ITS FALSE NEIGHBOUR: 'it returns false'. Refute it at one input. -/
def digestOrdersWrong : ChangeSpec := { name := "digestOrders", fn := fun _ => fun
  | [d1, d2, d3] => { results := [.lit (.bool false)], args := [d1, d2, d3] }
  | _ => none }
def DigestOrdersWrongFalsely : Prop := digestOrdersRow.holds Try.pinned (OpenSpec.ofChange digestOrdersWrong)

/-- 'hallmarklaw02.DigestSaves': WHATEVER THE INPUT: true; the input reads as it did. -/
def digestSavesSpec : ChangeSpec := { name := "digestSaves", fn := fun _ => fun
  | [d1, d2] => { results := [.lit (.bool true)], args := [d1, d2] }
  | _ => none }
def digestSavesRow : OpenClaim := { program := "ytgagpbbmlpbjpaa", sum := "1ef1c0e51f01e83844b0832eb6126be6e2588c4fc3665c74c9c8d6048fd7f6ad", func := "hallmark/hallmarklaw02.DigestSaves", spec := "digestSaves", apart := false }
def DigestSavesSaid : Prop := digestSavesRow.holds Try.pinned (OpenSpec.ofChange digestSavesSpec)

/-- ITS FALSE NEIGHBOUR: 'it returns false'. Refute it at one input. -/
def digestSavesWrong : ChangeSpec := { name := "digestSaves", fn := fun _ => fun
  | [d1, d2] => { results := [.lit (.bool false)], args := [d1, d2] }
  | _ => none }
def DigestSavesWrongFalsely : Prop := digestSavesRow.holds Try.pinned (OpenSpec.ofChange digestSavesWrong)

/-- 'hallmarklaw02.DigestNil': WHATEVER THE INPUT: true; the input reads as it did. -/
def digestNilSpec : ChangeSpec := { name := "digestNil", fn := fun _ => fun
  | [d] => { results := [.lit (.bool true)], args := [d] }
  | _ => none }
def digestNilRow : OpenClaim := { program := "ytgagpbbmlpbjpaa", sum := "1ef1c0e51f01e83844b0832eb6126be6e2588c4fc3665c74c9c8d6048fd7f6ad", func := "hallmark/hallmarklaw02.DigestNil", spec := "digestNil", apart := false }
def DigestNilSaid : Prop := digestNilRow.holds Try.pinned (OpenSpec.ofChange digestNilSpec)

/-- ITS FALSE NEIGHBOUR: 'it returns false'. Refute it at one input. -/
def digestNilWrong : ChangeSpec := { name := "digestNil", fn := fun _ => fun
  | [d] => { results := [.lit (.bool false)], args := [d] }
  | _ => none }
def DigestNilWrongFalsely : Prop := digestNilRow.holds Try.pinned (OpenSpec.ofChange digestNilWrong)

/-- 'hallmarklaw02.DigestTexts': WHATEVER THE INPUT: true; the input reads as it did. -/
def digestTextsSpec : ChangeSpec := { name := "digestTexts", fn := fun _ => fun
  | [d1, d2] => { results := [.lit (.bool true)], args := [d1, d2] }
  | _ => none }
def digestTextsRow : OpenClaim := { program := "ytgagpbbmlpbjpaa", sum := "1ef1c0e51f01e83844b0832eb6126be6e2588c4fc3665c74c9c8d6048fd7f6ad", func := "hallmark/hallmarklaw02.DigestTexts", spec := "digestTexts", apart := false }
def DigestTextsSaid : Prop := digestTextsRow.holds Try.pinned (OpenSpec.ofChange digestTextsSpec)

/-- ITS FALSE NEIGHBOUR: 'it returns false'. Refute it at one input. -/
def digestTextsWrong : ChangeSpec := { name := "digestTexts", fn := fun _ => fun
  | [d1, d2] => { results := [.lit (.bool false)], args := [d1, d2] }
  | _ => none }
def DigestTextsWrongFalsely : Prop := digestTextsRow.holds Try.pinned (OpenSpec.ofChange digestTextsWrong)

/-- 'hallmarklaw02.DigestParts': WHATEVER THE INPUT: true; the input reads as it did. -/
def digestPartsSpec : ChangeSpec := { name := "digestParts", fn := fun _ => fun
  | [d1, d2, d3] => { results := [.lit (.bool true)], args := [d1, d2, d3] }
  | _ => none }
def digestPartsRow : OpenClaim := { program := "ytgagpbbmlpbjpaa", sum := "1ef1c0e51f01e83844b0832eb6126be6e2588c4fc3665c74c9c8d6048fd7f6ad", func := "hallmark/hallmarklaw02.DigestParts", spec := "digestParts", apart := false }
def DigestPartsSaid : Prop := digestPartsRow.holds Try.pinned (OpenSpec.ofChange digestPartsSpec)

/-- ITS FALSE NEIGHBOUR: 'it returns false'. Refute it at one input. -/
def digestPartsWrong : ChangeSpec := { name := "digestParts", fn := fun _ => fun
  | [d1, d2, d3] => { results := [.lit (.bool false)], args := [d1, d2, d3] }
  | _ => none }
def DigestPartsWrongFalsely : Prop := digestPartsRow.holds Try.pinned (OpenSpec.ofChange digestPartsWrong)

/-- 'hallmarklaw02.DigestLoads': WHATEVER THE INPUT: true; the input reads as it did. -/
def digestLoadsSpec : ChangeSpec := { name := "digestLoads", fn := fun _ => fun
  | [d1, d2] => { results := [.lit (.bool true)], args := [d1, d2] }
  | _ => none }
def digestLoadsRow : OpenClaim := { program := "ytgagpbbmlpbjpaa", sum := "1ef1c0e51f01e83844b0832eb6126be6e2588c4fc3665c74c9c8d6048fd7f6ad", func := "hallmark/hallmarklaw02.DigestLoads", spec := "digestLoads", apart := false }
def DigestLoadsSaid : Prop := digestLoadsRow.holds Try.pinned (OpenSpec.ofChange digestLoadsSpec)

/-- ITS FALSE NEIGHBOUR: 'it returns false'. Refute it at one input. -/
def digestLoadsWrong : ChangeSpec := { name := "digestLoads", fn := fun _ => fun
  | [d1, d2] => { results := [.lit (.bool false)], args := [d1, d2] }
  | _ => none }
def DigestLoadsWrongFalsely : Prop := digestLoadsRow.holds Try.pinned (OpenSpec.ofChange digestLoadsWrong)

/- THE SECOND FORM. 'bulk': how many values and letters a reading holds, each counted each time it is reached (what is shared counts as often as it is met; a slice's spare places count too). A statement '..UptoSaid' is the law's where the arguments, and the package variables that the reading takes, are together of bulk at most 1048576: NARROWER than '..Said'. Prove '..Said' where nothing that the law and all that it calls make is longer than what came in: it says more and counts as full. Else prove '..UptoSaid'. A law counts once. -/
mutual
def uptoBulk {H : Type} : DataW H → Nat
  | .lit (.string bytes) => bytes.length + 1
  | .lit _ => 1
  | .nil => 1
  | .ptr d => uptoBulk d + 1
  | .slice elems spare => uptoBulkAll elems + uptoBulkAll spare + 1
  | .agg parts => uptoBulkAll parts + 1
  | .iface _ d => uptoBulk d + 1
  | .map entries => uptoBulkEntries entries + 1
  | .held _ => 1
def uptoBulkAll {H : Type} : List (DataW H) → Nat
  | [] => 0
  | d :: r => uptoBulk d + uptoBulkAll r
def uptoBulkEntries {H : Type} : List (Lit × DataW H) → Nat
  | [] => 0
  | x :: r => uptoBulkEntry x + uptoBulkEntries r
def uptoBulkEntry {H : Type} : Lit × DataW H → Nat
  | (.string bytes, d) => bytes.length + uptoBulk d + 1
  | (_, d) => uptoBulk d + 1
 end
def uptoSmall : (H : Type) → List (DataW H) → Bool := fun _ ds => decide (uptoBulkAll ds ≤ 1048576)
def OpenSpec.upto (s : _root_.Go.ChangeSpec) : _root_.Go.OpenSpec := { _root_.Go.OpenSpec.ofChange s with cond := some uptoSmall }

/-- 'hallmarklaw02.DigestSums', WHERE WHAT IT READS IS OF BULK AT MOST 1048576: true; the input reads as it did. -/
def digestSumsUptoRow : OpenClaim := { program := "ytgagpbbmlpbjpaa", sum := "1ef1c0e51f01e83844b0832eb6126be6e2588c4fc3665c74c9c8d6048fd7f6ad", func := "hallmark/hallmarklaw02.DigestSums", spec := "digestSums", apart := false, narrowed := true }
def DigestSumsUptoSaid : Prop := digestSumsUptoRow.holds Try.pinned (OpenSpec.upto digestSumsSpec)

/-- 'hallmarklaw02.DigestPads', WHERE WHAT IT READS IS OF BULK AT MOST 1048576: true; the input reads as it did. -/
def digestPadsUptoRow : OpenClaim := { program := "ytgagpbbmlpbjpaa", sum := "1ef1c0e51f01e83844b0832eb6126be6e2588c4fc3665c74c9c8d6048fd7f6ad", func := "hallmark/hallmarklaw02.DigestPads", spec := "digestPads", apart := false, narrowed := true }
def DigestPadsUptoSaid : Prop := digestPadsUptoRow.holds Try.pinned (OpenSpec.upto digestPadsSpec)

/-- 'hallmarklaw02.DigestOrders', WHERE WHAT IT READS IS OF BULK AT MOST 1048576: true; the input reads as it did. -/
def digestOrdersUptoRow : OpenClaim := { program := "ytgagpbbmlpbjpaa", sum := "1ef1c0e51f01e83844b0832eb6126be6e2588c4fc3665c74c9c8d6048fd7f6ad", func := "hallmark/hallmarklaw02.DigestOrders", spec := "digestOrders", apart := false, narrowed := true }
def DigestOrdersUptoSaid : Prop := digestOrdersUptoRow.holds Try.pinned (OpenSpec.upto digestOrdersSpec)

/-- 'hallmarklaw02.DigestSaves', WHERE WHAT IT READS IS OF BULK AT MOST 1048576: true; the input reads as it did. -/
def digestSavesUptoRow : OpenClaim := { program := "ytgagpbbmlpbjpaa", sum := "1ef1c0e51f01e83844b0832eb6126be6e2588c4fc3665c74c9c8d6048fd7f6ad", func := "hallmark/hallmarklaw02.DigestSaves", spec := "digestSaves", apart := false, narrowed := true }
def DigestSavesUptoSaid : Prop := digestSavesUptoRow.holds Try.pinned (OpenSpec.upto digestSavesSpec)

/-- 'hallmarklaw02.DigestNil', WHERE WHAT IT READS IS OF BULK AT MOST 1048576: true; the input reads as it did. -/
def digestNilUptoRow : OpenClaim := { program := "ytgagpbbmlpbjpaa", sum := "1ef1c0e51f01e83844b0832eb6126be6e2588c4fc3665c74c9c8d6048fd7f6ad", func := "hallmark/hallmarklaw02.DigestNil", spec := "digestNil", apart := false, narrowed := true }
def DigestNilUptoSaid : Prop := digestNilUptoRow.holds Try.pinned (OpenSpec.upto digestNilSpec)

/-- 'hallmarklaw02.DigestTexts', WHERE WHAT IT READS IS OF BULK AT MOST 1048576: true; the input reads as it did. -/
def digestTextsUptoRow : OpenClaim := { program := "ytgagpbbmlpbjpaa", sum := "1ef1c0e51f01e83844b0832eb6126be6e2588c4fc3665c74c9c8d6048fd7f6ad", func := "hallmark/hallmarklaw02.DigestTexts", spec := "digestTexts", apart := false, narrowed := true }
def DigestTextsUptoSaid : Prop := digestTextsUptoRow.holds Try.pinned (OpenSpec.upto digestTextsSpec)

/-- 'hallmarklaw02.DigestParts', WHERE WHAT IT READS IS OF BULK AT MOST 1048576: true; the input reads as it did. -/
def digestPartsUptoRow : OpenClaim := { program := "ytgagpbbmlpbjpaa", sum := "1ef1c0e51f01e83844b0832eb6126be6e2588c4fc3665c74c9c8d6048fd7f6ad", func := "hallmark/hallmarklaw02.DigestParts", spec := "digestParts", apart := false, narrowed := true }
def DigestPartsUptoSaid : Prop := digestPartsUptoRow.holds Try.pinned (OpenSpec.upto digestPartsSpec)

/-- 'hallmarklaw02.DigestLoads', WHERE WHAT IT READS IS OF BULK AT MOST 1048576: true; the input reads as it did. -/
def digestLoadsUptoRow : OpenClaim := { program := "ytgagpbbmlpbjpaa", sum := "1ef1c0e51f01e83844b0832eb6126be6e2588c4fc3665c74c9c8d6048fd7f6ad", func := "hallmark/hallmarklaw02.DigestLoads", spec := "digestLoads", apart := false, narrowed := true }
def DigestLoadsUptoSaid : Prop := digestLoadsUptoRow.holds Try.pinned (OpenSpec.upto digestLoadsSpec)

end Rows
end Go.Proofs.Ytgagpbbmlpbjpaa
