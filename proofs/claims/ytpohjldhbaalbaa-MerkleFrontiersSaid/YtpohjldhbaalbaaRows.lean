/-
  No cell of these rows narrows 'for every input' (looked for: loops, veiled, ifaces, maps, wideKeys, modest, calm, conditions, laid).
  DERIVED. THE GIVEN ROWS OF THIS SEAT. 10 by the template 'for every input the law returns true; each argument reads behind the call as it read before'; 0 by the template 'total and deterministic' (their statements: YtpohjldhbaalbaaTotals.lean).
  GIVEN WITH THE SEED: the statements are not yours to turn. If you find one false, say at which input.
  Laid BY PROGRAM, IN A SANDBOX (cutbox-rows.mjs): the forced cells as the released guide's own fill.sh prints them over the translation e06fb5eaf69970c5… (all of the seat's roots in one cut). By AI agents, Wed Nov 11 2026. No macro, syntax, notation, axiom, sorry.
-/
import Derived.Test.YtpohjldhbaalbaaChecked
import GoSem.Claim
import GoSem.ClaimJoined
import GoSem.ClaimMapViews
import Derived.JoinedTies
import Derived.KernelRfl
namespace Go.Proofs.Ytpohjldhbaalbaa
/- THE CELL 'sum', in the pinned program and in every row, IS THE sha256 OF THE DUMP (.gsa) THAT YtpohjldhbaalbaaProg.lean LOADS. Nothing in Lean hashes anything: it is a label: what it is worth is what the hold of that sum in a sandbox is worth. -/
noncomputable def Try.pinned : Pinned := { name := "ytpohjldhbaalbaa", sum := "e06fb5eaf69970c5f71cfae22d3ff39747d5b362dc84f8cdffb09376dd1841fc", checked := Try.checked }
namespace Rows
def none {H : Type} : Left H := { results := [], args := [] }

/-- 'hallmarklaw03.MerkleRoots': WHATEVER THE INPUT: true; the input reads as it did. -/
def merkleRootsSpec : ChangeSpec := { name := "merkleRoots", fn := fun _ => fun
  | [d1, d2] => { results := [.lit (.bool true)], args := [d1, d2] }
  | _ => none }
def merkleRootsRow : OpenClaim := { program := "ytpohjldhbaalbaa", sum := "e06fb5eaf69970c5f71cfae22d3ff39747d5b362dc84f8cdffb09376dd1841fc", func := "hallmark/hallmarklaw03.MerkleRoots", spec := "merkleRoots", recurses := true, apart := false }
def MerkleRootsSaid : Prop := merkleRootsRow.holds Try.pinned (OpenSpec.ofChange merkleRootsSpec)

/-- ITS FALSE NEIGHBOUR: 'it returns false'. Refute it at one input. -/
def merkleRootsWrong : ChangeSpec := { name := "merkleRoots", fn := fun _ => fun
  | [d1, d2] => { results := [.lit (.bool false)], args := [d1, d2] }
  | _ => none }
def MerkleRootsWrongFalsely : Prop := merkleRootsRow.holds Try.pinned (OpenSpec.ofChange merkleRootsWrong)

/-- 'hallmarklaw03.MerklePaths': WHATEVER THE INPUT: true; the input reads as it did. -/
def merklePathsSpec : ChangeSpec := { name := "merklePaths", fn := fun _ => fun
  | [d1, d2] => { results := [.lit (.bool true)], args := [d1, d2] }
  | _ => none }
def merklePathsRow : OpenClaim := { program := "ytpohjldhbaalbaa", sum := "e06fb5eaf69970c5f71cfae22d3ff39747d5b362dc84f8cdffb09376dd1841fc", func := "hallmark/hallmarklaw03.MerklePaths", spec := "merklePaths", recurses := true, apart := false }
def MerklePathsSaid : Prop := merklePathsRow.holds Try.pinned (OpenSpec.ofChange merklePathsSpec)

/-- ITS FALSE NEIGHBOUR: 'it returns false'. Refute it at one input. -/
def merklePathsWrong : ChangeSpec := { name := "merklePaths", fn := fun _ => fun
  | [d1, d2] => { results := [.lit (.bool false)], args := [d1, d2] }
  | _ => none }
def MerklePathsWrongFalsely : Prop := merklePathsRow.holds Try.pinned (OpenSpec.ofChange merklePathsWrong)

/-- 'hallmarklaw03.MerkleChecks': WHATEVER THE INPUT: true; the input reads as it did. -/
def merkleChecksSpec : ChangeSpec := { name := "merkleChecks", fn := fun _ => fun
  | [d1, d2, d3, d4] => { results := [.lit (.bool true)], args := [d1, d2, d3, d4] }
  | _ => none }
def merkleChecksRow : OpenClaim := { program := "ytpohjldhbaalbaa", sum := "e06fb5eaf69970c5f71cfae22d3ff39747d5b362dc84f8cdffb09376dd1841fc", func := "hallmark/hallmarklaw03.MerkleChecks", spec := "merkleChecks", recurses := true, apart := false }
def MerkleChecksSaid : Prop := merkleChecksRow.holds Try.pinned (OpenSpec.ofChange merkleChecksSpec)

/-- ITS FALSE NEIGHBOUR: 'it returns false'. Refute it at one input. -/
def merkleChecksWrong : ChangeSpec := { name := "merkleChecks", fn := fun _ => fun
  | [d1, d2, d3, d4] => { results := [.lit (.bool false)], args := [d1, d2, d3, d4] }
  | _ => none }
def MerkleChecksWrongFalsely : Prop := merkleChecksRow.holds Try.pinned (OpenSpec.ofChange merkleChecksWrong)

/-- 'hallmarklaw03.MerkleApart': WHATEVER THE INPUT: true; the input reads as it did. -/
def merkleApartSpec : ChangeSpec := { name := "merkleApart", fn := fun _ => fun
  | [d1, d2, d3, d4] => { results := [.lit (.bool true)], args := [d1, d2, d3, d4] }
  | _ => none }
def merkleApartRow : OpenClaim := { program := "ytpohjldhbaalbaa", sum := "e06fb5eaf69970c5f71cfae22d3ff39747d5b362dc84f8cdffb09376dd1841fc", func := "hallmark/hallmarklaw03.MerkleApart", spec := "merkleApart", recurses := true, apart := false }
def MerkleApartSaid : Prop := merkleApartRow.holds Try.pinned (OpenSpec.ofChange merkleApartSpec)

/-- ITS FALSE NEIGHBOUR: 'it returns false'. Refute it at one input. -/
def merkleApartWrong : ChangeSpec := { name := "merkleApart", fn := fun _ => fun
  | [d1, d2, d3, d4] => { results := [.lit (.bool false)], args := [d1, d2, d3, d4] }
  | _ => none }
def MerkleApartWrongFalsely : Prop := merkleApartRow.holds Try.pinned (OpenSpec.ofChange merkleApartWrong)

/-- 'hallmarklaw03.MerkleExtends': WHATEVER THE INPUT: true; the input reads as it did. -/
def merkleExtendsSpec : ChangeSpec := { name := "merkleExtends", fn := fun _ => fun
  | [d1, d2, d3, d4] => { results := [.lit (.bool true)], args := [d1, d2, d3, d4] }
  | _ => none }
def merkleExtendsRow : OpenClaim := { program := "ytpohjldhbaalbaa", sum := "e06fb5eaf69970c5f71cfae22d3ff39747d5b362dc84f8cdffb09376dd1841fc", func := "hallmark/hallmarklaw03.MerkleExtends", spec := "merkleExtends", recurses := true, apart := false }
def MerkleExtendsSaid : Prop := merkleExtendsRow.holds Try.pinned (OpenSpec.ofChange merkleExtendsSpec)

/-- ITS FALSE NEIGHBOUR: 'it returns false'. Refute it at one input. -/
def merkleExtendsWrong : ChangeSpec := { name := "merkleExtends", fn := fun _ => fun
  | [d1, d2, d3, d4] => { results := [.lit (.bool false)], args := [d1, d2, d3, d4] }
  | _ => none }
def MerkleExtendsWrongFalsely : Prop := merkleExtendsRow.holds Try.pinned (OpenSpec.ofChange merkleExtendsWrong)

/-- 'hallmarklaw03.MerkleStays': WHATEVER THE INPUT: true; the input reads as it did. -/
def merkleStaysSpec : ChangeSpec := { name := "merkleStays", fn := fun _ => fun
  | [d1, d2, d3] => { results := [.lit (.bool true)], args := [d1, d2, d3] }
  | _ => none }
def merkleStaysRow : OpenClaim := { program := "ytpohjldhbaalbaa", sum := "e06fb5eaf69970c5f71cfae22d3ff39747d5b362dc84f8cdffb09376dd1841fc", func := "hallmark/hallmarklaw03.MerkleStays", spec := "merkleStays", recurses := true, apart := false }
def MerkleStaysSaid : Prop := merkleStaysRow.holds Try.pinned (OpenSpec.ofChange merkleStaysSpec)

/-- ITS FALSE NEIGHBOUR: 'it returns false'. Refute it at one input. -/
def merkleStaysWrong : ChangeSpec := { name := "merkleStays", fn := fun _ => fun
  | [d1, d2, d3] => { results := [.lit (.bool false)], args := [d1, d2, d3] }
  | _ => none }
def MerkleStaysWrongFalsely : Prop := merkleStaysRow.holds Try.pinned (OpenSpec.ofChange merkleStaysWrong)

/-- 'hallmarklaw03.MerkleNil': WHATEVER THE INPUT: true; the input reads as it did. -/
def merkleNilSpec : ChangeSpec := { name := "merkleNil", fn := fun _ => fun
  | [d] => { results := [.lit (.bool true)], args := [d] }
  | _ => none }
def merkleNilRow : OpenClaim := { program := "ytpohjldhbaalbaa", sum := "e06fb5eaf69970c5f71cfae22d3ff39747d5b362dc84f8cdffb09376dd1841fc", func := "hallmark/hallmarklaw03.MerkleNil", spec := "merkleNil", recurses := true, apart := false }
def MerkleNilSaid : Prop := merkleNilRow.holds Try.pinned (OpenSpec.ofChange merkleNilSpec)

/-- ITS FALSE NEIGHBOUR: 'it returns false'. Refute it at one input. -/
def merkleNilWrong : ChangeSpec := { name := "merkleNil", fn := fun _ => fun
  | [d] => { results := [.lit (.bool false)], args := [d] }
  | _ => none }
def MerkleNilWrongFalsely : Prop := merkleNilRow.holds Try.pinned (OpenSpec.ofChange merkleNilWrong)

/-- 'hallmarklaw03.MerkleProofs': WHATEVER THE INPUT: true; the input reads as it did. -/
def merkleProofsSpec : ChangeSpec := { name := "merkleProofs", fn := fun _ => fun
  | [d1, d2] => { results := [.lit (.bool true)], args := [d1, d2] }
  | _ => none }
def merkleProofsRow : OpenClaim := { program := "ytpohjldhbaalbaa", sum := "e06fb5eaf69970c5f71cfae22d3ff39747d5b362dc84f8cdffb09376dd1841fc", func := "hallmark/hallmarklaw03.MerkleProofs", spec := "merkleProofs", recurses := true, apart := false }
def MerkleProofsSaid : Prop := merkleProofsRow.holds Try.pinned (OpenSpec.ofChange merkleProofsSpec)

/-- ITS FALSE NEIGHBOUR: 'it returns false'. Refute it at one input. -/
def merkleProofsWrong : ChangeSpec := { name := "merkleProofs", fn := fun _ => fun
  | [d1, d2] => { results := [.lit (.bool false)], args := [d1, d2] }
  | _ => none }
def MerkleProofsWrongFalsely : Prop := merkleProofsRow.holds Try.pinned (OpenSpec.ofChange merkleProofsWrong)

/-- 'hallmarklaw03.MerkleLoads': WHATEVER THE INPUT: true; the input reads as it did. -/
def merkleLoadsSpec : ChangeSpec := { name := "merkleLoads", fn := fun _ => fun
  | [d1, d2, d3] => { results := [.lit (.bool true)], args := [d1, d2, d3] }
  | _ => none }
def merkleLoadsRow : OpenClaim := { program := "ytpohjldhbaalbaa", sum := "e06fb5eaf69970c5f71cfae22d3ff39747d5b362dc84f8cdffb09376dd1841fc", func := "hallmark/hallmarklaw03.MerkleLoads", spec := "merkleLoads", recurses := true, apart := false }
def MerkleLoadsSaid : Prop := merkleLoadsRow.holds Try.pinned (OpenSpec.ofChange merkleLoadsSpec)

/-- ITS FALSE NEIGHBOUR: 'it returns false'. Refute it at one input. -/
def merkleLoadsWrong : ChangeSpec := { name := "merkleLoads", fn := fun _ => fun
  | [d1, d2, d3] => { results := [.lit (.bool false)], args := [d1, d2, d3] }
  | _ => none }
def MerkleLoadsWrongFalsely : Prop := merkleLoadsRow.holds Try.pinned (OpenSpec.ofChange merkleLoadsWrong)

/-- 'hallmarklaw03.MerkleFrontiers': WHATEVER THE INPUT: true; the input reads as it did. -/
def merkleFrontiersSpec : ChangeSpec := { name := "merkleFrontiers", fn := fun _ => fun
  | [d1, d2] => { results := [.lit (.bool true)], args := [d1, d2] }
  | _ => none }
def merkleFrontiersRow : OpenClaim := { program := "ytpohjldhbaalbaa", sum := "e06fb5eaf69970c5f71cfae22d3ff39747d5b362dc84f8cdffb09376dd1841fc", func := "hallmark/hallmarklaw03.MerkleFrontiers", spec := "merkleFrontiers", recurses := true, apart := false }
def MerkleFrontiersSaid : Prop := merkleFrontiersRow.holds Try.pinned (OpenSpec.ofChange merkleFrontiersSpec)

/-- ITS FALSE NEIGHBOUR: 'it returns false'. Refute it at one input. -/
def merkleFrontiersWrong : ChangeSpec := { name := "merkleFrontiers", fn := fun _ => fun
  | [d1, d2] => { results := [.lit (.bool false)], args := [d1, d2] }
  | _ => none }
def MerkleFrontiersWrongFalsely : Prop := merkleFrontiersRow.holds Try.pinned (OpenSpec.ofChange merkleFrontiersWrong)

/- THE SECOND FORM. 'bulk': how many values and letters a reading holds, each counted each time it is reached (what is shared counts as often as it is met; a slice's spare places count too). A statement '..UptoSaid' is the law's where the arguments, and the package variables that the reading takes, are together of bulk at most 1048576: NARROWER than '..Said'. Prove '..Said' where nothing that the law and all that it calls make is longer than what came in: it says more and counts as full. Else prove '..UptoSaid'. A law counts once. -/
mutual
def uptoBulk {H : Type} : DataW H → Nat
  | .lit (.string bytes) => bytes.length + 1
  | .lit _ => 1
  | .nil => 1
  | .ptr d => uptoBulk d + 1
  | .slice elems spare => uptoBulkAll elems + uptoBulkAll spare + 1
  | .agg parts => uptoBulkAll parts + 1
  | .iface _ d => uptoBulk d + 1
  | .map entries => uptoBulkEntries entries + 1
  | .held _ => 1
def uptoBulkAll {H : Type} : List (DataW H) → Nat
  | [] => 0
  | d :: r => uptoBulk d + uptoBulkAll r
def uptoBulkEntries {H : Type} : List (Lit × DataW H) → Nat
  | [] => 0
  | x :: r => uptoBulkEntry x + uptoBulkEntries r
def uptoBulkEntry {H : Type} : Lit × DataW H → Nat
  | (.string bytes, d) => bytes.length + uptoBulk d + 1
  | (_, d) => uptoBulk d + 1
 end
def uptoSmall : (H : Type) → List (DataW H) → Bool := fun _ ds => decide (uptoBulkAll ds ≤ 1048576)
def OpenSpec.upto (s : _root_.Go.ChangeSpec) : _root_.Go.OpenSpec := { _root_.Go.OpenSpec.ofChange s with cond := some uptoSmall }

/-- 'hallmarklaw03.MerkleRoots', WHERE WHAT IT READS IS OF BULK AT MOST 1048576: true; the input reads as it did. -/
def merkleRootsUptoRow : OpenClaim := { program := "ytpohjldhbaalbaa", sum := "e06fb5eaf69970c5f71cfae22d3ff39747d5b362dc84f8cdffb09376dd1841fc", func := "hallmark/hallmarklaw03.MerkleRoots", spec := "merkleRoots", recurses := true, apart := false, narrowed := true }
def MerkleRootsUptoSaid : Prop := merkleRootsUptoRow.holds Try.pinned (OpenSpec.upto merkleRootsSpec)

/-- 'hallmarklaw03.MerklePaths', WHERE WHAT IT READS IS OF BULK AT MOST 1048576: true; the input reads as it did. -/
def merklePathsUptoRow : OpenClaim := { program := "ytpohjldhbaalbaa", sum := "e06fb5eaf69970c5f71cfae22d3ff39747d5b362dc84f8cdffb09376dd1841fc", func := "hallmark/hallmarklaw03.MerklePaths", spec := "merklePaths", recurses := true, apart := false, narrowed := true }
def MerklePathsUptoSaid : Prop := merklePathsUptoRow.holds Try.pinned (OpenSpec.upto merklePathsSpec)

/-- 'hallmarklaw03.MerkleChecks', WHERE WHAT IT READS IS OF BULK AT MOST 1048576: true; the input reads as it did. -/
def merkleChecksUptoRow : OpenClaim := { program := "ytpohjldhbaalbaa", sum := "e06fb5eaf69970c5f71cfae22d3ff39747d5b362dc84f8cdffb09376dd1841fc", func := "hallmark/hallmarklaw03.MerkleChecks", spec := "merkleChecks", recurses := true, apart := false, narrowed := true }
def MerkleChecksUptoSaid : Prop := merkleChecksUptoRow.holds Try.pinned (OpenSpec.upto merkleChecksSpec)

/-- 'hallmarklaw03.MerkleApart', WHERE WHAT IT READS IS OF BULK AT MOST 1048576: true; the input reads as it did. -/
def merkleApartUptoRow : OpenClaim := { program := "ytpohjldhbaalbaa", sum := "e06fb5eaf69970c5f71cfae22d3ff39747d5b362dc84f8cdffb09376dd1841fc", func := "hallmark/hallmarklaw03.MerkleApart", spec := "merkleApart", recurses := true, apart := false, narrowed := true }
def MerkleApartUptoSaid : Prop := merkleApartUptoRow.holds Try.pinned (OpenSpec.upto merkleApartSpec)

/-- 'hallmarklaw03.MerkleExtends', WHERE WHAT IT READS IS OF BULK AT MOST 1048576: true; the input reads as it did. -/
def merkleExtendsUptoRow : OpenClaim := { program := "ytpohjldhbaalbaa", sum := "e06fb5eaf69970c5f71cfae22d3ff39747d5b362dc84f8cdffb09376dd1841fc", func := "hallmark/hallmarklaw03.MerkleExtends", spec := "merkleExtends", recurses := true, apart := false, narrowed := true }
def MerkleExtendsUptoSaid : Prop := merkleExtendsUptoRow.holds Try.pinned (OpenSpec.upto merkleExtendsSpec)

/-- 'hallmarklaw03.MerkleStays', WHERE WHAT IT READS IS OF BULK AT MOST 1048576: true; the input reads as it did. -/
def merkleStaysUptoRow : OpenClaim := { program := "ytpohjldhbaalbaa", sum := "e06fb5eaf69970c5f71cfae22d3ff39747d5b362dc84f8cdffb09376dd1841fc", func := "hallmark/hallmarklaw03.MerkleStays", spec := "merkleStays", recurses := true, apart := false, narrowed := true }
def MerkleStaysUptoSaid : Prop := merkleStaysUptoRow.holds Try.pinned (OpenSpec.upto merkleStaysSpec)

/-- 'hallmarklaw03.MerkleNil', WHERE WHAT IT READS IS OF BULK AT MOST 1048576: true; the input reads as it did. -/
def merkleNilUptoRow : OpenClaim := { program := "ytpohjldhbaalbaa", sum := "e06fb5eaf69970c5f71cfae22d3ff39747d5b362dc84f8cdffb09376dd1841fc", func := "hallmark/hallmarklaw03.MerkleNil", spec := "merkleNil", recurses := true, apart := false, narrowed := true }
def MerkleNilUptoSaid : Prop := merkleNilUptoRow.holds Try.pinned (OpenSpec.upto merkleNilSpec)

/-- 'hallmarklaw03.MerkleProofs', WHERE WHAT IT READS IS OF BULK AT MOST 1048576: true; the input reads as it did. -/
def merkleProofsUptoRow : OpenClaim := { program := "ytpohjldhbaalbaa", sum := "e06fb5eaf69970c5f71cfae22d3ff39747d5b362dc84f8cdffb09376dd1841fc", func := "hallmark/hallmarklaw03.MerkleProofs", spec := "merkleProofs", recurses := true, apart := false, narrowed := true }
def MerkleProofsUptoSaid : Prop := merkleProofsUptoRow.holds Try.pinned (OpenSpec.upto merkleProofsSpec)

/-- 'hallmarklaw03.MerkleLoads', WHERE WHAT IT READS IS OF BULK AT MOST 1048576: true; the input reads as it did. -/
def merkleLoadsUptoRow : OpenClaim := { program := "ytpohjldhbaalbaa", sum := "e06fb5eaf69970c5f71cfae22d3ff39747d5b362dc84f8cdffb09376dd1841fc", func := "hallmark/hallmarklaw03.MerkleLoads", spec := "merkleLoads", recurses := true, apart := false, narrowed := true }
def MerkleLoadsUptoSaid : Prop := merkleLoadsUptoRow.holds Try.pinned (OpenSpec.upto merkleLoadsSpec)

/-- 'hallmarklaw03.MerkleFrontiers', WHERE WHAT IT READS IS OF BULK AT MOST 1048576: true; the input reads as it did. -/
def merkleFrontiersUptoRow : OpenClaim := { program := "ytpohjldhbaalbaa", sum := "e06fb5eaf69970c5f71cfae22d3ff39747d5b362dc84f8cdffb09376dd1841fc", func := "hallmark/hallmarklaw03.MerkleFrontiers", spec := "merkleFrontiers", recurses := true, apart := false, narrowed := true }
def MerkleFrontiersUptoSaid : Prop := merkleFrontiersUptoRow.holds Try.pinned (OpenSpec.upto merkleFrontiersSpec)

end Rows
end Go.Proofs.Ytpohjldhbaalbaa
