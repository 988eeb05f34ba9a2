/- The statement 'MerkleNil': for every input the law returns true and its arguments read as they did. No condition. Out of the walk 'walk_MerkleNil'. -/
import Derived.Test.YtpohjldhbaalbaaRows
import Derived.Test.YtpohjldhbaalbaaMerkleNil
import Derived.Test.YtpohjldhbaalbaaOpenN
import Derived.ShutString
import Derived.ChangeOld
import Derived.Below
namespace Go.Proofs.Ytpohjldhbaalbaa.merkleNil
set_option linter.unusedVariables false
set_option linter.unusedSimpArgs false
set_option linter.unusedSectionVars false
open Go.ChangeShapes Go.WideShapes Go.ChangeAt Go.RowKit
open Go.ChangeMaps (open_string shut_string)

theorem own : ownKnob Try.prog.godebug = none := by kernel_rfl
theorem laidOut : laidOutB Try.prog = true := by kernel_rfl

set_option maxRecDepth 100000 in
theorem lifted (os : Os) (started : os.Started) (H : Type) (enc : TypeId × Value → H) :
    ReturnsInHanded {} Try.checked os 9 .any (Rows.merkleNilSpec.pre6 enc Try.prog Try.f9 Rows.merkleNilRow.domain false) (Rows.merkleNilSpec.post enc Try.prog Try.f9 false true false false) := by
  refine returnsInHanded_of_change_sized (C := Try.checked) own started (by kernel_rfl) Try.func9
    (ChangeSpec.witness6 (enc := enc) (C := Try.checked) false ⟨#[], #[.slice none 0 0], []⟩ 8 (by kernel_rfl) (by kernel_rfl) (by kernel_rfl) (by kernel_rfl)) ?_
  intro W base args ds gs before hval0 hW hcnd hsz0 _
  have hval : ∀ (j : Nat) t v, Try.f9.params[j]? = some t → args[j]? = some v → Value.okWide Try.prog W .any base t v := hval0
  have hsz : (DataW.weightsEach Try.prog (Try.f9.params.toList ++ Rows.merkleNilSpec.plain.varTypes Try.prog) (ds ++ gs)).all (· ≤ reachBytes) = true := hsz0
  have hW' := hW
  obtain ⟨p, q, hA0, hV, rfl, hfz, hnd⟩ := hW
  have hA : DataW.TrodAll enc Try.prog W 0 (fun _ => true) true Try.f9.params.toList args.toList ds p := hA0
  rw [Try.params9] at hA hval hsz
  obtain ⟨v0, vs0, d0, ds0, p0, q0, hargs, rfl, rfl, h0, r0⟩ := trodAll_cons hA
  obtain ⟨rfl, rfl, rfl⟩ := trodAll_nil r0
  obtain rfl : args = #[v0] := by cases args; simp_all
  obtain ⟨rfl, rfl⟩ := trodVars_none hV
  have k0 := h0
  have lt0 : ∀ x ∈ p0, x.block < W.heap.size := by obtain ⟨m, hm⟩ := k0; exact DataW.trod_lt m _ _ _ hm
  obtain ⟨A0, n0, c0, b0, rfl, hn0, hb0, hs0⟩ := open_slice8 Try.underlying22 (c := 32) (by kernel_rfl) (flat8_array (n := 32) (c := 1) Try.underlying26 (by kernel_rfl) (by kernel_rfl) (flat8_u8 Try.underlying5)) (hval 0 22 v0 rfl rfl) h0
  have hr0 := hs0.reach hsz (j := 0) (t := 22) (e := 26) rfl rfl Try.underlying22
  rw [show Try.prog.bytesOf 26 = 32 from by kernel_rfl] at hr0
  have hnil0 := nil_slice Try.underlying22 h0
  clear hA0 hval0 hsz0
  refine (walk_MerkleNil W A0 n0 c0 b0 hn0 hb0 hs0.le hr0 hnil0).mono fun e W' ⟨he, bel'⟩ => ?_
  have bel := grownBy_below bel'
  subst he
  exact ⟨_, rfl, _, _, _, [], _, [], hW', trodAll_mk1 (shut_bool Try.underlying4 _), (trodAll_cons_mk (Below.trod laidOut (by kernel_rfl) (of_decide_eq_true (by kernel_rfl)) k0 bel lt0) trodAll_mk0), rfl, bel.frame _, fun h => by cases h⟩

theorem over : Rows.merkleNilRow.holds Try.pinned (OpenSpec.ofChange Rows.merkleNilSpec) :=
  OpenClaim.holds_of_wide 9 Try.f9 rfl rfl rfl rfl rfl rfl rfl ⟨rfl, rfl, rfl, rfl, rfl⟩ rfl rfl rfl rfl rfl (by kernel_rfl) Try.func9 (by kernel_rfl)
    (of_decide_eq_true (by kernel_rfl)) (by unfold Func.isWrapper; rw [if_neg (of_decide_eq_false (by kernel_rfl))]; exact ⟨rfl, rfl⟩)
    (fun os started H enc _ => lifted os started H enc)
/-- The given statement. -/
theorem proved : Rows.MerkleNilSaid := over
#print axioms proved
end Go.Proofs.Ytpohjldhbaalbaa.merkleNil
