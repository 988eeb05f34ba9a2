/- The statement 'MerkleLoads': for every input the law returns true and its arguments read as they did. No condition. Out of the walk 'walk_MerkleLoads'. -/
import Derived.Test.YtpohjldhbaalbaaRows
import Derived.Test.YtpohjldhbaalbaaMerkleLoads
import Derived.Test.YtpohjldhbaalbaaOpenN
import Derived.ShutString
import Derived.ChangeOld
import Derived.Below
namespace Go.Proofs.Ytpohjldhbaalbaa.merkleLoads
set_option linter.unusedVariables false
set_option linter.unusedSimpArgs false
set_option linter.unusedSectionVars false
open Go.ChangeShapes Go.WideShapes Go.ChangeAt Go.RowKit
open Go.ChangeMaps (open_string shut_string)

theorem own : ownKnob Try.prog.godebug = none := by kernel_rfl
theorem laidOut : laidOutB Try.prog = true := by kernel_rfl

set_option maxRecDepth 100000 in
theorem lifted (os : Os) (started : os.Started) (H : Type) (enc : TypeId × Value → H) :
    ReturnsInHanded {} Try.checked os 11 .any (Rows.merkleLoadsSpec.pre6 enc Try.prog Try.f11 Rows.merkleLoadsRow.domain false) (Rows.merkleLoadsSpec.post enc Try.prog Try.f11 false true false false) := by
  refine returnsInHanded_of_change_sized (C := Try.checked) own started (by kernel_rfl) Try.func11
    (ChangeSpec.witness6 (enc := enc) (C := Try.checked) false ⟨#[], #[.int .i64 0, .slice none 0 0, .agg (Array.replicate 32 (.int .u8 0))], []⟩ 8 (by kernel_rfl) (by kernel_rfl) (by kernel_rfl) (by kernel_rfl)) ?_
  intro W base args ds gs before hval0 hW hcnd hsz0 _
  have hval : ∀ (j : Nat) t v, Try.f11.params[j]? = some t → args[j]? = some v → Value.okWide Try.prog W .any base t v := hval0
  have hsz : (DataW.weightsEach Try.prog (Try.f11.params.toList ++ Rows.merkleLoadsSpec.plain.varTypes Try.prog) (ds ++ gs)).all (· ≤ reachBytes) = true := hsz0
  have hW' := hW
  obtain ⟨p, q, hA0, hV, rfl, hfz, hnd⟩ := hW
  have hA : DataW.TrodAll enc Try.prog W 0 (fun _ => true) true Try.f11.params.toList args.toList ds p := hA0
  rw [Try.params11] at hA hval hsz
  obtain ⟨v0, vs0, d0, ds0, p0, q0, hargs, rfl, rfl, h0, r0⟩ := trodAll_cons hA
  obtain ⟨v1, vs1, d1, ds1, p1, q1, rfl, rfl, rfl, h1, r1⟩ := trodAll_cons r0
  obtain ⟨v2, vs2, d2, ds2, p2, q2, rfl, rfl, rfl, h2, r2⟩ := trodAll_cons r1
  obtain ⟨rfl, rfl, rfl⟩ := trodAll_nil r2
  obtain rfl : args = #[v0, v1, v2] := by cases args; simp_all
  obtain ⟨rfl, rfl⟩ := trodVars_none hV
  have k1 := h1
  have lt1 : ∀ x ∈ p1, x.block < W.heap.size := by obtain ⟨m, hm⟩ := k1; exact DataW.trod_lt m _ _ _ hm
  have k2 := h2
  have lt2 : ∀ x ∈ p2, x.block < W.heap.size := by obtain ⟨m, hm⟩ := k2; exact DataW.trod_lt m _ _ _ hm
  obtain ⟨a0, rfl, rfl, rfl, w0⟩ := open_int Try.underlying3 (hval 0 3 v0 rfl rfl) h0
  obtain ⟨A1, n1, c1, b1, rfl, hn1, hb1, hs1⟩ := open_slice8 Try.underlying22 (c := 32) (by kernel_rfl) (flat8_array (n := 32) (c := 1) Try.underlying26 (by kernel_rfl) (by kernel_rfl) (flat8_u8 Try.underlying5)) (hval 1 22 v1 rfl rfl) h1
  have hr1 := hs1.reach hsz (j := 1) (t := 22) (e := 26) rfl rfl Try.underlying22
  rw [show Try.prog.bytesOf 26 = 32 from by kernel_rfl] at hr1
  have hnil1 := nil_slice Try.underlying22 h1
  obtain ⟨b2, hb2, rfl⟩ := flat8_value Try.underlying26 (flat8_array (n := 32) (c := 1) Try.underlying26 (by kernel_rfl) (by kernel_rfl) (flat8_u8 Try.underlying5)) (hval 2 26 v2 rfl rfl) h2
  clear hA0 hval0 hsz0
  refine (walk_MerkleLoads W a0 w0 A1 n1 c1 b1 hn1 hb1 hs1.le hr1 hnil1 b2 (by simpa using hb2)).mono fun e W' ⟨he, bel'⟩ => ?_
  have bel := grownBy_below bel'
  subst he
  exact ⟨_, rfl, _, _, _, [], _, [], hW', trodAll_mk1 (shut_bool Try.underlying4 _), (trodAll_cons_mk (shut_int Try.underlying3 w0) (trodAll_cons_mk (Below.trod laidOut (by kernel_rfl) (of_decide_eq_true (by kernel_rfl)) k1 bel lt1) (trodAll_cons_mk (Below.trod laidOut (by kernel_rfl) (of_decide_eq_true (by kernel_rfl)) k2 bel lt2) trodAll_mk0))), rfl, bel.frame _, fun h => by cases h⟩

theorem over : Rows.merkleLoadsRow.holds Try.pinned (OpenSpec.ofChange Rows.merkleLoadsSpec) :=
  OpenClaim.holds_of_wide 11 Try.f11 rfl rfl rfl rfl rfl rfl rfl ⟨rfl, rfl, rfl, rfl, rfl⟩ rfl rfl rfl rfl rfl (by kernel_rfl) Try.func11 (by kernel_rfl)
    (of_decide_eq_true (by kernel_rfl)) (by unfold Func.isWrapper; rw [if_neg (of_decide_eq_false (by kernel_rfl))]; exact ⟨rfl, rfl⟩)
    (fun os started H enc _ => lifted os started H enc)
/-- The given statement. -/
theorem proved : Rows.MerkleLoadsSaid := over
#print axioms proved
end Go.Proofs.Ytpohjldhbaalbaa.merkleLoads
