/- The statement 'MerkleApart': for every input the law returns true and its arguments read as they did. No condition. Out of the walk 'walk_MerkleApart'. -/
import Derived.Test.YtpohjldhbaalbaaRows
import Derived.Test.YtpohjldhbaalbaaMerkleApart
import Derived.Test.YtpohjldhbaalbaaOpenN
import Derived.ShutString
import Derived.ChangeOld
import Derived.Below
namespace Go.Proofs.Ytpohjldhbaalbaa.merkleApart
set_option linter.unusedVariables false
set_option linter.unusedSimpArgs false
set_option linter.unusedSectionVars false
open Go.ChangeShapes Go.WideShapes Go.ChangeAt Go.RowKit
open Go.ChangeMaps (open_string shut_string)

theorem own : ownKnob Try.prog.godebug = none := by kernel_rfl
theorem laidOut : laidOutB Try.prog = true := by kernel_rfl

set_option maxRecDepth 100000 in
theorem lifted (os : Os) (started : os.Started) (H : Type) (enc : TypeId × Value → H) :
    ReturnsInHanded {} Try.checked os 6 .any (Rows.merkleApartSpec.pre6 enc Try.prog Try.f6 Rows.merkleApartRow.domain false) (Rows.merkleApartSpec.post enc Try.prog Try.f6 false true false false) := by
  refine returnsInHanded_of_change_sized (C := Try.checked) own started (by kernel_rfl) Try.func6
    (ChangeSpec.witness6 (enc := enc) (C := Try.checked) false ⟨#[], #[.slice none 0 0, .int .i64 0, .agg (Array.replicate 32 (.int .u8 0)), .slice none 0 0], []⟩ 8 (by kernel_rfl) (by kernel_rfl) (by kernel_rfl) (by kernel_rfl)) ?_
  intro W base args ds gs before hval0 hW hcnd hsz0 _
  have hval : ∀ (j : Nat) t v, Try.f6.params[j]? = some t → args[j]? = some v → Value.okWide Try.prog W .any base t v := hval0
  have hsz : (DataW.weightsEach Try.prog (Try.f6.params.toList ++ Rows.merkleApartSpec.plain.varTypes Try.prog) (ds ++ gs)).all (· ≤ reachBytes) = true := hsz0
  have hW' := hW
  obtain ⟨p, q, hA0, hV, rfl, hfz, hnd⟩ := hW
  have hA : DataW.TrodAll enc Try.prog W 0 (fun _ => true) true Try.f6.params.toList args.toList ds p := hA0
  rw [Try.params6] at hA hval hsz
  obtain ⟨v0, vs0, d0, ds0, p0, q0, hargs, rfl, rfl, h0, r0⟩ := trodAll_cons hA
  obtain ⟨v1, vs1, d1, ds1, p1, q1, rfl, rfl, rfl, h1, r1⟩ := trodAll_cons r0
  obtain ⟨v2, vs2, d2, ds2, p2, q2, rfl, rfl, rfl, h2, r2⟩ := trodAll_cons r1
  obtain ⟨v3, vs3, d3, ds3, p3, q3, rfl, rfl, rfl, h3, r3⟩ := trodAll_cons r2
  obtain ⟨rfl, rfl, rfl⟩ := trodAll_nil r3
  obtain rfl : args = #[v0, v1, v2, v3] := by cases args; simp_all
  obtain ⟨rfl, rfl⟩ := trodVars_none hV
  have k0 := h0
  have lt0 : ∀ x ∈ p0, x.block < W.heap.size := by obtain ⟨m, hm⟩ := k0; exact DataW.trod_lt m _ _ _ hm
  have k2 := h2
  have lt2 : ∀ x ∈ p2, x.block < W.heap.size := by obtain ⟨m, hm⟩ := k2; exact DataW.trod_lt m _ _ _ hm
  have k3 := h3
  have lt3 : ∀ x ∈ p3, x.block < W.heap.size := by obtain ⟨m, hm⟩ := k3; exact DataW.trod_lt m _ _ _ hm
  obtain ⟨A0, n0, c0, b0, rfl, hn0, hb0, hs0⟩ := open_slice8 Try.underlying22 (c := 32) (by kernel_rfl) (flat8_array (n := 32) (c := 1) Try.underlying26 (by kernel_rfl) (by kernel_rfl) (flat8_u8 Try.underlying5)) (hval 0 22 v0 rfl rfl) h0
  have hr0 := hs0.reach hsz (j := 0) (t := 22) (e := 26) rfl rfl Try.underlying22
  rw [show Try.prog.bytesOf 26 = 32 from by kernel_rfl] at hr0
  have hnil0 := nil_slice Try.underlying22 h0
  obtain ⟨a1, rfl, rfl, rfl, w1⟩ := open_int Try.underlying3 (hval 1 3 v1 rfl rfl) h1
  obtain ⟨b2, hb2, rfl⟩ := flat8_value Try.underlying26 (flat8_array (n := 32) (c := 1) Try.underlying26 (by kernel_rfl) (by kernel_rfl) (flat8_u8 Try.underlying5)) (hval 2 26 v2 rfl rfl) h2
  obtain ⟨A3, n3, c3, b3, rfl, hn3, hb3, hs3⟩ := open_slice8 Try.underlying22 (c := 32) (by kernel_rfl) (flat8_array (n := 32) (c := 1) Try.underlying26 (by kernel_rfl) (by kernel_rfl) (flat8_u8 Try.underlying5)) (hval 3 22 v3 rfl rfl) h3
  have hr3 := hs3.reach hsz (j := 3) (t := 22) (e := 26) rfl rfl Try.underlying22
  rw [show Try.prog.bytesOf 26 = 32 from by kernel_rfl] at hr3
  have hnil3 := nil_slice Try.underlying22 h3
  clear hA0 hval0 hsz0
  refine (walk_MerkleApart W A0 n0 c0 b0 hn0 hb0 hs0.le hr0 hnil0 a1 w1 b2 (by simpa using hb2) A3 n3 c3 b3 hn3 hb3 hs3.le hr3 hnil3).mono fun e W' ⟨he, bel'⟩ => ?_
  have bel := grownBy_below bel'
  subst he
  exact ⟨_, rfl, _, _, _, [], _, [], hW', trodAll_mk1 (shut_bool Try.underlying4 _), (trodAll_cons_mk (Below.trod laidOut (by kernel_rfl) (of_decide_eq_true (by kernel_rfl)) k0 bel lt0) (trodAll_cons_mk (shut_int Try.underlying3 w1) (trodAll_cons_mk (Below.trod laidOut (by kernel_rfl) (of_decide_eq_true (by kernel_rfl)) k2 bel lt2) (trodAll_cons_mk (Below.trod laidOut (by kernel_rfl) (of_decide_eq_true (by kernel_rfl)) k3 bel lt3) trodAll_mk0)))), rfl, bel.frame _, fun h => by cases h⟩

theorem over : Rows.merkleApartRow.holds Try.pinned (OpenSpec.ofChange Rows.merkleApartSpec) :=
  OpenClaim.holds_of_wide 6 Try.f6 rfl rfl rfl rfl rfl rfl rfl ⟨rfl, rfl, rfl, rfl, rfl⟩ rfl rfl rfl rfl rfl (by kernel_rfl) Try.func6 (by kernel_rfl)
    (of_decide_eq_true (by kernel_rfl)) (by unfold Func.isWrapper; rw [if_neg (of_decide_eq_false (by kernel_rfl))]; exact ⟨rfl, rfl⟩)
    (fun os started H enc _ => lifted os started H enc)
/-- The given statement. -/
theorem proved : Rows.MerkleApartSaid := over
#print axioms proved
end Go.Proofs.Ytpohjldhbaalbaa.merkleApart
