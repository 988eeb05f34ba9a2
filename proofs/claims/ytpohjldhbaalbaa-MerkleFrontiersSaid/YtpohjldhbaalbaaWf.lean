/- Numbers that came in, as bytes and as natural numbers. -/
import Derived.Test.YtpohjldhbaalbaaMem
namespace Go.Proofs.Ytpohjldhbaalbaa
set_option linter.unusedVariables false
set_option linter.unusedSimpArgs false
set_option linter.unusedSectionVars false
theorem of_u8 {x : Int} (h : (Lit.int .u8 x).wf = true) : ∃ c : UInt8, x = n8 c := by
  simp [Lit.wf, IntKind.min, IntKind.max, IntKind.signed, IntKind.bits] at h
  refine ⟨UInt8.ofNat x.toNat, ?_⟩
  unfold n8
  rw [UInt8.toNat_ofNat', Nat.mod_eq_of_lt (by omega)]
  omega
theorem of_u32 {x : Int} (h : (Lit.int .u32 x).wf = true) : ∃ k : Nat, x = (k : Int) ∧ k < 4294967296 := by
  simp [Lit.wf, IntKind.min, IntKind.max, IntKind.signed, IntKind.bits] at h
  exact ⟨x.toNat, by omega, by omega⟩
theorem of_i64 {x : Int} (h : (Lit.int .i64 x).wf = true) : -9223372036854775808 ≤ x ∧ x ≤ 9223372036854775807 := by
  simp [Lit.wf, IntKind.min, IntKind.max, IntKind.signed, IntKind.bits] at h
  omega
end Go.Proofs.Ytpohjldhbaalbaa
