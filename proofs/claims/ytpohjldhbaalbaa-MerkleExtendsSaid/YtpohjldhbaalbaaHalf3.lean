/- The contracts of split and Half. -/
import Derived.Test.YtpohjldhbaalbaaOwn32
import Derived.Test.YtpohjldhbaalbaaMerkleLaw
import Derived.Test.YtpohjldhbaalbaaLen3
namespace Go.Proofs.Ytpohjldhbaalbaa
set_option linter.unusedVariables false
set_option linter.unusedSimpArgs false
set_option linter.unusedSectionVars false
open Go.RowKit
set_option linter.unusedVariables false

theorem pow_lt_63 {j : Nat} (h : j < 63) : 2 ^ j < 9223372036854775808 := Nat.pow_lt_pow_right (by omega) h
set_option maxHeartbeats 4000000 in
set_option maxRecDepth 100000 in
theorem split_any (n : Nat) (w : World) (h2 : 2 ≤ n) (h3 : n ≤ 9223372036854775807) :
    Calls Try.prog 46 #[.int .i64 (n : Int)] w fun e w' => e = .returned (.int .i64 (half n : Int)) ∧ w' = w := by
  obtain ⟨j, hj⟩ : ∃ j, j = Nat.log2 (n - 1) := ⟨_, rfl⟩
  have hb : Lib.bitLen (n - 1) = j + 1 := by rw [bitLen_log2 64 (n - 1) (by omega) (by omega) (by omega), hj]
  have hh : half n = 2 ^ j := by rw [hj]; rfl
  have hlt := half_lt h2
  rw [hh] at hlt ⊢
  have hj62 : j < 63 := by
    refine Classical.byContradiction fun h => ?_
    have : 2 ^ 63 ≤ 2 ^ j := Nat.pow_le_pow_right (by omega) (by omega)
    omega
  have hc := fun W => len_any (n - 1 : Int) W (by omega) (by omega)
  rw [show (n - 1 : Int).toNat = n - 1 by omega, hb] at hc
  have n0 : (2 : Int) ≤ (n : Int) := by omega
  have n1 : (n : Int) ≤ 9223372036854775807 := by omega
  have j0 : (0 : Int) ≤ (j : Int) := by omega
  have j1 : (j : Int) < 63 := by omega
  have hpow := pow_lt_63 hj62
  have hpow0 := Nat.two_pow_pos j
  obtain ⟨p, hp⟩ : ∃ p, p = 2 ^ j := ⟨_, rfl⟩
  have HP := Lib.hid hp
  have e1 : ((j + 1 : Nat) : Int) = (j : Int) + 1 := by omega
  rw [e1] at hc
  have e2 : (n - 1 : Int) % 18446744073709551616 = n - 1 := by omega
  clear hb hh hj hj62 hp hlt
  go_enter Try.func46, Try.ntmps46
  go_wp2_with fail
  refine (hc _).mono ?_
  rintro e w' ⟨rfl, rfl⟩
  go_wp2_with fail
  go_ret
  refine ⟨?_, rfl⟩
  show Ending.returned (.int .i64 (wrap64 ((2 : Int) ^ j))) = Ending.returned (.int .i64 ((2 ^ j : Nat) : Int))
  have e : (2 : Int) ^ j = ((2 ^ j : Nat) : Int) := by simp
  rw [e]
  obtain ⟨q, hq⟩ : ∃ q, q = 2 ^ j := ⟨_, rfl⟩
  rw [← hq] at hpow ⊢
  have e2 : wrap64 (q : Int) = (q : Int) := by unfold wrap64; omega
  rw [e2]

set_option maxHeartbeats 4000000 in
set_option maxRecDepth 100000 in
theorem rhalf_any (n : Nat) (w : World) (h2 : 2 ≤ n) (h3 : n ≤ 9223372036854775807) :
    Calls Try.prog 47 #[.int .i64 (n : Int)] w fun e w' => e = .returned (.int .i64 (half n : Int)) ∧ w' = w := by
  have n0 : (2 : Int) ≤ (n : Int) := by omega
  have n1 : (n : Int) ≤ 9223372036854775807 := by omega
  go_enter Try.func47, Try.ntmps47
  go_wp2
  go_loopw [3] (fun kv wr => ∃ k : Nat, k < n ∧ 0 < k ∧ kv = .int .i64 (k : Int) ∧ Hid (∃ j, k = 2 ^ j) ∧ wr = w) (fun kv _ => n - (intOf kv).toNat)
  case atStart => exact ⟨1, by omega, by omega, rfl, Lib.hid ⟨0, rfl⟩, rfl⟩
  case round =>
    obtain ⟨k, hk, hk0, rfl, HJ, rfl⟩ := hrel
    have k0 : (0 : Int) < (k : Int) := by omega
    have k1 : (k : Int) < (n : Int) := by omega
    by_cases hlt : k < n - k
    · have q1 : (k : Int) < (n : Int) - (k : Int) := by omega
      have HK := Lib.hid (show k < n - k from hlt)
      clear hlt hk hk0
      go_wp2
      go_roundw
      case rel => exact ⟨2 * k, by have := HK.out; omega, by omega, by go_num, Lib.hid (by obtain ⟨j, hj⟩ := HJ.out; exact ⟨j + 1, by rw [hj, Nat.pow_succ]; omega⟩), by trivial⟩
      case measure => have := HK.out; simp [intOf] <;> omega
    · have q1 : ¬ (k : Int) < (n : Int) - (k : Int) := by omega
      have HR := Lib.hid (show half n = k by obtain ⟨j, hj⟩ := HJ.out; rw [hj]; exact half_unique (by omega) (by omega))
      clear hlt hk hk0
      go_wp2
      go_ret
      exact ⟨by rw [HR.out]; rfl, rfl⟩
end Go.Proofs.Ytpohjldhbaalbaa
